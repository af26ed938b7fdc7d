/- The law TextQuotes: its walk. -/
import Derived.Test.YtmepcdmjgkmakaaGreatDoorQuoAll
import Derived.Test.YtmepcdmjgkmakaaGreatDoorTextLaw2
import Derived.Test.YtmepcdmjgkmakaaGreatDoorPairsRef3
import Derived.Test.YtmepcdmjgkmakaaGreatDoorRefQuote
namespace Go.Proofs.YtmepcdmjgkmakaaGreatDoor
open Go.RowKit Go.Sort Go.Shelf
set_option linter.unusedVariables false

set_option maxHeartbeats 1600000 in
set_option maxRecDepth 100000 in
theorem textQuotes_any (s : ByteArray) (w : World) (h0 : s.size ≤ maxLen) (_hL : True) :
    Calls Tryz.prog 3 #[.string s] w fun e w' => e = .returned (.bool true) ∧ Below w.heap.size w w' := by
  obtain ⟨l, rfl⟩ := S_of s
  rw [S_size] at h0
  have C1 := Lib.hid (fun W => short l h0 W)
  obtain ⟨x, hx, hxl⟩ : ∃ x, l.take 400 = x ∧ x.length ≤ 400 := ⟨_, rfl, by simp; omega⟩
  rw [hx] at C1
  clear hx
  have AL := Lib.hid (fun W => alive W)
  have QA := Lib.hid (fun W => textQuote x (by omega) W)
  have QB := Lib.hid (fun W => refQuote x (by omega) W)
  have UA := Lib.hid (fun W => textUnquote x (by omega) W)
  have UB := Lib.hid (fun W => refUnquote x (by omega) W)
  obtain ⟨q, hq⟩ : ∃ q, (if x.any ctlB = true then ([] : List UInt8) else quoteT x) = q := ⟨_, rfl⟩
  obtain ⟨qe, hqe⟩ : ∃ q, (if x.any ctlB = true then (11 : Int) else 0) = q := ⟨_, rfl⟩
  obtain ⟨u, hu⟩ : ∃ q, unqL x = q := ⟨_, rfl⟩
  obtain ⟨ue, hue⟩ : ∃ q, unqE x = q := ⟨_, rfl⟩
  rw [hq, hqe] at QA QB
  rw [hu, hue] at UA UB
  clear hq hqe hu hue
  go_enter Tryz.func3, Tryz.ntmps3
  go_wp2_with (first
    | (go_at_call 4; refine Calls.mono (C1.out _) ?_; rintro e w' ⟨rfl, hw'⟩; obtain rfl := hw'.symm)
    | (go_at_call 5; refine Calls.mono (QA.out _) ?_; rintro e w1 ⟨rfl, hb1⟩; have HB1 := Lib.hid hb1; clear hb1)
    | (go_at_call 6; refine Calls.mono (QB.out _) ?_; rintro e w' ⟨rfl, hw'⟩; obtain rfl := hw'.symm)
    | (go_at_call 7; refine Calls.mono (UA.out _) ?_; rintro e w2 ⟨rfl, hb2⟩; have HB2 := Lib.hid (HB1.out.trans (hb2.mono HB1.out.size)); clear hb2)
    | (go_at_call 8; refine Calls.mono (UB.out _) ?_; rintro e w' ⟨rfl, hw'⟩; obtain rfl := hw'.symm)
    | (go_at_call 9; refine Calls.mono (AL.out _) ?_; rintro e w3 ⟨rfl, hb3⟩; have HB3 := Lib.hid (HB2.out.trans (hb3.mono HB2.out.size)); clear hb3)
    | fail)
  go_ret
  exact ⟨ret_bool (by simp), HB3.out⟩
end Go.Proofs.YtmepcdmjgkmakaaGreatDoor
