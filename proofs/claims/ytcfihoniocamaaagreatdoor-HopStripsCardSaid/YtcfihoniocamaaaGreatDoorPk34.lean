/- surrogate.Can: the walk. -/
import Derived.Test.YtcfihoniocamaaaGreatDoorPk33
import Derived.Test.YtcfihoniocamaaaGreatDoorPk6
import Derived.Test.YtcfihoniocamaaaGreatDoorPk4
namespace Go.Proofs.YtcfihoniocamaaaGreatDoor
open Go.RowKit Go.Sort Go.Shelf
set_option linter.unusedVariables false

def esiW : List UInt8 := [69, 83, 73, 47, 49, 46, 48]
theorem trim_le2 (l : List UInt8) : (trim l).length ≤ l.length := by
  unfold trim trimL trimR
  refine Nat.le_trans (List.dropWhile_sublist _).length_le ?_
  rw [List.length_reverse]
  refine Nat.le_trans (List.dropWhile_sublist _).length_le ?_
  rw [List.length_reverse]
  exact Nat.le_refl _
def esiQ : List UInt8 := [61, 34, 69, 83, 73, 47, 49, 46, 48, 34]

set_option maxHeartbeats 1600000 in
set_option maxRecDepth 100000 in
theorem surCan_bad (s d : List UInt8) (hs : s.length ≤ 1000000) (hd : d.length ≤ 1000000) (ht : tokenL d = false) (w : World) :
    Calls Tryz.prog 21 #[.string (S s), .string (S d)] w fun e w' => e = .returned (.tuple #[.string (S []), .int .i64 11]) ∧ Below w.heap.size w w' := by
  have TK := Lib.hid (fun W => textToken d (by omega) W)
  rw [ht] at TK
  clear ht
  go_enter Tryz.func21, Tryz.ntmps21
  go_wp2_with (first
    | (go_at_call 42; refine Calls.mono (TK.out _) ?_; rintro e w1 ⟨rfl, hb1⟩; have HB1 := Lib.hid hb1; clear hb1)
    | fail)
  go_ret2
  exact ⟨rfl, HB1.out⟩
set_option maxHeartbeats 1600000 in
set_option maxRecDepth 100000 in
theorem surCan_ok (s d : List UInt8) (hs : s.length ≤ 1000000) (hd : d.length ≤ 1000000) (ht : tokenL d = true) (w : World) :
    Calls Tryz.prog 21 #[.string (S s), .string (S d)] w fun e w' => e = .returned (.tuple #[.string (S ((if (trim s).isEmpty = true then [] else trim s ++ [44, 32]) ++ (d ++ esiQ))), .int .i64 0]) ∧ Below w.heap.size w w' := by
  have TK := Lib.hid (fun W => textToken d (by omega) W)
  rw [ht] at TK
  have QU := Lib.hid (fun W => textQuote esiW (by decide) W)
  rw [show (if esiW.any ctlB = true then ([] : List UInt8) else quoteT esiW) = [34, 69, 83, 73, 47, 49, 46, 48, 34] by decide, show (if esiW.any ctlB = true then (11 : Int) else 0) = 0 by decide] at QU
  unfold esiW at QU
  have TR := Lib.hid (fun W => textTrim s (by omega) W)
  have htl := trim_le2 s
  have hdi : (d.length : Int) ≤ 1000000 := by omega
  obtain ⟨t, htt⟩ : ∃ t, trim s = t := ⟨_, rfl⟩
  rw [htt] at TR htl ⊢
  have hti : (t.length : Int) ≤ 1000000 := by omega
  unfold esiQ
  clear ht htt
  cases he : t.isEmpty with
  | true =>
    obtain rfl : t = [] := List.isEmpty_iff.1 he
    rw [if_pos rfl]
    go_enter Tryz.func21, Tryz.ntmps21
    go_wp2_with (first
      | (go_at_call 42; refine Calls.mono (TK.out _) ?_; rintro e w1 ⟨rfl, hb1⟩; have HB1 := Lib.hid hb1; clear hb1)
      | (go_at_call 43; refine Calls.mono (QU.out _) ?_; rintro e w2 ⟨rfl, hb2⟩; have HB2 := Lib.hid (HB1.out.trans (hb2.mono HB1.out.size)); clear hb2)
      | (go_at_call 44; refine Calls.mono (TR.out _) ?_; rintro e w3 ⟨rfl, hb3⟩; have HB3 := Lib.hid (HB2.out.trans (hb3.mono HB2.out.size)); clear hb3)
      | fail)
    go_ret2
    exact ⟨by simp, HB3.out⟩
  | false =>
    rw [if_neg (by simp)]
    go_enter Tryz.func21, Tryz.ntmps21
    go_wp2_with (first
      | (go_at_call 42; refine Calls.mono (TK.out _) ?_; rintro e w1 ⟨rfl, hb1⟩; have HB1 := Lib.hid hb1; clear hb1)
      | (go_at_call 43; refine Calls.mono (QU.out _) ?_; rintro e w2 ⟨rfl, hb2⟩; have HB2 := Lib.hid (HB1.out.trans (hb2.mono HB1.out.size)); clear hb2)
      | (go_at_call 44; refine Calls.mono (TR.out _) ?_; rintro e w3 ⟨rfl, hb3⟩; have HB3 := Lib.hid (HB2.out.trans (hb3.mono HB2.out.size)); clear hb3)
      | fail)
    go_ret2
    exact ⟨by simp, HB3.out⟩
end Go.Proofs.YtcfihoniocamaaaGreatDoor
