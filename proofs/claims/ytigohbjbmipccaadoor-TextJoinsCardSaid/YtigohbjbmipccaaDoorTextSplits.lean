/- The law TextSplits: its walk. -/
import Derived.Test.YtigohbjbmipccaaDoorTextLaw
namespace Go.Proofs.YtigohbjbmipccaaDoor
open Go.RowKit Go.Sort Go.Shelf
set_option linter.unusedVariables false

theorem u8_nat {n : Int} (h : (Lit.int .u8 n).wf = true) : ∃ m : UInt8, n = (m.toNat : Int) := by
  have : 0 ≤ n ∧ n ≤ 255 := by simpa [Lit.wf, show IntKind.u8.min = 0 from rfl, show IntKind.u8.max = 255 from rfl] using h
  exact ⟨UInt8.ofNat n.toNat, by simp; omega⟩

set_option maxHeartbeats 800000 in
set_option maxRecDepth 100000 in
theorem textSplits_any (s : ByteArray) (b : Int) (w : World) (h0 : s.size ≤ maxLen) (h1 : (Lit.int .u8 b).wf = true) (_hL : True) :
    Calls Tryd.prog 3 #[.string s, .int .u8 b] w fun e w' => e = .returned (.bool true) ∧ Below w.heap.size w w' := by
  obtain ⟨l, rfl⟩ := S_of s
  rw [S_size] at h0
  obtain ⟨c, rfl⟩ := u8_nat h1
  have C1 := Lib.hid (fun W => short l h0 W)
  obtain ⟨x, hx, hxl⟩ : ∃ x, l.take 400 = x ∧ x.length ≤ 400 := ⟨_, rfl, by simp; omega⟩
  rw [hx] at C1
  clear hx h1
  obtain ⟨L, hL⟩ : ∃ L, (splitL c x).getD [] = L := ⟨_, rfl⟩
  obtain ⟨er, her⟩ : ∃ er, errOf (splitL c x) = er := ⟨_, rfl⟩
  have C2 := Lib.hid (fun W => textSplit_to (l := x) (by omega) hL her W)
  have C3 := Lib.hid (fun W => refSplit_to (l := x) (by omega) hL her W)
  clear hL her
  go_enter Tryd.func3, Tryd.ntmps3
  go_wp2_with fail
  refine (C1.out _).mono ?_
  rintro e w' ⟨rfl, rfl⟩
  go_wp2_with fail
  refine (C2.out _).mono ?_
  rintro e w1 ⟨v1, hown1, rfl, hb1⟩
  go_wp2_with fail
  refine (C3.out _).mono ?_
  rintro e w2 ⟨v2, hown2, rfl, hb2⟩
  have R1 := hown1.reads.below hb2
  have R2 := hown2.reads
  have hb12 := hb1.trans (hb2.mono hb1.size)
  clear hown1 hown2 C1 C2 C3
  go_wp2_with fail
  refine (alive _).mono ?_
  rintro e w3 ⟨rfl, hb3⟩
  have C4 := refSame v1 v2 L L w3 (R1.below hb3) (R2.below hb3)
  have hLL : (L == L) = true := by simp
  rw [hLL] at C4
  go_wp2_with fail
  refine C4.mono ?_
  rintro e w4 ⟨rfl, hb4⟩
  have hb := (hb12.trans (hb3.mono hb12.size)).trans (hb4.mono (Nat.le_trans hb12.size hb3.size))
  go_wp2
  go_ret
  exact ⟨rfl, hb⟩
end Go.Proofs.YtigohbjbmipccaaDoor
