/- The law PairsReads: its walk. -/
import Derived.Test.YtpapefegfghakaaDoorPairsLaw
import Derived.Test.YtpapefegfghakaaDoorPairsRef4
namespace Go.Proofs.YtpapefegfghakaaDoor
open Go.RowKit Go.Sort Go.Shelf
set_option linter.unusedVariables false

/-- The library's variable, at a later world. -/
theorem mlen_later {w : World} (h : ∃ m, w.cell? ⟨0, 0, none⟩ = some (.int .i64 m)) (W : World) (hb : Below w.heap.size w W) : ∃ m, W.cell? ⟨0, 0, none⟩ = some (.int .i64 m) := by
  obtain ⟨m, hm⟩ := h
  exact ⟨m, (hb.cell (p := ⟨0, 0, none⟩) (block_lt_of_cell hm)).trans hm⟩
theorem pSame_true (L : List Fld) (v1 v2 : Value) (W : World) (h1 : ReadsF W v1 L) (h2 : ReadsF W v2 L) : Calls Tryd.prog 10 #[v1, v2] W fun e w' => e = .returned (.bool true) ∧ Below W.heap.size W w' := by
  have h := refPSame v1 v2 L L W h1 h2
  rw [show (L == L) = true by simp] at h
  exact h

set_option maxHeartbeats 1600000 in
set_option maxRecDepth 100000 in
theorem pairsReads_any (s name : ByteArray) (w : World) (k1 : s.size ≤ maxLen) (k2 : name.size ≤ maxLen) (_hL : True) (hM : ∃ m, w.cell? ⟨0, 0, none⟩ = some (.int .i64 m)) :
    Calls Tryd.prog 6 #[.string s, .string name] w fun e w' => e = .returned (.bool true) ∧ Below w.heap.size w w' := by
  obtain ⟨l0, rfl⟩ := S_of s
  obtain ⟨m, rfl⟩ := S_of name
  rw [S_size] at k1 k2
  have hm : maxLen = 9223372036854775807 := rfl
  rw [hm] at k1 k2
  clear hm
  have HM := Lib.hid (fun W hb => mlen_later hM W hb)
  have SH := Lib.hid (fun W => pairs_short l0 (by omega) W)
  obtain ⟨t, ht⟩ : ∃ t, l0.take 600 = t := ⟨_, rfl⟩
  have htl : t.length ≤ 600 := by rw [← ht, List.length_take]; omega
  rw [ht] at SH
  have CQ := Lib.hid (fun W h => pairsQuery t (by omega) W h)
  have CC := Lib.hid (fun W h => pairsCookies t (by omega) W h)
  have RQ := Lib.hid (fun W => refPQuery t (by omega) W)
  have RC := Lib.hid (fun W => refPCookies t (by omega) W)
  obtain ⟨Q, hQ⟩ : ∃ Q, queryL t = Q := ⟨_, rfl⟩
  obtain ⟨C, hC⟩ : ∃ C, cookiesL t = C := ⟨_, rfl⟩
  rw [hQ] at CQ RQ
  rw [hC] at CC RC
  have FI := Lib.hid (fun u W (hr : ReadsF W u C) => pairsFind u C m W hr)
  have RF := Lib.hid (fun u W (hr : ReadsF W u C) => refPFind u C m W hr)
  obtain ⟨⟨a, x⟩, hax⟩ : ∃ q, findV C m = q := ⟨_, rfl⟩
  rw [hax] at FI RF
  simp only at FI RF
  have AL := Lib.hid (fun W h => pairs_alive W h)
  clear ht hQ hC hax hM
  go_enter Tryd.func6, Tryd.ntmps6
  go_wp2_with (go_at_call 15; refine Calls.mono (SH.out _) ?_; rintro e w' ⟨rfl, hw'⟩; obtain rfl := hw'.symm)
  go_wp2_with fail
  refine Calls.mono (CQ.out _ (HM.out _ (by (repeat (first | (with_reducible exact Below.refl _ _) | (with_reducible assumption) | (with_reducible refine Below.drew ?_) | (focus ((with_reducible refine Below.setCell ?_ ?_ _); rotate_left; (first | omega | (simp <;> omega)))) | (focus ((with_reducible refine Below.alloc ?_ ?_ _); rotate_left; (first | omega | (simp <;> omega)))) | exact Below.refl _ _ | assumption | refine Below.drew ?_ | refine Below.alloc ?_ (by first | omega | (simp <;> omega)) _ | refine Below.setCell ?_ (by first | omega | (simp <;> omega)) _))))) ?_
  rintro e w1 ⟨v1, rfl, ho1, hb_w1⟩
  have hz_w1 := hb_w1.size
  try simp at hz_w1
  have HH_w1 := Lib.hid hb_w1
  have hB_w1 : Below w.heap.size w w1 := Below.trans (by (repeat (first | (with_reducible exact Below.refl _ _) | (with_reducible assumption) | (with_reducible refine Below.drew ?_) | (focus ((with_reducible refine Below.setCell ?_ ?_ _); rotate_left; (first | omega | (simp <;> omega)))) | (focus ((with_reducible refine Below.alloc ?_ ?_ _); rotate_left; (first | omega | (simp <;> omega)))) | exact Below.refl _ _ | assumption | refine Below.drew ?_ | refine Below.alloc ?_ (by first | omega | (simp <;> omega)) _ | refine Below.setCell ?_ (by first | omega | (simp <;> omega)) _))) (hb_w1.mono (by first | omega | (simp <;> omega)))
  clear hb_w1
  have R1 := Lib.hid ho1.reads
  clear ho1
  go_wp2_with fail
  refine Calls.mono (CC.out _ (HM.out _ hB_w1)) ?_
  rintro e w2 ⟨v2, rfl, ho2, hb_w2⟩
  have hz_w2 := hb_w2.size
  try simp at hz_w2
  have HH_w2 := Lib.hid hb_w2
  have hB_w2 : Below w.heap.size w w2 := Below.trans (by (repeat (first | (with_reducible exact Below.refl _ _) | (with_reducible assumption) | (with_reducible refine Below.drew ?_) | (focus ((with_reducible refine Below.setCell ?_ ?_ _); rotate_left; (first | omega | (simp <;> omega)))) | (focus ((with_reducible refine Below.alloc ?_ ?_ _); rotate_left; (first | omega | (simp <;> omega)))) | exact Below.refl _ _ | assumption | refine Below.drew ?_ | refine Below.alloc ?_ (by first | omega | (simp <;> omega)) _ | refine Below.setCell ?_ (by first | omega | (simp <;> omega)) _))) (hb_w2.mono (by first | omega | (simp <;> omega)))
  clear hb_w2
  try clear hB_w1
  have R2 := Lib.hid ho2.reads
  clear ho2
  go_wp2_with fail
  refine Calls.mono (FI.out _ _ R2.out) ?_
  rintro e w3 ⟨rfl, hb_w3⟩
  have hz_w3 := hb_w3.size
  try simp at hz_w3
  have HH_w3 := Lib.hid hb_w3
  have hB_w3 : Below w.heap.size w w3 := Below.trans (by (repeat (first | (with_reducible exact Below.refl _ _) | (with_reducible assumption) | (with_reducible refine Below.drew ?_) | (focus ((with_reducible refine Below.setCell ?_ ?_ _); rotate_left; (first | omega | (simp <;> omega)))) | (focus ((with_reducible refine Below.alloc ?_ ?_ _); rotate_left; (first | omega | (simp <;> omega)))) | exact Below.refl _ _ | assumption | refine Below.drew ?_ | refine Below.alloc ?_ (by first | omega | (simp <;> omega)) _ | refine Below.setCell ?_ (by first | omega | (simp <;> omega)) _))) (hb_w3.mono (by first | omega | (simp <;> omega)))
  clear hb_w3
  try clear hB_w2
  go_wp2_with fail
  refine Calls.mono (RC.out _) ?_
  rintro e w4 ⟨v4, rfl, ho4, hb_w4⟩
  have hz_w4 := hb_w4.size
  try simp at hz_w4
  have HH_w4 := Lib.hid hb_w4
  have hB_w4 : Below w.heap.size w w4 := Below.trans (by (repeat (first | (with_reducible exact Below.refl _ _) | (with_reducible assumption) | (with_reducible refine Below.drew ?_) | (focus ((with_reducible refine Below.setCell ?_ ?_ _); rotate_left; (first | omega | (simp <;> omega)))) | (focus ((with_reducible refine Below.alloc ?_ ?_ _); rotate_left; (first | omega | (simp <;> omega)))) | exact Below.refl _ _ | assumption | refine Below.drew ?_ | refine Below.alloc ?_ (by first | omega | (simp <;> omega)) _ | refine Below.setCell ?_ (by first | omega | (simp <;> omega)) _))) (hb_w4.mono (by first | omega | (simp <;> omega)))
  clear hb_w4
  try clear hB_w3
  have R4 := Lib.hid ho4.reads
  clear ho4
  go_wp2_with fail
  refine Calls.mono (RF.out _ _ R4.out) ?_
  rintro e w5 ⟨rfl, hb_w5⟩
  have hz_w5 := hb_w5.size
  try simp at hz_w5
  have HH_w5 := Lib.hid hb_w5
  have hB_w5 : Below w.heap.size w w5 := Below.trans (by (repeat (first | (with_reducible exact Below.refl _ _) | (with_reducible assumption) | (with_reducible refine Below.drew ?_) | (focus ((with_reducible refine Below.setCell ?_ ?_ _); rotate_left; (first | omega | (simp <;> omega)))) | (focus ((with_reducible refine Below.alloc ?_ ?_ _); rotate_left; (first | omega | (simp <;> omega)))) | exact Below.refl _ _ | assumption | refine Below.drew ?_ | refine Below.alloc ?_ (by first | omega | (simp <;> omega)) _ | refine Below.setCell ?_ (by first | omega | (simp <;> omega)) _))) (hb_w5.mono (by first | omega | (simp <;> omega)))
  clear hb_w5
  try clear hB_w4
  go_wp2_with fail
  refine Calls.mono (AL.out _ (HM.out _ hB_w5)) ?_
  rintro e w6 ⟨rfl, hb_w6⟩
  have hz_w6 := hb_w6.size
  try simp at hz_w6
  have HH_w6 := Lib.hid hb_w6
  have hB_w6 : Below w.heap.size w w6 := Below.trans (by (repeat (first | (with_reducible exact Below.refl _ _) | (with_reducible assumption) | (with_reducible refine Below.drew ?_) | (focus ((with_reducible refine Below.setCell ?_ ?_ _); rotate_left; (first | omega | (simp <;> omega)))) | (focus ((with_reducible refine Below.alloc ?_ ?_ _); rotate_left; (first | omega | (simp <;> omega)))) | exact Below.refl _ _ | assumption | refine Below.drew ?_ | refine Below.alloc ?_ (by first | omega | (simp <;> omega)) _ | refine Below.setCell ?_ (by first | omega | (simp <;> omega)) _))) (hb_w6.mono (by first | omega | (simp <;> omega)))
  clear hb_w6
  try clear hB_w5
  go_wp2_with fail
  refine Calls.mono (RQ.out _) ?_
  rintro e w7 ⟨v7, rfl, ho7, hb_w7⟩
  have hz_w7 := hb_w7.size
  try simp at hz_w7
  have HH_w7 := Lib.hid hb_w7
  have hB_w7 : Below w.heap.size w w7 := Below.trans (by (repeat (first | (with_reducible exact Below.refl _ _) | (with_reducible assumption) | (with_reducible refine Below.drew ?_) | (focus ((with_reducible refine Below.setCell ?_ ?_ _); rotate_left; (first | omega | (simp <;> omega)))) | (focus ((with_reducible refine Below.alloc ?_ ?_ _); rotate_left; (first | omega | (simp <;> omega)))) | exact Below.refl _ _ | assumption | refine Below.drew ?_ | refine Below.alloc ?_ (by first | omega | (simp <;> omega)) _ | refine Below.setCell ?_ (by first | omega | (simp <;> omega)) _))) (hb_w7.mono (by first | omega | (simp <;> omega)))
  clear hb_w7
  try clear hB_w6
  have R7 := Lib.hid ho7.reads
  clear ho7
  have b17 := HH_w2.out.trans ((HH_w3.out.trans ((HH_w4.out.trans ((HH_w5.out.trans ((HH_w6.out.trans (HH_w7.out.mono (by omega))).mono (by omega))).mono (by omega))).mono (by omega))).mono (by omega))
  go_wp2_with fail
  refine Calls.mono (pSame_true Q _ _ _ (R1.out.below b17) R7.out) ?_
  rintro e w8 ⟨rfl, hb_w8⟩
  have hz_w8 := hb_w8.size
  try simp at hz_w8
  have HH_w8 := Lib.hid hb_w8
  have hB_w8 : Below w.heap.size w w8 := Below.trans (by (repeat (first | (with_reducible exact Below.refl _ _) | (with_reducible assumption) | (with_reducible refine Below.drew ?_) | (focus ((with_reducible refine Below.setCell ?_ ?_ _); rotate_left; (first | omega | (simp <;> omega)))) | (focus ((with_reducible refine Below.alloc ?_ ?_ _); rotate_left; (first | omega | (simp <;> omega)))) | exact Below.refl _ _ | assumption | refine Below.drew ?_ | refine Below.alloc ?_ (by first | omega | (simp <;> omega)) _ | refine Below.setCell ?_ (by first | omega | (simp <;> omega)) _))) (hb_w8.mono (by first | omega | (simp <;> omega)))
  clear hb_w8
  try clear hB_w7
  go_wp2_with fail
  refine Calls.mono (RC.out _) ?_
  rintro e w9 ⟨v9, rfl, ho9, hb_w9⟩
  have hz_w9 := hb_w9.size
  try simp at hz_w9
  have HH_w9 := Lib.hid hb_w9
  have hB_w9 : Below w.heap.size w w9 := Below.trans (by (repeat (first | (with_reducible exact Below.refl _ _) | (with_reducible assumption) | (with_reducible refine Below.drew ?_) | (focus ((with_reducible refine Below.setCell ?_ ?_ _); rotate_left; (first | omega | (simp <;> omega)))) | (focus ((with_reducible refine Below.alloc ?_ ?_ _); rotate_left; (first | omega | (simp <;> omega)))) | exact Below.refl _ _ | assumption | refine Below.drew ?_ | refine Below.alloc ?_ (by first | omega | (simp <;> omega)) _ | refine Below.setCell ?_ (by first | omega | (simp <;> omega)) _))) (hb_w9.mono (by first | omega | (simp <;> omega)))
  clear hb_w9
  try clear hB_w8
  have R9 := Lib.hid ho9.reads
  clear ho9
  have b29 := HH_w3.out.trans ((HH_w4.out.trans ((HH_w5.out.trans ((HH_w6.out.trans ((HH_w7.out.trans ((HH_w8.out.trans (HH_w9.out.mono (by omega))).mono (by omega))).mono (by omega))).mono (by omega))).mono (by omega))).mono (by omega))
  go_wp2_with fail
  refine Calls.mono (pSame_true C _ _ _ (R2.out.below b29) R9.out) ?_
  rintro e w10 ⟨rfl, hb_w10⟩
  have hz_w10 := hb_w10.size
  try simp at hz_w10
  have HH_w10 := Lib.hid hb_w10
  have hB_w10 : Below w.heap.size w w10 := Below.trans (by (repeat (first | (with_reducible exact Below.refl _ _) | (with_reducible assumption) | (with_reducible refine Below.drew ?_) | (focus ((with_reducible refine Below.setCell ?_ ?_ _); rotate_left; (first | omega | (simp <;> omega)))) | (focus ((with_reducible refine Below.alloc ?_ ?_ _); rotate_left; (first | omega | (simp <;> omega)))) | exact Below.refl _ _ | assumption | refine Below.drew ?_ | refine Below.alloc ?_ (by first | omega | (simp <;> omega)) _ | refine Below.setCell ?_ (by first | omega | (simp <;> omega)) _))) (hb_w10.mono (by first | omega | (simp <;> omega)))
  clear hb_w10
  try clear hB_w9
  go_wp2
  go_ret
  exact ⟨ret_bool (by simp), hB_w10⟩
end Go.Proofs.YtpapefegfghakaaDoor
