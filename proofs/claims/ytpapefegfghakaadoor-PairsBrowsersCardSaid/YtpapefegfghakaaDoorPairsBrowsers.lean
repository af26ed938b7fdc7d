/- The law PairsBrowsers: its walk. -/
import Derived.Test.YtpapefegfghakaaDoorPairsLang2
import Derived.Test.YtpapefegfghakaaDoorPairsAgent
import Derived.Test.YtpapefegfghakaaDoorPairsAgent2
namespace Go.Proofs.YtpapefegfghakaaDoor
open Go.RowKit Go.Sort Go.Shelf
set_option linter.unusedVariables false

set_option maxHeartbeats 1600000 in
set_option maxRecDepth 100000 in
theorem pairsBrowsers_any (s : ByteArray) (w : World) (k1 : s.size ≤ maxLen) (_hL : True) (hM : ∃ m, w.cell? ⟨0, 0, none⟩ = some (.int .i64 m)) :
    Calls Tryd.prog 5 #[.string s] w fun e w' => e = .returned (.bool true) ∧ Below w.heap.size w w' := by
  obtain ⟨l0, rfl⟩ := S_of s
  rw [S_size] at k1
  have hm : maxLen = 9223372036854775807 := rfl
  rw [hm] at k1
  clear hm
  have HM := Lib.hid (fun W hb => mlen_later hM W hb)
  have SH := Lib.hid (fun W => pairs_short l0 (by omega) W)
  obtain ⟨t, ht⟩ : ∃ t, l0.take 600 = t := ⟨_, rfl⟩
  have htl : t.length ≤ 600 := by rw [← ht, List.length_take]; omega
  rw [ht] at SH
  have AG := Lib.hid (fun W h => pairsAgent t (by omega) W h)
  have RA := Lib.hid (fun W => refAgent t (by omega) W)
  have PL := Lib.hid (fun W h => pairsLanguages t (by omega) W h)
  have RL := Lib.hid (fun W => refPLanguages t (by omega) W)
  have AL := Lib.hid (fun W h => pairs_alive W h)
  obtain ⟨L, hL⟩ : ∃ L, langsL t = L := ⟨_, rfl⟩
  rw [hL] at PL RL
  have SM := Lib.hid (fun v1 v2 W (h1 : Reads W v1 L) (h2 : Reads W v2 L) => (show Calls Tryd.prog 18 #[v1, v2] W (fun e w' => e = .returned (.bool true) ∧ Below W.heap.size W w') from by
    have h := refSame v1 v2 L L W h1 h2
    rw [show (L == L) = true by simp] at h
    exact h))
  obtain ⟨⟨ab, av⟩, hab⟩ : ∃ q, agentB t = q := ⟨_, rfl⟩
  obtain ⟨sy, hsy⟩ : ∃ q, agentS t = q := ⟨_, rfl⟩
  rw [hab, hsy] at AG RA
  simp only at AG RA
  clear ht hL hab hsy hM
  go_enter Tryd.func5, Tryd.ntmps5
  go_wp2_with (go_at_call 15; refine Calls.mono (SH.out _) ?_; rintro e w' ⟨rfl, hw'⟩; obtain rfl := hw'.symm)
  go_wp2_with fail
  refine Calls.mono (AG.out _ (HM.out _ (by (repeat (first | (with_reducible exact Below.refl _ _) | (with_reducible assumption) | (with_reducible refine Below.drew ?_) | (focus ((with_reducible refine Below.setCell ?_ ?_ _); rotate_left; (first | omega | (simp <;> omega)))) | (focus ((with_reducible refine Below.alloc ?_ ?_ _); rotate_left; (first | omega | (simp <;> omega)))) | exact Below.refl _ _ | assumption | refine Below.drew ?_ | refine Below.alloc ?_ (by first | omega | (simp <;> omega)) _ | refine Below.setCell ?_ (by first | omega | (simp <;> omega)) _))))) ?_
  rintro e w1 ⟨rfl, hb_w1⟩
  have hz_w1 := hb_w1.size
  try simp at hz_w1
  have HH_w1 := Lib.hid hb_w1
  have hB_w1 : Below w.heap.size w w1 := Below.trans (by (repeat (first | (with_reducible exact Below.refl _ _) | (with_reducible assumption) | (with_reducible refine Below.drew ?_) | (focus ((with_reducible refine Below.setCell ?_ ?_ _); rotate_left; (first | omega | (simp <;> omega)))) | (focus ((with_reducible refine Below.alloc ?_ ?_ _); rotate_left; (first | omega | (simp <;> omega)))) | exact Below.refl _ _ | assumption | refine Below.drew ?_ | refine Below.alloc ?_ (by first | omega | (simp <;> omega)) _ | refine Below.setCell ?_ (by first | omega | (simp <;> omega)) _))) (hb_w1.mono (by first | omega | (simp <;> omega)))
  clear hb_w1
  go_wp2_with fail
  refine Calls.mono (RA.out _) ?_
  rintro e w2 ⟨rfl, hb_w2⟩
  have hz_w2 := hb_w2.size
  try simp at hz_w2
  have HH_w2 := Lib.hid hb_w2
  have hB_w2 : Below w.heap.size w w2 := Below.trans (by (repeat (first | (with_reducible exact Below.refl _ _) | (with_reducible assumption) | (with_reducible refine Below.drew ?_) | (focus ((with_reducible refine Below.setCell ?_ ?_ _); rotate_left; (first | omega | (simp <;> omega)))) | (focus ((with_reducible refine Below.alloc ?_ ?_ _); rotate_left; (first | omega | (simp <;> omega)))) | exact Below.refl _ _ | assumption | refine Below.drew ?_ | refine Below.alloc ?_ (by first | omega | (simp <;> omega)) _ | refine Below.setCell ?_ (by first | omega | (simp <;> omega)) _))) (hb_w2.mono (by first | omega | (simp <;> omega)))
  clear hb_w2
  try clear hB_w1
  go_wp2_with fail
  refine Calls.mono (AL.out _ (HM.out _ hB_w2)) ?_
  rintro e w3 ⟨rfl, hb_w3⟩
  have hz_w3 := hb_w3.size
  try simp at hz_w3
  have HH_w3 := Lib.hid hb_w3
  have hB_w3 : Below w.heap.size w w3 := Below.trans (by (repeat (first | (with_reducible exact Below.refl _ _) | (with_reducible assumption) | (with_reducible refine Below.drew ?_) | (focus ((with_reducible refine Below.setCell ?_ ?_ _); rotate_left; (first | omega | (simp <;> omega)))) | (focus ((with_reducible refine Below.alloc ?_ ?_ _); rotate_left; (first | omega | (simp <;> omega)))) | exact Below.refl _ _ | assumption | refine Below.drew ?_ | refine Below.alloc ?_ (by first | omega | (simp <;> omega)) _ | refine Below.setCell ?_ (by first | omega | (simp <;> omega)) _))) (hb_w3.mono (by first | omega | (simp <;> omega)))
  clear hb_w3
  try clear hB_w2
  go_wp2_with fail
  refine Calls.mono (PL.out _ (HM.out _ hB_w3)) ?_
  rintro e w4 ⟨v4, rfl, ho4, hb_w4⟩
  have hz_w4 := hb_w4.size
  try simp at hz_w4
  have HH_w4 := Lib.hid hb_w4
  have hB_w4 : Below w.heap.size w w4 := Below.trans (by (repeat (first | (with_reducible exact Below.refl _ _) | (with_reducible assumption) | (with_reducible refine Below.drew ?_) | (focus ((with_reducible refine Below.setCell ?_ ?_ _); rotate_left; (first | omega | (simp <;> omega)))) | (focus ((with_reducible refine Below.alloc ?_ ?_ _); rotate_left; (first | omega | (simp <;> omega)))) | exact Below.refl _ _ | assumption | refine Below.drew ?_ | refine Below.alloc ?_ (by first | omega | (simp <;> omega)) _ | refine Below.setCell ?_ (by first | omega | (simp <;> omega)) _))) (hb_w4.mono (by first | omega | (simp <;> omega)))
  clear hb_w4
  try clear hB_w3
  have R4 := Lib.hid ho4.reads
  clear ho4
  go_wp2_with fail
  refine Calls.mono (RL.out _) ?_
  rintro e w5 ⟨v5, rfl, ho5, hb_w5⟩
  have hz_w5 := hb_w5.size
  try simp at hz_w5
  have HH_w5 := Lib.hid hb_w5
  have hB_w5 : Below w.heap.size w w5 := Below.trans (by (repeat (first | (with_reducible exact Below.refl _ _) | (with_reducible assumption) | (with_reducible refine Below.drew ?_) | (focus ((with_reducible refine Below.setCell ?_ ?_ _); rotate_left; (first | omega | (simp <;> omega)))) | (focus ((with_reducible refine Below.alloc ?_ ?_ _); rotate_left; (first | omega | (simp <;> omega)))) | exact Below.refl _ _ | assumption | refine Below.drew ?_ | refine Below.alloc ?_ (by first | omega | (simp <;> omega)) _ | refine Below.setCell ?_ (by first | omega | (simp <;> omega)) _))) (hb_w5.mono (by first | omega | (simp <;> omega)))
  clear hb_w5
  try clear hB_w4
  have R5 := Lib.hid ho5.reads
  clear ho5
  go_wp2_with fail
  refine Calls.mono (SM.out _ _ _ (R4.out.below HH_w5.out) R5.out) ?_
  rintro e w6 ⟨rfl, hb_w6⟩
  have hz_w6 := hb_w6.size
  try simp at hz_w6
  have HH_w6 := Lib.hid hb_w6
  have hB_w6 : Below w.heap.size w w6 := Below.trans (by (repeat (first | (with_reducible exact Below.refl _ _) | (with_reducible assumption) | (with_reducible refine Below.drew ?_) | (focus ((with_reducible refine Below.setCell ?_ ?_ _); rotate_left; (first | omega | (simp <;> omega)))) | (focus ((with_reducible refine Below.alloc ?_ ?_ _); rotate_left; (first | omega | (simp <;> omega)))) | exact Below.refl _ _ | assumption | refine Below.drew ?_ | refine Below.alloc ?_ (by first | omega | (simp <;> omega)) _ | refine Below.setCell ?_ (by first | omega | (simp <;> omega)) _))) (hb_w6.mono (by first | omega | (simp <;> omega)))
  clear hb_w6
  try clear hB_w5
  go_wp2
  go_ret
  exact ⟨ret_bool (by simp), hB_w6⟩
end Go.Proofs.YtpapefegfghakaaDoor
