/- pairs.Agent: the walk. The closures of the variables: the walks. -/
import Derived.Test.YtenflcaalckdfaaGreatDoorVv15
import Derived.Test.YtenflcaalckdfaaGreatDoorVv17
import Derived.Maps.OwnOps
import Derived.Maps.Views
import Derived.StringKeys
import Derived.Maps.OwnSet
import Derived.Laws.EntriesVeiled
namespace Go.Proofs.YtenflcaalckdfaaGreatDoor
open Go.RowKit Go.Sort Go.Shelf
set_option linter.unusedVariables false

set_option maxHeartbeats 6400000 in
set_option maxRecDepth 100000 in
theorem pairsAgent (s : List UInt8) (hs : s.length ≤ 1000000) (w : World) (hM : ∃ m, w.cell? ⟨0, 0, none⟩ = some (.int .i64 m)) :
    Calls Tryz.prog 57 #[.string (S s)] w fun e w' => e = .returned (.tuple #[.string (S (agentB s).1), .string (S (agentB s).2), .string (S (agentS s))]) ∧ Below w.heap.size w w' := by
  have HM := Lib.hid (fun W hb => mlen_later hM W hb)
  have TD := Lib.hid (fun r W => trimDig_S r W)
  have hcl1 := cut_len s [77, 83, 73, 69, 32]
  have hcl2 := cut_len s [77, 111, 122, 105, 108, 108, 97, 47]
  have KU1 := Lib.hid (fun W hm => cutW_S (t := [77, 83, 73, 69, 32]) hs rfl W hm)
  have KU2 := Lib.hid (fun W hm => cutW_S (t := [77, 111, 122, 105, 108, 108, 97, 47]) hs rfl W hm)
  have TW := Lib.hid (fun r => take_while digB r)
  have V1 : verL s [77, 83, 73, 69, 32] = (Lib.cut s [77, 83, 73, 69, 32]).2.1.takeWhile digB := rfl
  have V2 : verL s [77, 111, 122, 105, 108, 108, 97, 47] = (Lib.cut s [77, 111, 122, 105, 108, 108, 97, 47]).2.1.takeWhile digB := rfl
  have hB := agentB_cases s
  have hS := agentS_cases s
  obtain ⟨⟨ab, av⟩, hab⟩ : ∃ q, agentB s = q := ⟨_, rfl⟩
  obtain ⟨sy, has⟩ : ∃ q, agentS s = q := ⟨_, rfl⟩
  rw [hab] at hB ⊢
  rw [has] at hS ⊢
  obtain ⟨r1, hr1⟩ : ∃ q, (Lib.cut s [77, 83, 73, 69, 32]).2.1 = q := ⟨_, rfl⟩
  obtain ⟨r2, hr2⟩ : ∃ q, (Lib.cut s [77, 111, 122, 105, 108, 108, 97, 47]).2.1 = q := ⟨_, rfl⟩
  rw [hr1] at hcl1 KU1 V1
  rw [hr2] at hcl2 KU2 V2
  rw [V1, V2] at hB
  have T1 := TW.out r1
  have T2 := TW.out r2
  have D1 := Lib.hid (fun W => TD.out r1 W)
  have D2 := Lib.hid (fun W => TD.out r2 W)
  have hdl1 := (List.dropWhile_sublist (p := digB) (l := r1)).length_le
  have hdl2 := (List.dropWhile_sublist (p := digB) (l := r2)).length_le
  obtain ⟨d1, hd1⟩ : ∃ q, r1.dropWhile digB = q := ⟨_, rfl⟩
  obtain ⟨d2, hd2⟩ : ∃ q, r2.dropWhile digB = q := ⟨_, rfl⟩
  rw [hd1] at T1 D1 hdl1
  rw [hd2] at T2 D2 hdl2
  obtain ⟨t1, ht1⟩ : ∃ q, r1.takeWhile digB = q := ⟨_, rfl⟩
  obtain ⟨t2, ht2⟩ : ∃ q, r2.takeWhile digB = q := ⟨_, rfl⟩
  rw [ht1] at T1 hB
  rw [ht2] at T2 hB
  have T1 : (r1.take ((r1.length : Int) - (d1.length : Int)).toNat) = t1 := by rw [← T1]; congr 1; omega
  have T2 : (r2.take ((r2.length : Int) - (d2.length : Int)).toNat) = t2 := by rw [← T2]; congr 1; omega
  have T1' : (r1.take (r1.length - d1.length)) = t1 := by rw [← T1]; congr 1; omega
  have T2' : (r2.take (r2.length - d2.length)) = t2 := by rw [← T2]; congr 1; omega
  have l1 : (r1.length : Int) ≤ 1000000 := by omega
  have l2 : (r2.length : Int) ≤ 1000000 := by omega
  have l3 : (d1.length : Int) ≤ (r1.length : Int) := by omega
  have l4 : (d2.length : Int) ≤ (r2.length : Int) := by omega
  have CO := Lib.hid (fun (t : List UInt8) (b : Bool) (h : hasW s t = b) W hm => contains_S hs h W hm)
  clear hM TD TW V1 V2 hab has hr1 hr2 hd1 hd2 ht1 ht2 hcl1 hcl2
  simp only at hB ⊢
  rcases hB with ⟨c1, hq⟩ | ⟨c1, c2, hq⟩ | ⟨c1, c2, hq⟩
  all_goals
    injection hq with q1 q2
    subst q1 q2
    rcases hS with ⟨s1, hq⟩ | ⟨s1, s2, hq⟩ | ⟨s1, s2, s3, hq⟩ | ⟨s1, s2, s3, hq⟩
    all_goals
      subst hq
      (try have C1 := Lib.hid (CO.out _ _ c1))
      (try have C2 := Lib.hid (CO.out _ _ c2))
      (try have S1 := Lib.hid (CO.out _ _ s1))
      (try have S2 := Lib.hid (CO.out _ _ s2))
      (try have S3 := Lib.hid (CO.out _ _ s3))
      (try clear c1)
      (try clear c2)
      (try clear s1)
      (try clear s2)
      (try clear s3)
      clear CO
      go_enter Tryz.func57, Tryz.ntmps57
      go_wp2_with (first | (go_at_call 92; (with_reducible refine Calls.mono (C1.out _ ?_) ?_); (exact HM.out _ (by (repeat (first | with_reducible exact Below.refl _ _ | with_reducible assumption | with_reducible refine Below.drew ?_ | (with_reducible refine Below.setCell ?_ ?_ _; rotate_left; (first | omega | (simp <;> omega))) | (with_reducible refine Below.alloc ?_ ?_ _; rotate_left; (first | omega | (simp <;> omega))) | exact Below.refl _ _ | assumption)))); rintro e w' ⟨rfl, hw'⟩; obtain rfl := hw'.symm) | (go_at_call 92; (with_reducible refine Calls.mono (C2.out _ ?_) ?_); (exact HM.out _ (by (repeat (first | with_reducible exact Below.refl _ _ | with_reducible assumption | with_reducible refine Below.drew ?_ | (with_reducible refine Below.setCell ?_ ?_ _; rotate_left; (first | omega | (simp <;> omega))) | (with_reducible refine Below.alloc ?_ ?_ _; rotate_left; (first | omega | (simp <;> omega))) | exact Below.refl _ _ | assumption)))); rintro e w' ⟨rfl, hw'⟩; obtain rfl := hw'.symm) | (go_at_call 92; (with_reducible refine Calls.mono (S1.out _ ?_) ?_); (exact HM.out _ (by (repeat (first | with_reducible exact Below.refl _ _ | with_reducible assumption | with_reducible refine Below.drew ?_ | (with_reducible refine Below.setCell ?_ ?_ _; rotate_left; (first | omega | (simp <;> omega))) | (with_reducible refine Below.alloc ?_ ?_ _; rotate_left; (first | omega | (simp <;> omega))) | exact Below.refl _ _ | assumption)))); rintro e w' ⟨rfl, hw'⟩; obtain rfl := hw'.symm) | (go_at_call 92; (with_reducible refine Calls.mono (S2.out _ ?_) ?_); (exact HM.out _ (by (repeat (first | with_reducible exact Below.refl _ _ | with_reducible assumption | with_reducible refine Below.drew ?_ | (with_reducible refine Below.setCell ?_ ?_ _; rotate_left; (first | omega | (simp <;> omega))) | (with_reducible refine Below.alloc ?_ ?_ _; rotate_left; (first | omega | (simp <;> omega))) | exact Below.refl _ _ | assumption)))); rintro e w' ⟨rfl, hw'⟩; obtain rfl := hw'.symm) | (go_at_call 92; (with_reducible refine Calls.mono (S3.out _ ?_) ?_); (exact HM.out _ (by (repeat (first | with_reducible exact Below.refl _ _ | with_reducible assumption | with_reducible refine Below.drew ?_ | (with_reducible refine Below.setCell ?_ ?_ _; rotate_left; (first | omega | (simp <;> omega))) | (with_reducible refine Below.alloc ?_ ?_ _; rotate_left; (first | omega | (simp <;> omega))) | exact Below.refl _ _ | assumption)))); rintro e w' ⟨rfl, hw'⟩; obtain rfl := hw'.symm) | (go_at_call 25; (with_reducible refine Calls.mono (KU1.out _ ?_) ?_); (exact HM.out _ (by (repeat (first | with_reducible exact Below.refl _ _ | with_reducible assumption | with_reducible refine Below.drew ?_ | (with_reducible refine Below.setCell ?_ ?_ _; rotate_left; (first | omega | (simp <;> omega))) | (with_reducible refine Below.alloc ?_ ?_ _; rotate_left; (first | omega | (simp <;> omega))) | exact Below.refl _ _ | assumption)))); rintro e w7 ⟨ca, cb, rfl, hb7⟩; have hB7 : Below w.heap.size w w7 := Below.trans (by (repeat (first | with_reducible exact Below.refl _ _ | with_reducible assumption | with_reducible refine Below.drew ?_ | (with_reducible refine Below.setCell ?_ ?_ _; rotate_left; (first | omega | (simp <;> omega))) | (with_reducible refine Below.alloc ?_ ?_ _; rotate_left; (first | omega | (simp <;> omega))) | exact Below.refl _ _ | assumption))) (hb7.mono (by (first | omega | (simp <;> omega)))); have hz7 := hB7.size; clear hb7) | (go_at_call 25; (with_reducible refine Calls.mono (KU2.out _ ?_) ?_); (exact HM.out _ (by (repeat (first | with_reducible exact Below.refl _ _ | with_reducible assumption | with_reducible refine Below.drew ?_ | (with_reducible refine Below.setCell ?_ ?_ _; rotate_left; (first | omega | (simp <;> omega))) | (with_reducible refine Below.alloc ?_ ?_ _; rotate_left; (first | omega | (simp <;> omega))) | exact Below.refl _ _ | assumption)))); rintro e w7 ⟨ca, cb, rfl, hb7⟩; have hB7 : Below w.heap.size w w7 := Below.trans (by (repeat (first | with_reducible exact Below.refl _ _ | with_reducible assumption | with_reducible refine Below.drew ?_ | (with_reducible refine Below.setCell ?_ ?_ _; rotate_left; (first | omega | (simp <;> omega))) | (with_reducible refine Below.alloc ?_ ?_ _; rotate_left; (first | omega | (simp <;> omega))) | exact Below.refl _ _ | assumption))) (hb7.mono (by (first | omega | (simp <;> omega)))); have hz7 := hB7.size; clear hb7) | (go_at_call 93; (with_reducible refine Calls.mono (D1.out _) ?_); rintro e w8 ⟨rfl, hb8⟩; have hB8 : Below w.heap.size w w8 := Below.trans hB7 (hb8.mono (by (first | omega | (simp <;> omega)))); have hz8 := hB8.size; clear hb8) | (go_at_call 93; (with_reducible refine Calls.mono (D2.out _) ?_); rintro e w8 ⟨rfl, hb8⟩; have hB8 : Below w.heap.size w w8 := Below.trans hB7 (hb8.mono (by (first | omega | (simp <;> omega)))); have hz8 := hB8.size; clear hb8) | fail)
      refine wp_loop_rounds 3 ?_
      repeat
        rw [rounds_succ]
        go_wp2_with (first | (go_at_call 92; (with_reducible refine Calls.mono (C1.out _ ?_) ?_); (exact HM.out _ (by (repeat (first | with_reducible exact Below.refl _ _ | with_reducible assumption | with_reducible refine Below.drew ?_ | (with_reducible refine Below.setCell ?_ ?_ _; rotate_left; (first | omega | (simp <;> omega))) | (with_reducible refine Below.alloc ?_ ?_ _; rotate_left; (first | omega | (simp <;> omega))) | exact Below.refl _ _ | assumption)))); rintro e w' ⟨rfl, hw'⟩; obtain rfl := hw'.symm) | (go_at_call 92; (with_reducible refine Calls.mono (C2.out _ ?_) ?_); (exact HM.out _ (by (repeat (first | with_reducible exact Below.refl _ _ | with_reducible assumption | with_reducible refine Below.drew ?_ | (with_reducible refine Below.setCell ?_ ?_ _; rotate_left; (first | omega | (simp <;> omega))) | (with_reducible refine Below.alloc ?_ ?_ _; rotate_left; (first | omega | (simp <;> omega))) | exact Below.refl _ _ | assumption)))); rintro e w' ⟨rfl, hw'⟩; obtain rfl := hw'.symm) | (go_at_call 92; (with_reducible refine Calls.mono (S1.out _ ?_) ?_); (exact HM.out _ (by (repeat (first | with_reducible exact Below.refl _ _ | with_reducible assumption | with_reducible refine Below.drew ?_ | (with_reducible refine Below.setCell ?_ ?_ _; rotate_left; (first | omega | (simp <;> omega))) | (with_reducible refine Below.alloc ?_ ?_ _; rotate_left; (first | omega | (simp <;> omega))) | exact Below.refl _ _ | assumption)))); rintro e w' ⟨rfl, hw'⟩; obtain rfl := hw'.symm) | (go_at_call 92; (with_reducible refine Calls.mono (S2.out _ ?_) ?_); (exact HM.out _ (by (repeat (first | with_reducible exact Below.refl _ _ | with_reducible assumption | with_reducible refine Below.drew ?_ | (with_reducible refine Below.setCell ?_ ?_ _; rotate_left; (first | omega | (simp <;> omega))) | (with_reducible refine Below.alloc ?_ ?_ _; rotate_left; (first | omega | (simp <;> omega))) | exact Below.refl _ _ | assumption)))); rintro e w' ⟨rfl, hw'⟩; obtain rfl := hw'.symm) | (go_at_call 92; (with_reducible refine Calls.mono (S3.out _ ?_) ?_); (exact HM.out _ (by (repeat (first | with_reducible exact Below.refl _ _ | with_reducible assumption | with_reducible refine Below.drew ?_ | (with_reducible refine Below.setCell ?_ ?_ _; rotate_left; (first | omega | (simp <;> omega))) | (with_reducible refine Below.alloc ?_ ?_ _; rotate_left; (first | omega | (simp <;> omega))) | exact Below.refl _ _ | assumption)))); rintro e w' ⟨rfl, hw'⟩; obtain rfl := hw'.symm) | (go_at_call 25; (with_reducible refine Calls.mono (KU1.out _ ?_) ?_); (exact HM.out _ (by (repeat (first | with_reducible exact Below.refl _ _ | with_reducible assumption | with_reducible refine Below.drew ?_ | (with_reducible refine Below.setCell ?_ ?_ _; rotate_left; (first | omega | (simp <;> omega))) | (with_reducible refine Below.alloc ?_ ?_ _; rotate_left; (first | omega | (simp <;> omega))) | exact Below.refl _ _ | assumption)))); rintro e w7 ⟨ca, cb, rfl, hb7⟩; have hB7 : Below w.heap.size w w7 := Below.trans (by (repeat (first | with_reducible exact Below.refl _ _ | with_reducible assumption | with_reducible refine Below.drew ?_ | (with_reducible refine Below.setCell ?_ ?_ _; rotate_left; (first | omega | (simp <;> omega))) | (with_reducible refine Below.alloc ?_ ?_ _; rotate_left; (first | omega | (simp <;> omega))) | exact Below.refl _ _ | assumption))) (hb7.mono (by (first | omega | (simp <;> omega)))); have hz7 := hB7.size; clear hb7) | (go_at_call 25; (with_reducible refine Calls.mono (KU2.out _ ?_) ?_); (exact HM.out _ (by (repeat (first | with_reducible exact Below.refl _ _ | with_reducible assumption | with_reducible refine Below.drew ?_ | (with_reducible refine Below.setCell ?_ ?_ _; rotate_left; (first | omega | (simp <;> omega))) | (with_reducible refine Below.alloc ?_ ?_ _; rotate_left; (first | omega | (simp <;> omega))) | exact Below.refl _ _ | assumption)))); rintro e w7 ⟨ca, cb, rfl, hb7⟩; have hB7 : Below w.heap.size w w7 := Below.trans (by (repeat (first | with_reducible exact Below.refl _ _ | with_reducible assumption | with_reducible refine Below.drew ?_ | (with_reducible refine Below.setCell ?_ ?_ _; rotate_left; (first | omega | (simp <;> omega))) | (with_reducible refine Below.alloc ?_ ?_ _; rotate_left; (first | omega | (simp <;> omega))) | exact Below.refl _ _ | assumption))) (hb7.mono (by (first | omega | (simp <;> omega)))); have hz7 := hB7.size; clear hb7) | (go_at_call 93; (with_reducible refine Calls.mono (D1.out _) ?_); rintro e w8 ⟨rfl, hb8⟩; have hB8 : Below w.heap.size w w8 := Below.trans hB7 (hb8.mono (by (first | omega | (simp <;> omega)))); have hz8 := hB8.size; clear hb8) | (go_at_call 93; (with_reducible refine Calls.mono (D2.out _) ?_); rintro e w8 ⟨rfl, hb8⟩; have hB8 : Below w.heap.size w w8 := Below.trans hB7 (hb8.mono (by (first | omega | (simp <;> omega)))); have hz8 := hB8.size; clear hb8) | fail)
      refine wp_loop_rounds 4 ?_
      repeat
        rw [rounds_succ]
        go_wp2_with (first | (go_at_call 92; (with_reducible refine Calls.mono (C1.out _ ?_) ?_); (exact HM.out _ (by (repeat (first | with_reducible exact Below.refl _ _ | with_reducible assumption | with_reducible refine Below.drew ?_ | (with_reducible refine Below.setCell ?_ ?_ _; rotate_left; (first | omega | (simp <;> omega))) | (with_reducible refine Below.alloc ?_ ?_ _; rotate_left; (first | omega | (simp <;> omega))) | exact Below.refl _ _ | assumption)))); rintro e w' ⟨rfl, hw'⟩; obtain rfl := hw'.symm) | (go_at_call 92; (with_reducible refine Calls.mono (C2.out _ ?_) ?_); (exact HM.out _ (by (repeat (first | with_reducible exact Below.refl _ _ | with_reducible assumption | with_reducible refine Below.drew ?_ | (with_reducible refine Below.setCell ?_ ?_ _; rotate_left; (first | omega | (simp <;> omega))) | (with_reducible refine Below.alloc ?_ ?_ _; rotate_left; (first | omega | (simp <;> omega))) | exact Below.refl _ _ | assumption)))); rintro e w' ⟨rfl, hw'⟩; obtain rfl := hw'.symm) | (go_at_call 92; (with_reducible refine Calls.mono (S1.out _ ?_) ?_); (exact HM.out _ (by (repeat (first | with_reducible exact Below.refl _ _ | with_reducible assumption | with_reducible refine Below.drew ?_ | (with_reducible refine Below.setCell ?_ ?_ _; rotate_left; (first | omega | (simp <;> omega))) | (with_reducible refine Below.alloc ?_ ?_ _; rotate_left; (first | omega | (simp <;> omega))) | exact Below.refl _ _ | assumption)))); rintro e w' ⟨rfl, hw'⟩; obtain rfl := hw'.symm) | (go_at_call 92; (with_reducible refine Calls.mono (S2.out _ ?_) ?_); (exact HM.out _ (by (repeat (first | with_reducible exact Below.refl _ _ | with_reducible assumption | with_reducible refine Below.drew ?_ | (with_reducible refine Below.setCell ?_ ?_ _; rotate_left; (first | omega | (simp <;> omega))) | (with_reducible refine Below.alloc ?_ ?_ _; rotate_left; (first | omega | (simp <;> omega))) | exact Below.refl _ _ | assumption)))); rintro e w' ⟨rfl, hw'⟩; obtain rfl := hw'.symm) | (go_at_call 92; (with_reducible refine Calls.mono (S3.out _ ?_) ?_); (exact HM.out _ (by (repeat (first | with_reducible exact Below.refl _ _ | with_reducible assumption | with_reducible refine Below.drew ?_ | (with_reducible refine Below.setCell ?_ ?_ _; rotate_left; (first | omega | (simp <;> omega))) | (with_reducible refine Below.alloc ?_ ?_ _; rotate_left; (first | omega | (simp <;> omega))) | exact Below.refl _ _ | assumption)))); rintro e w' ⟨rfl, hw'⟩; obtain rfl := hw'.symm) | (go_at_call 25; (with_reducible refine Calls.mono (KU1.out _ ?_) ?_); (exact HM.out _ (by (repeat (first | with_reducible exact Below.refl _ _ | with_reducible assumption | with_reducible refine Below.drew ?_ | (with_reducible refine Below.setCell ?_ ?_ _; rotate_left; (first | omega | (simp <;> omega))) | (with_reducible refine Below.alloc ?_ ?_ _; rotate_left; (first | omega | (simp <;> omega))) | exact Below.refl _ _ | assumption)))); rintro e w7 ⟨ca, cb, rfl, hb7⟩; have hB7 : Below w.heap.size w w7 := Below.trans (by (repeat (first | with_reducible exact Below.refl _ _ | with_reducible assumption | with_reducible refine Below.drew ?_ | (with_reducible refine Below.setCell ?_ ?_ _; rotate_left; (first | omega | (simp <;> omega))) | (with_reducible refine Below.alloc ?_ ?_ _; rotate_left; (first | omega | (simp <;> omega))) | exact Below.refl _ _ | assumption))) (hb7.mono (by (first | omega | (simp <;> omega)))); have hz7 := hB7.size; clear hb7) | (go_at_call 25; (with_reducible refine Calls.mono (KU2.out _ ?_) ?_); (exact HM.out _ (by (repeat (first | with_reducible exact Below.refl _ _ | with_reducible assumption | with_reducible refine Below.drew ?_ | (with_reducible refine Below.setCell ?_ ?_ _; rotate_left; (first | omega | (simp <;> omega))) | (with_reducible refine Below.alloc ?_ ?_ _; rotate_left; (first | omega | (simp <;> omega))) | exact Below.refl _ _ | assumption)))); rintro e w7 ⟨ca, cb, rfl, hb7⟩; have hB7 : Below w.heap.size w w7 := Below.trans (by (repeat (first | with_reducible exact Below.refl _ _ | with_reducible assumption | with_reducible refine Below.drew ?_ | (with_reducible refine Below.setCell ?_ ?_ _; rotate_left; (first | omega | (simp <;> omega))) | (with_reducible refine Below.alloc ?_ ?_ _; rotate_left; (first | omega | (simp <;> omega))) | exact Below.refl _ _ | assumption))) (hb7.mono (by (first | omega | (simp <;> omega)))); have hz7 := hB7.size; clear hb7) | (go_at_call 93; (with_reducible refine Calls.mono (D1.out _) ?_); rintro e w8 ⟨rfl, hb8⟩; have hB8 : Below w.heap.size w w8 := Below.trans hB7 (hb8.mono (by (first | omega | (simp <;> omega)))); have hz8 := hB8.size; clear hb8) | (go_at_call 93; (with_reducible refine Calls.mono (D2.out _) ?_); rintro e w8 ⟨rfl, hb8⟩; have hB8 : Below w.heap.size w w8 := Below.trans hB7 (hb8.mono (by (first | omega | (simp <;> omega)))); have hz8 := hB8.size; clear hb8) | fail)
      go_ret3
      exact ⟨rfl, by (repeat (first | with_reducible exact Below.refl _ _ | with_reducible assumption | with_reducible refine Below.drew ?_ | (with_reducible refine Below.setCell ?_ ?_ _; rotate_left; (first | omega | (simp <;> omega))) | (with_reducible refine Below.alloc ?_ ?_ _; rotate_left; (first | omega | (simp <;> omega))) | exact Below.refl _ _ | assumption))⟩
end Go.Proofs.YtenflcaalckdfaaGreatDoor
namespace Go.Proofs.YtenflcaalckdfaaGreatDoor
open Go.RowKit Go.Sort Go.Shelf
set_option linter.unusedVariables false
set_option linter.unusedSimpArgs false

structure EnvAt (W : World) (b : Nat) (e : En) : Prop where
  lt : b < W.heap.size
  c0 : W.cell? ⟨b, 0, none⟩ = some (.string (S e.host))
  c1 : W.cell? ⟨b, 1, none⟩ = some (.string (S e.ref))
  c2 : W.cell? ⟨b, 2, none⟩ = some (.string (S e.agent))
  c3 : W.cell? ⟨b, 3, none⟩ = some (.string (S e.cookie))
  c4 : W.cell? ⟨b, 4, none⟩ = some (.string (S e.lang))
  c5 : W.cell? ⟨b, 5, none⟩ = some (.string (S e.query))
theorem EnvAt.kept {W W' : World} {b : Nat} {e : En} (h : EnvAt W b e) (hz : W.heap.size ≤ W'.heap.size) (hb : W'.heap[b]? = W.heap[b]?) : EnvAt W' b e := by
  have hc : ∀ o, W'.cell? ⟨b, o, none⟩ = W.cell? ⟨b, o, none⟩ := fun o => World.cell?_of_block (a := ⟨b, o, none⟩) hb
  exact ⟨Nat.lt_of_lt_of_le h.lt hz, (hc 0).trans h.c0, (hc 1).trans h.c1, (hc 2).trans h.c2, (hc 3).trans h.c3, (hc 4).trans h.c4, (hc 5).trans h.c5⟩
theorem EnvAt.below {W W' : World} {b : Nat} {e : En} (h : EnvAt W b e) (hb : Below W.heap.size W W') : EnvAt W' b e := h.kept hb.size (hb.block b h.lt)

abbrev pairV (x : List UInt8 × Bool) : Value := .tuple #[.string (S x.1), .bool x.2]
theorem varsSome (s : List UInt8) (w : World) : Calls Tryz.prog 58 #[.string (S s)] w fun e w' => e = .returned (pairV (someV s)) ∧ w' = w := by
  unfold someV
  go_enter Tryz.func58, Tryz.ntmps58
  go_wp2
  go_ret2
  exact ⟨rfl, rfl⟩

set_option maxHeartbeats 1600000 in
theorem bareClo (b : Nat) (s key : List UInt8) (w : World) (hc : w.cell? ⟨b, 0, none⟩ = some (.string (S s))) (hb : b < w.heap.size) :
    Calls Tryz.prog 94 #[.string (S key), .pointer (some ⟨b, 0, none⟩)] w fun e w' => e = .returned (pairV (onlyV s key)) ∧ w' = w := by
  have SO := Lib.hid (fun W => varsSome s W)
  have hfar := far hb
  unfold onlyV
  cases key with
  | nil =>
    obtain ⟨x, hx⟩ : ∃ x, someV s = x := ⟨_, rfl⟩
    rw [hx] at SO
    rw [if_pos (show ([] : List UInt8).isEmpty = true from rfl), hx]
    clear hx
    go_enter Tryz.func94, Tryz.ntmps94
    go_wp2_with (go_at_call 58; (with_reducible refine Calls.mono (SO.out _) ?_); rintro e w1 ⟨rfl, hw1⟩; obtain rfl := hw1.symm)
    go_ret2
    exact ⟨rfl, rfl⟩
  | cons c t =>
    rw [if_neg (by simp)]
    clear SO
    go_enter Tryz.func94, Tryz.ntmps94
    go_wp2
    go_ret2
    exact ⟨rfl, rfl⟩

set_option maxHeartbeats 1600000 in
theorem ofClo (b1 b2 : Nat) (s key : List UInt8) (fn : Nat) (lb : Array Value) (kv : List UInt8 × Bool) (eg : ∀ args w, (callFunc fn args).run Tryz.prog w = .ok (.enter fn args) w) (w : World) (hc : w.cell? ⟨b1, 0, none⟩ = some (.string (S s))) (hb : b1 < w.heap.size)
    (hc2 : w.cell? ⟨b2, 0, none⟩ = some (.func (.func fn) #[] lb)) (hb2 : b2 < w.heap.size)
    (hcl : Calls Tryz.prog fn (#[.string (S key)] ++ lb) w fun e w' => e = .returned (pairV kv) ∧ Below w.heap.size w w') :
    Calls Tryz.prog 95 #[.string (S key), .pointer (some ⟨b1, 0, none⟩), .pointer (some ⟨b2, 0, none⟩)] w fun e w' => e = .returned (pairV (keyedV s key kv)) ∧ Below w.heap.size w w' := by
  have SO := Lib.hid (fun W => varsSome s W)
  have HC := Lib.hid hcl
  have hfar := far hb
  have hfar2 := far hb2
  clear hcl
  unfold keyedV
  cases key with
  | nil =>
    obtain ⟨x, hx⟩ : ∃ x, someV s = x := ⟨_, rfl⟩
    rw [hx] at SO
    rw [if_pos (show ([] : List UInt8).isEmpty = true from rfl), hx]
    clear hx HC
    go_enter Tryz.func95, Tryz.ntmps95
    go_wp2_with (go_at_call 58; (with_reducible refine Calls.mono (SO.out _) ?_); rintro e w1 ⟨rfl, hw1⟩; obtain rfl := hw1.symm)
    go_ret2
    exact ⟨rfl, Below.refl _ _⟩
  | cons c t =>
    rw [if_neg (by simp)]
    clear SO
    go_enter Tryz.func95, Tryz.ntmps95
    go_wp2_with (go_at_fn fn; refine HC.out.mono ?_; rintro e w1 ⟨rfl, hb1⟩)
    go_ret2
    exact ⟨rfl, hb1⟩

set_option maxHeartbeats 1600000 in
theorem cookieClo2 (b : Nat) (e : En) (hf : e.few) (key : List UInt8) (w : World) (he : EnvAt w b e) (hM : ∃ m, w.cell? ⟨0, 0, none⟩ = some (.int .i64 m)) :
    Calls Tryz.prog 61 #[.string (S key), .pointer (some ⟨b, 0, none⟩)] w fun x w' => x = .returned (pairV (findV (cookiesL e.cookie) key)) ∧ Below w.heap.size w w' := by
  have C := Lib.hid (pairsCookies e.cookie (by obtain ⟨a1, a2, a3, a4, a5, a6⟩ := hf; omega) w hM)
  have F := Lib.hid (fun v W (hr : ReadsF W v (cookiesL e.cookie)) => pairsFind v (cookiesL e.cookie) key W hr)
  have hc := he.c3
  have hfar := far he.lt
  obtain ⟨x, hx⟩ : ∃ x, findV (cookiesL e.cookie) key = x := ⟨_, rfl⟩
  rw [hx] at F ⊢
  clear hx hf he hM
  go_enter Tryz.func61, Tryz.ntmps61
  go_wp2_with (first
    | (go_at_call 63; (with_reducible refine Calls.mono C.out ?_); rintro e1 w1 ⟨v1, rfl, ho1, hb1⟩; have HO1 := Lib.hid ho1.reads; have HB1 := Lib.hid hb1; clear ho1 hb1)
    | (go_at_call 62; (with_reducible refine Calls.mono (F.out _ _ HO1.out) ?_); rintro e2 w2 ⟨rfl, hb2⟩; have HB2 := Lib.hid (HB1.out.trans (hb2.mono HB1.out.size)); clear hb2)
    | fail)
  go_ret2
  exact ⟨rfl, HB2.out⟩
set_option maxHeartbeats 1600000 in
theorem queryClo2 (b : Nat) (e : En) (hf : e.few) (key : List UInt8) (w : World) (he : EnvAt w b e) (hM : ∃ m, w.cell? ⟨0, 0, none⟩ = some (.int .i64 m)) :
    Calls Tryz.prog 64 #[.string (S key), .pointer (some ⟨b, 0, none⟩)] w fun x w' => x = .returned (pairV (findV (queryL e.query) key)) ∧ Below w.heap.size w w' := by
  have C := Lib.hid (pairsQuery e.query (by obtain ⟨a1, a2, a3, a4, a5, a6⟩ := hf; omega) w hM)
  have F := Lib.hid (fun v W (hr : ReadsF W v (queryL e.query)) => pairsFind v (queryL e.query) key W hr)
  have hc := he.c5
  have hfar := far he.lt
  obtain ⟨x, hx⟩ : ∃ x, findV (queryL e.query) key = x := ⟨_, rfl⟩
  rw [hx] at F ⊢
  clear hx hf he hM
  go_enter Tryz.func64, Tryz.ntmps64
  go_wp2_with (first
    | (go_at_call 65; (with_reducible refine Calls.mono C.out ?_); rintro e1 w1 ⟨v1, rfl, ho1, hb1⟩; have HO1 := Lib.hid ho1.reads; have HB1 := Lib.hid hb1; clear ho1 hb1)
    | (go_at_call 62; (with_reducible refine Calls.mono (F.out _ _ HO1.out) ?_); rintro e2 w2 ⟨rfl, hb2⟩; have HB2 := Lib.hid (HB1.out.trans (hb2.mono HB1.out.size)); clear hb2)
    | fail)
  go_ret2
  exact ⟨rfl, HB2.out⟩
set_option maxHeartbeats 1600000 in
theorem langClo2 (b : Nat) (e : En) (hf : e.few) (key : List UInt8) (hk : key.length ≤ 1000000) (w : World) (he : EnvAt w b e) (hM : ∃ m, w.cell? ⟨0, 0, none⟩ = some (.int .i64 m)) :
    Calls Tryz.prog 66 #[.string (S key), .pointer (some ⟨b, 0, none⟩)] w fun x w' => x = .returned (pairV (langV e.lang key)) ∧ Below w.heap.size w w' := by
  have C := Lib.hid (pairsLanguages e.lang (by obtain ⟨a1, a2, a3, a4, a5, a6⟩ := hf; omega) w hM)
  have LO := Lib.hid (fun W => textLower key (by omega) W)
  obtain ⟨t, ht⟩ : ∃ t, decide (lower key ∈ langsL e.lang) = t := ⟨_, rfl⟩
  have CO := Lib.hid (fun W B v (h : Owns W B v (langsL e.lang)) => containsS_S h (lower key) ht)
  have hV := Lib.hid (show langV e.lang key = if t = true then ([116, 114, 117, 101], true) else ([102, 97, 108, 115, 101], true) by
    unfold langV; rw [← ht]; by_cases h : lower key ∈ langsL e.lang <;> simp [h])
  have hc := he.c4
  have hfar := far he.lt
  clear hf he hM ht
  cases t <;>
  · go_enter Tryz.func66, Tryz.ntmps66
    go_wp2_with (first
      | (go_at_call 68; (with_reducible refine Calls.mono C.out ?_); rintro e1 w1 ⟨v1, rfl, ho1, hb1⟩; have HO1 := Lib.hid ho1; have HB1 := Lib.hid hb1; clear ho1 hb1)
      | (go_at_call 69; (with_reducible refine Calls.mono (LO.out _) ?_); rintro e2 w2 ⟨rfl, hb2⟩; have HB2 := Lib.hid (HB1.out.trans (hb2.mono HB1.out.size)); have HO2 := Lib.hid (HO1.out.below hb2); clear hb2)
      | (go_at_call 67; (with_reducible refine Calls.mono (CO.out _ _ _ HO2.out) ?_); rintro e3 w3 ⟨rfl, hw3⟩; obtain rfl := hw3.symm)
      | fail)
    go_ret2
    exact ⟨by rw [hV.out]; rfl, HB2.out⟩
end Go.Proofs.YtenflcaalckdfaaGreatDoor
