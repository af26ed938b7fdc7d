/- The walks of vars.known and vars.Value. Printed by tools/varsval.py. How many bytes from a place on are of a kind: the walks of vars.run, letter, but. -/
import Derived.Test.YtenflcaalckdfaaGreatDoorVv20
namespace Go.Proofs.YtenflcaalckdfaaGreatDoor
open Go Go.RowKit Go.Sort Go.Shelf
set_option linter.unusedVariables false
set_option linter.unusedSimpArgs false

theorem EnvAt.fresh (W : World) (e : En) : EnvAt (W.alloc (.cells #[.string (S e.host), .string (S e.ref), .string (S e.agent), .string (S e.cookie), .string (S e.lang), .string (S e.query)] 23)) W.heap.size e :=
  ⟨by simp, by simp, by simp, by simp, by simp, by simp, by simp⟩
set_option maxHeartbeats 3200000 in
set_option maxRecDepth 100000 in
theorem varsKnown (e : En) (hf : e.few) (w : World) (hM : ML w) : Calls Tryz.prog 31 #[e.v] w fun x w' => ∃ v, x = .returned v ∧ KnowOK w' v e ∧ Below w.heap.size w w' := by
  obtain ⟨b, hb⟩ : ∃ b, w.heap.size = b := ⟨_, rfl⟩
  have hE := EnvAt.fresh w e
  obtain ⟨W1, hW1⟩ : ∃ W1, w.alloc (.cells #[.string (S e.host), .string (S e.ref), .string (S e.agent), .string (S e.cookie), .string (S e.lang), .string (S e.query)] 23) = W1 := ⟨_, rfl⟩
  have hB1 : Below w.heap.size w W1 := by rw [← hW1]; (repeat (first | with_reducible exact Below.refl _ _ | with_reducible assumption | with_reducible refine Below.drew ?_ | (with_reducible refine Below.setCell ?_ ?_ _; rotate_left; (first | omega | (simp <;> omega))) | (with_reducible refine Below.alloc ?_ ?_ _; rotate_left; (first | omega | (simp <;> omega))) | exact Below.refl _ _ | assumption))
  have hM1 : ML W1 := hM.later (GG.of_below hB1)
  rw [hW1, hb] at hE
  have HE := Lib.hid hE
  have HB1 := Lib.hid hB1
  have HM1 := Lib.hid hM1
  have HF := Lib.hid hf
  have hmm := @run_makeMap Tryz.prog
  have eg1 : ∀ args w, (callFunc 59 args).run Tryz.prog w = .ok (.enter 59 args) w := enters_of Tryz.func59 (by kernel_rfl) rfl
  have eg2 : ∀ args w, (callFunc 60 args).run Tryz.prog w = .ok (.enter 60 args) w := enters_of Tryz.func60 (by kernel_rfl) rfl
  clear hE hB1 hM1 hf hM
  go_enter Tryz.func31, Tryz.ntmps31
  go_wp2_with fail
  refine wp_region_inv (IK W1 b e) (by kernel_rfl) (by kernel_rfl) ?_ ?_ ?_
  · refine ⟨⟨rfl, rfl, fun p hp => ?_, (Below.refl _ _).drew, fun p _ h => (by cases h), fun x _ h => (by cases h), fun h => (by cases h)⟩, fun h => (by cases h), fun h => (by cases h)⟩
    simp only [fixK, List.mem_cons, List.mem_singleton, List.not_mem_nil, or_false] at hp
    rcases hp with rfl | rfl <;> rfl
  · refine ⟨?_, ?_, ?_, ?_, ?_, ?_, ?_, ?_, ?_, ?_, ?_, ?_, ?_, ?_, ?_, ?_, ?_, ?_, ?_, ?_, ?_, ?_, ?_, ?_, ?_, ?_, ?_, ?_, ?_, ?_, ?_, trivial⟩
    · intro d a w' hd haft hI K hK
      have hr : (execOp a.eval { dst := some 5, op := Op.makeMap 62 none, type := 62, pos := "vars.go:57", after := #[], guard := none }).run Tryz.prog w' = .ok (.value (.map (some w'.heap.size))) (w'.alloc (.map #[] 0)) := by simp [go_sem, *]
      unfold Oper.wp
      rw [hr, Oper.upon_value]
      exact hK _ _ (hI.early (by omega) hd (hI.1.made (FK_later b e) hd (by decide) rfl))
    · refine step_val 1 6 _ rfl (by decide) (by decide) rfl (fun d a w' ha hI => ?_)
      have h1 : a.tmps[1]? = some (.pointer (some ⟨b, 0, none⟩)) := hI.1.fixed (1, .pointer (some ⟨b, 0, none⟩)) (by simp)
      exact ⟨_, by simp [go_sem, h1], rfl⟩
    · refine step_val 2 7 _ rfl (by decide) (by decide) rfl (fun d a w' ha hI => ?_)
      obtain ⟨v, hv, hF⟩ := hI.slot 1 6 (by simp) (ha ⟨1, .data⟩ (by simp) (by decide))
      obtain rfl : v = .pointer (some ⟨b, 0, none⟩) := hF
      have hc := (HE.out.below hI.1.below).c0
      exact ⟨_, by simp [go_sem, hv, hc], rfl⟩
    · refine step_call 3 8 _ rfl (by decide) (by decide) rfl (fun d a w' ha hI => ?_)
      obtain ⟨v, hv, hF⟩ := hI.slot 2 7 (by simp) (ha ⟨2, .data⟩ (by simp) (by decide))
      obtain rfl : v = .string (S e.host) := hF
      exact ⟨59, #[.string (S e.host)], by simp [go_sem, hv, eg1], bareC e.host w'⟩
    · exact step_put ⟨4, 3, 8, hostN⟩ (by simp) _ (.tmp 5) (.tmp 8) rfl rfl rfl rfl (by decide) rfl (fun d ha => ⟨ha ⟨0, .data⟩ (by simp) (by decide), ha ⟨3, .data⟩ (by simp) (by decide)⟩)
    · refine step_val 5 9 _ rfl (by decide) (by decide) rfl (fun d a w' ha hI => ?_)
      have h1 : a.tmps[1]? = some (.pointer (some ⟨b, 0, none⟩)) := hI.1.fixed (1, .pointer (some ⟨b, 0, none⟩)) (by simp)
      exact ⟨_, by simp [go_sem, h1], rfl⟩
    · refine step_val 6 10 _ rfl (by decide) (by decide) rfl (fun d a w' ha hI => ?_)
      obtain ⟨v, hv, hF⟩ := hI.slot 5 9 (by simp) (ha ⟨5, .data⟩ (by simp) (by decide))
      obtain rfl : v = .pointer (some ⟨b, 1, none⟩) := hF
      have hc := (HE.out.below hI.1.below).c1
      exact ⟨_, by simp [go_sem, hv, hc], rfl⟩
    · refine step_call 7 11 _ rfl (by decide) (by decide) rfl (fun d a w' ha hI => ?_)
      obtain ⟨v, hv, hF⟩ := hI.slot 6 10 (by simp) (ha ⟨6, .data⟩ (by simp) (by decide))
      obtain rfl : v = .string (S e.ref) := hF
      exact ⟨59, #[.string (S e.ref)], by simp [go_sem, hv, eg1], bareC e.ref w'⟩
    · exact step_put ⟨8, 7, 11, refN⟩ (by simp) _ (.tmp 5) (.tmp 11) rfl rfl rfl rfl (by decide) rfl (fun d ha => ⟨ha ⟨0, .data⟩ (by simp) (by decide), ha ⟨7, .data⟩ (by simp) (by decide)⟩)
    · refine step_val 9 12 _ rfl (by decide) (by decide) rfl (fun d a w' ha hI => ?_)
      have h1 : a.tmps[1]? = some (.pointer (some ⟨b, 0, none⟩)) := hI.1.fixed (1, .pointer (some ⟨b, 0, none⟩)) (by simp)
      exact ⟨_, by simp [go_sem, h1], rfl⟩
    · refine step_val 10 13 _ rfl (by decide) (by decide) rfl (fun d a w' ha hI => ?_)
      obtain ⟨v, hv, hF⟩ := hI.slot 9 12 (by simp) (ha ⟨9, .data⟩ (by simp) (by decide))
      obtain rfl : v = .pointer (some ⟨b, 2, none⟩) := hF
      have hc := (HE.out.below hI.1.below).c2
      exact ⟨_, by simp [go_sem, hv, hc], rfl⟩
    · refine step_val 11 14 _ rfl (by decide) (by decide) rfl (fun d a w' ha hI => ?_)
      have h1 : a.tmps[3]? = some (cloV 56 b) := hI.1.fixed (3, cloV 56 b) (by simp)
      exact ⟨_, by simp [go_sem, h1], rfl⟩
    · refine step_call 12 15 _ rfl (by decide) (by decide) rfl (fun d a w' ha hI => ?_)
      obtain ⟨v, hv, hF⟩ := hI.slot 10 13 (by simp) (ha ⟨10, .data⟩ (by simp) (by decide))
      obtain rfl : v = .string (S e.agent) := hF
      obtain ⟨u, hu, hG⟩ := hI.slot 11 14 (by simp) (ha ⟨11, .data⟩ (by simp) (by decide))
      obtain rfl : u = cloV 56 b := hG
      exact ⟨60, #[.string (S e.agent), cloV 56 b], by simp [go_sem, hv, hu, eg2], ofC e.agent _ (fun key => someV (agentK e.agent key)) w' (agentOK w' b e HF.out (HE.out.below hI.1.below))⟩
    · exact step_put ⟨13, 12, 15, agentN⟩ (by simp) _ (.tmp 5) (.tmp 15) rfl rfl rfl rfl (by decide) rfl (fun d ha => ⟨ha ⟨0, .data⟩ (by simp) (by decide), ha ⟨12, .data⟩ (by simp) (by decide)⟩)
    · refine step_val 14 16 _ rfl (by decide) (by decide) rfl (fun d a w' ha hI => ?_)
      have h1 : a.tmps[1]? = some (.pointer (some ⟨b, 0, none⟩)) := hI.1.fixed (1, .pointer (some ⟨b, 0, none⟩)) (by simp)
      exact ⟨_, by simp [go_sem, h1], rfl⟩
    · refine step_val 15 17 _ rfl (by decide) (by decide) rfl (fun d a w' ha hI => ?_)
      obtain ⟨v, hv, hF⟩ := hI.slot 14 16 (by simp) (ha ⟨14, .data⟩ (by simp) (by decide))
      obtain rfl : v = .pointer (some ⟨b, 3, none⟩) := hF
      have hc := (HE.out.below hI.1.below).c3
      exact ⟨_, by simp [go_sem, hv, hc], rfl⟩
    · refine step_val 16 18 _ rfl (by decide) (by decide) rfl (fun d a w' ha hI => ?_)
      have h1 : a.tmps[1]? = some (.pointer (some ⟨b, 0, none⟩)) := hI.1.fixed (1, .pointer (some ⟨b, 0, none⟩)) (by simp)
      exact ⟨_, by simp [go_sem, h1]; rfl, rfl⟩
    · refine step_call 17 19 _ rfl (by decide) (by decide) rfl (fun d a w' ha hI => ?_)
      obtain ⟨v, hv, hF⟩ := hI.slot 15 17 (by simp) (ha ⟨15, .data⟩ (by simp) (by decide))
      obtain rfl : v = .string (S e.cookie) := hF
      obtain ⟨u, hu, hG⟩ := hI.slot 16 18 (by simp) (ha ⟨16, .data⟩ (by simp) (by decide))
      obtain rfl : u = cloV 61 b := hG
      exact ⟨60, #[.string (S e.cookie), cloV 61 b], by simp [go_sem, hv, hu, eg2], ofC e.cookie _ (fun key => findV (cookiesL e.cookie) key) w' (cookieOK w' b e HF.out (HE.out.below hI.1.below))⟩
    · exact step_put ⟨18, 17, 19, cookieN⟩ (by simp) _ (.tmp 5) (.tmp 19) rfl rfl rfl rfl (by decide) rfl (fun d ha => ⟨ha ⟨0, .data⟩ (by simp) (by decide), ha ⟨17, .data⟩ (by simp) (by decide)⟩)
    · refine step_val 19 20 _ rfl (by decide) (by decide) rfl (fun d a w' ha hI => ?_)
      have h1 : a.tmps[1]? = some (.pointer (some ⟨b, 0, none⟩)) := hI.1.fixed (1, .pointer (some ⟨b, 0, none⟩)) (by simp)
      exact ⟨_, by simp [go_sem, h1], rfl⟩
    · refine step_val 20 21 _ rfl (by decide) (by decide) rfl (fun d a w' ha hI => ?_)
      obtain ⟨v, hv, hF⟩ := hI.slot 19 20 (by simp) (ha ⟨19, .data⟩ (by simp) (by decide))
      obtain rfl : v = .pointer (some ⟨b, 5, none⟩) := hF
      have hc := (HE.out.below hI.1.below).c5
      exact ⟨_, by simp [go_sem, hv, hc], rfl⟩
    · refine step_val 21 22 _ rfl (by decide) (by decide) rfl (fun d a w' ha hI => ?_)
      have h1 : a.tmps[1]? = some (.pointer (some ⟨b, 0, none⟩)) := hI.1.fixed (1, .pointer (some ⟨b, 0, none⟩)) (by simp)
      exact ⟨_, by simp [go_sem, h1]; rfl, rfl⟩
    · refine step_call 22 23 _ rfl (by decide) (by decide) rfl (fun d a w' ha hI => ?_)
      obtain ⟨v, hv, hF⟩ := hI.slot 20 21 (by simp) (ha ⟨20, .data⟩ (by simp) (by decide))
      obtain rfl : v = .string (S e.query) := hF
      obtain ⟨u, hu, hG⟩ := hI.slot 21 22 (by simp) (ha ⟨21, .data⟩ (by simp) (by decide))
      obtain rfl : u = cloV 64 b := hG
      exact ⟨60, #[.string (S e.query), cloV 64 b], by simp [go_sem, hv, hu, eg2], ofC e.query _ (fun key => findV (queryL e.query) key) w' (queryOK w' b e HF.out (HE.out.below hI.1.below))⟩
    · exact step_put ⟨23, 22, 23, queryN⟩ (by simp) _ (.tmp 5) (.tmp 23) rfl rfl rfl rfl (by decide) rfl (fun d ha => ⟨ha ⟨0, .data⟩ (by simp) (by decide), ha ⟨22, .data⟩ (by simp) (by decide)⟩)
    · refine step_val 24 24 _ rfl (by decide) (by decide) rfl (fun d a w' ha hI => ?_)
      have h1 : a.tmps[1]? = some (.pointer (some ⟨b, 0, none⟩)) := hI.1.fixed (1, .pointer (some ⟨b, 0, none⟩)) (by simp)
      exact ⟨_, by simp [go_sem, h1], rfl⟩
    · refine step_val 25 25 _ rfl (by decide) (by decide) rfl (fun d a w' ha hI => ?_)
      obtain ⟨v, hv, hF⟩ := hI.slot 24 24 (by simp) (ha ⟨24, .data⟩ (by simp) (by decide))
      obtain rfl : v = .pointer (some ⟨b, 4, none⟩) := hF
      have hc := (HE.out.below hI.1.below).c4
      exact ⟨_, by simp [go_sem, hv, hc], rfl⟩
    · refine step_val 26 26 _ rfl (by decide) (by decide) rfl (fun d a w' ha hI => ?_)
      have h1 : a.tmps[1]? = some (.pointer (some ⟨b, 0, none⟩)) := hI.1.fixed (1, .pointer (some ⟨b, 0, none⟩)) (by simp)
      exact ⟨_, by simp [go_sem, h1]; rfl, rfl⟩
    · refine step_call 27 27 _ rfl (by decide) (by decide) rfl (fun d a w' ha hI => ?_)
      obtain ⟨v, hv, hF⟩ := hI.slot 25 25 (by simp) (ha ⟨25, .data⟩ (by simp) (by decide))
      obtain rfl : v = .string (S e.lang) := hF
      obtain ⟨u, hu, hG⟩ := hI.slot 26 26 (by simp) (ha ⟨26, .data⟩ (by simp) (by decide))
      obtain rfl : u = cloV 66 b := hG
      exact ⟨60, #[.string (S e.lang), cloV 66 b], by simp [go_sem, hv, hu, eg2], ofC e.lang _ (fun key => langV e.lang key) w' (langOK w' b e HF.out (HE.out.below hI.1.below))⟩
    · exact step_put ⟨28, 27, 27, langN'⟩ (by simp) _ (.tmp 5) (.tmp 27) rfl rfl rfl rfl (by decide) rfl (fun d ha => ⟨ha ⟨0, .data⟩ (by simp) (by decide), ha ⟨27, .data⟩ (by simp) (by decide)⟩)
    · intro d a w' hd haft hI K hK
      have hd30 : d 30 = false := by
        cases hx : d 30 with
        | false => rfl
        | true => have := (hI.2.2 hx).1; rw [hd] at this; cases this
      have hall : ∀ j, j < 29 → d j = true := fun j hj => by
        match j, hj with
        | 0, _ => exact haft ⟨0, .data⟩ (by simp) (by decide)
        | 1, _ => exact haft ⟨1, .data⟩ (by simp) (by decide)
        | 2, _ => exact haft ⟨2, .data⟩ (by simp) (by decide)
        | 3, _ => exact haft ⟨3, .data⟩ (by simp) (by decide)
        | 4, _ => exact haft ⟨4, .data⟩ (by simp) (by decide)
        | 5, _ => exact haft ⟨5, .data⟩ (by simp) (by decide)
        | 6, _ => exact haft ⟨6, .data⟩ (by simp) (by decide)
        | 7, _ => exact haft ⟨7, .data⟩ (by simp) (by decide)
        | 8, _ => exact haft ⟨8, .data⟩ (by simp) (by decide)
        | 9, _ => exact haft ⟨9, .data⟩ (by simp) (by decide)
        | 10, _ => exact haft ⟨10, .data⟩ (by simp) (by decide)
        | 11, _ => exact haft ⟨11, .data⟩ (by simp) (by decide)
        | 12, _ => exact haft ⟨12, .data⟩ (by simp) (by decide)
        | 13, _ => exact haft ⟨13, .data⟩ (by simp) (by decide)
        | 14, _ => exact haft ⟨14, .data⟩ (by simp) (by decide)
        | 15, _ => exact haft ⟨15, .data⟩ (by simp) (by decide)
        | 16, _ => exact haft ⟨16, .data⟩ (by simp) (by decide)
        | 17, _ => exact haft ⟨17, .data⟩ (by simp) (by decide)
        | 18, _ => exact haft ⟨18, .data⟩ (by simp) (by decide)
        | 19, _ => exact haft ⟨19, .data⟩ (by simp) (by decide)
        | 20, _ => exact haft ⟨20, .data⟩ (by simp) (by decide)
        | 21, _ => exact haft ⟨21, .data⟩ (by simp) (by decide)
        | 22, _ => exact haft ⟨22, .data⟩ (by simp) (by decide)
        | 23, _ => exact haft ⟨23, .data⟩ (by simp) (by decide)
        | 24, _ => exact haft ⟨24, .data⟩ (by simp) (by decide)
        | 25, _ => exact haft ⟨25, .data⟩ (by simp) (by decide)
        | 26, _ => exact haft ⟨26, .data⟩ (by simp) (by decide)
        | 27, _ => exact haft ⟨27, .data⟩ (by simp) (by decide)
        | 28, _ => exact haft ⟨28, .data⟩ (by simp) (by decide)
        | n + 29, h => exact absurd h (by omega)
      obtain ⟨bm, _, _, e5, _⟩ := hI.1.maps (hall 0 (by omega))
      have hr : (execOp a.eval { dst := some 28, op := Op.move (Operand.tmp 5), type := 62, pos := "vars.go:57", after := #[], guard := none }).run Tryz.prog w' = .ok (.value (.map (some bm))) w' := by simp [go_sem, e5]
      have hk := hI.1.val (FK_later b e) 29 28 hd (by decide) rfl (.map (some bm)) w' (Below.refl _ _) trivial
      unfold Oper.wp
      show Oper.upon Tryz.prog _ a K _ ((execOp a.eval { dst := some 28, op := Op.move (Operand.tmp 5), type := 62, pos := "vars.go:57", after := #[], guard := none }).run Tryz.prog w')
      rw [hr, Oper.upon_value]
      refine hK _ _ ⟨hk, fun _ => ⟨fun j hj => by rw [Done.add_ne (by omega)]; exact hall j hj, ?_⟩, fun hx => ?_⟩
      · rw [put_same (by rw [hI.1.size]; decide), put_ne (by decide), e5]
      · rw [Done.add_ne (by decide), hd30] at hx; cases hx
    · intro d a w' hd haft hI K hK
      have h29 : d 29 = true := haft ⟨29, .data⟩ (by simp) (by decide)
      have h5 := (hI.2.1 h29).2
      have hall := (hI.2.1 h29).1
      obtain ⟨bm, _, _, e5, _⟩ := hI.1.maps (hall 0 (by omega))
      rw [e5] at h5
      have hk := hI.1.val (FK_later b e) 30 2 hd (by decide) rfl (.map (some bm)) w' (Below.refl _ _) trivial
      unfold Oper.wp
      have hr : (execOp a.eval { dst := some 2, op := Op.assign (Operand.tmp 28), type := 62, pos := "vars.go:57", after := #[], guard := none }).run Tryz.prog w' = .ok (.value (.map (some bm))) w' := by simp [go_sem, h5]
      show Oper.upon Tryz.prog _ a K _ ((execOp a.eval { dst := some 2, op := Op.assign (Operand.tmp 28), type := 62, pos := "vars.go:57", after := #[], guard := none }).run Tryz.prog w')
      rw [hr, Oper.upon_value]
      refine hK _ _ ⟨hk, fun hx => ⟨fun j hj => ?_, ?_⟩, fun _ => ⟨?_, ?_⟩⟩
      · rw [Done.add_ne (by omega)]; exact hall j hj
      · rw [put_ne (by decide), put_ne (by decide), h5, e5]
      · rw [Done.add_ne (by decide)]; exact h29
      · rw [put_same (by rw [hI.1.size]; decide), put_ne (by decide), e5]
  · intro d a w' hall hI
    obtain ⟨v, h2, hK, hB⟩ := hI.know (fun i hi => hall i hi)
    have HKN := Lib.hid hK
    have HBB := Lib.hid (HB1.out.trans (hB.mono HB1.out.size))
    have hev := act_tmp h2
    have hdef := hI.1.defers
    clear hI hall hK hB
    go_wp2
    refine bodyPost_ret (v := v) (by simp [results, Tryz.results31, go_sem, h2]) hdef ⟨v, rfl, HKN.out, HBB.out⟩

set_option maxHeartbeats 3200000 in
set_option maxRecDepth 100000 in
theorem varsValue (e : En) (hf : e.few) (name key : List UInt8) (hn : name.length ≤ 9223372036854775807) (hk : key.length ≤ 1000000) (w : World) (hM : ML w) :
    Calls Tryz.prog 13 #[e.v, .string (S name), .string (S key)] w fun x w' => x = .returned (pairV (valV e name key)) ∧ Below w.heap.size w w' := by
  have VK := Lib.hid (fun W (hb : Below w.heap.size w W) => varsKnown e hf W (hM.later (GG.of_below hb)))
  have HM := Lib.hid (fun W (hb : Below w.heap.size w W) => hM.later (GG.of_below hb))
  clear hM hf
  cases hN : isN name with
  | false =>
    go_enter Tryz.func13, Tryz.ntmps13
    go_wp2_with (go_at_call 31; (with_reducible refine Calls.mono (VK.out _ ?_) ?_); (focus (repeat (first | with_reducible exact Below.refl _ _ | with_reducible assumption | with_reducible refine Below.drew ?_ | (with_reducible refine Below.setCell ?_ ?_ _; rotate_left; (first | omega | (simp <;> omega))) | (with_reducible refine Below.alloc ?_ ?_ _; rotate_left; (first | omega | (simp <;> omega))) | exact Below.refl _ _ | assumption))); rintro x w1 ⟨v, rfl, hk1, hb1⟩; obtain ⟨r, c, hlk, hy, hno, hc⟩ := hk1 name hn; obtain rfl : c = false := hc.trans hN; have HV := Lib.hid (hno rfl key); have HB1 := Lib.hid (Below.trans (show Below w.heap.size w _ by (repeat (first | with_reducible exact Below.refl _ _ | with_reducible assumption | with_reducible refine Below.drew ?_ | (with_reducible refine Below.setCell ?_ ?_ _; rotate_left; (first | omega | (simp <;> omega))) | (with_reducible refine Below.alloc ?_ ?_ _; rotate_left; (first | omega | (simp <;> omega))) | exact Below.refl _ _ | assumption))) (hb1.mono (by simp))); clear hk1 hb1 hy hno hc)
    go_ret2
    exact ⟨by rw [HV.out]; rfl, HB1.out⟩
  | true =>
    obtain ⟨z, hz⟩ : ∃ z, valV e name key = z := ⟨_, rfl⟩
    have HZ := Lib.hid hz
    go_enter Tryz.func13, Tryz.ntmps13
    go_wp2_with (go_at_call 31; (with_reducible refine Calls.mono (VK.out _ ?_) ?_); (focus (repeat (first | with_reducible exact Below.refl _ _ | with_reducible assumption | with_reducible refine Below.drew ?_ | (with_reducible refine Below.setCell ?_ ?_ _; rotate_left; (first | omega | (simp <;> omega))) | (with_reducible refine Below.alloc ?_ ?_ _; rotate_left; (first | omega | (simp <;> omega))) | exact Below.refl _ _ | assumption))); rintro x w1 ⟨v, rfl, hk1, hb1⟩; obtain ⟨r, c, hlk, hy, hno, hc⟩ := hk1 name hn; obtain rfl : c = true := hc.trans hN; obtain ⟨fn, lb, rfl, eg, hcl⟩ := hy rfl; have HB1 := Lib.hid (Below.trans (show Below w.heap.size w _ by (repeat (first | with_reducible exact Below.refl _ _ | with_reducible assumption | with_reducible refine Below.drew ?_ | (with_reducible refine Below.setCell ?_ ?_ _; rotate_left; (first | omega | (simp <;> omega))) | (with_reducible refine Below.alloc ?_ ?_ _; rotate_left; (first | omega | (simp <;> omega))) | exact Below.refl _ _ | assumption))) (hb1.mono (by simp))); have HC := Lib.hid (hcl key w1 hk (GG.refl _) (HM.out _ HB1.out)); clear hk1 hb1 hno hc hcl)
    go_at_fn fn
    refine HC.out.mono ?_
    rintro x w2 ⟨rfl, hb2⟩
    have HB2 := Lib.hid (HB1.out.trans (hb2.mono HB1.out.size))
    clear hb2
    go_wp2
    go_ret2
    exact ⟨by first | rfl | (rw [HZ.out]; rfl), HB2.out⟩
end Go.Proofs.YtenflcaalckdfaaGreatDoor
namespace Go.Proofs.YtenflcaalckdfaaGreatDoor
open Go Go.RowKit Go.Sort Go.Shelf
set_option linter.unusedVariables false
set_option linter.unusedSimpArgs false

theorem while_stop (p : UInt8 → Bool) {s : List UInt8} {k : Nat} (hk : k ≤ s.length) (hall : ∀ j (hj : j < k), p (s[j]'(by omega)) = true) (hend : ∀ h : k < s.length, p s[k] = false) : (s.takeWhile p).length = k := by
  induction s generalizing k with
  | nil => simp at hk; simp [hk]
  | cons c t ih =>
    cases k with
    | zero =>
      have := hend (by simp)
      simp only [List.getElem_cons_zero] at this
      rw [List.takeWhile_cons_of_neg (by simp [this])]; rfl
    | succ k =>
      have h0 := hall 0 (by omega)
      simp only [List.getElem_cons_zero] at h0
      rw [List.takeWhile_cons_of_pos h0, List.length_cons]
      rw [ih (k := k) (by simpa using hk) (fun j hj => by have := hall (j + 1) (by omega); simpa using this) (fun h => by have := hend (by simp; omega); simpa using this)]

set_option maxHeartbeats 1600000 in
set_option maxRecDepth 100000 in
theorem varsRun (p : UInt8 → Bool) (fn : Nat) (lb : Array Value) (eg : ∀ args w, (callFunc fn args).run Tryz.prog w = .ok (.enter fn args) w) (s : List UInt8) (hs : s.length ≤ 1000000) (w : World)
    (hcl : ∀ (c : UInt8) W', Below w.heap.size w W' → Calls Tryz.prog fn (#[.int .u8 (c.toNat : Int)] ++ lb) W' fun e w' => e = .returned (.bool (p c)) ∧ Below W'.heap.size W' w') :
    Calls Tryz.prog 21 #[.string (S s), .func (.func fn) #[] lb] w fun e w' => e = .returned (.int .i64 ((s.takeWhile p).length : Nat)) ∧ Below w.heap.size w w' := by
  have HCL := Lib.hid hcl
  have hsi : (s.length : Int) ≤ 1000000 := by omega
  have HST := Lib.hid (fun (k : Nat) hk hall hend => @while_stop p s k hk hall hend)
  obtain ⟨T, hT⟩ : ∃ T, (s.takeWhile p).length = T := ⟨_, rfl⟩
  rw [hT] at HST ⊢
  clear hcl hT
  go_enter Tryz.func21, Tryz.ntmps21
  go_wp2
  go_loopw [5] (fun kv wr => ∃ k : Nat, kv = .int .i64 k ∧ ∃ hk : k ≤ s.length, (∀ j (hj : j < k), p (s[j]'(by omega)) = true) ∧ Below w.heap.size w wr) (fun kv _ => s.length - (intOf kv).toNat)
  case atStart => exact ⟨0, rfl, Nat.zero_le _, (fun j hj => absurd hj (by omega)), Below.refl _ _⟩
  case round =>
    obtain ⟨k, rfl, hk, hall, hB⟩ := hrel
    have HA := Lib.hid hall
    have HB := Lib.hid hB
    have hz := hB.size
    clear hall hB
    by_cases hks : k < s.length
    · have hbat := bAt_eq hks
      have hcall := HCL.out s[k] wr HB.out
      obtain ⟨y, hy⟩ : ∃ y, p s[k] = y := ⟨_, rfl⟩
      have HY := Lib.hid hy
      rw [hy] at hcall
      obtain ⟨c, hc⟩ : ∃ c, s[k] = c := ⟨_, rfl⟩
      rw [hc] at hbat hcall
      rw [← hbat] at hcall
      have HC := Lib.hid hcall
      clear hcall hy hc hbat
      cases y with
      | true =>
        go_wp2_with (go_at_fn fn; refine HC.out.mono ?_; rintro e w4 ⟨rfl, hb4⟩; have HB4 := Lib.hid (HB.out.trans (hb4.mono HB.out.size)); clear hb4)
        go_roundw
        case rel => exact ⟨k + 1, by go_num, by omega, (fun j hj => by
          by_cases e : j = k
          · subst e; exact HY.out
          · exact HA.out j (by omega)), HB4.out⟩
        case measure => simp [intOf]; omega
      | false =>
        have HT := Lib.hid (HST.out k hk HA.out (fun _ => HY.out))
        go_wp2_with (go_at_fn fn; refine HC.out.mono ?_; rintro e w4 ⟨rfl, hb4⟩; have HB4 := Lib.hid (HB.out.trans (hb4.mono HB.out.size)); clear hb4)
        go_ret
        exact ⟨by rw [HT.out]; rfl, HB4.out⟩
    · obtain rfl : k = s.length := by omega
      have HT := Lib.hid (HST.out s.length hk HA.out (fun h => absurd h hks))
      go_wp2
      go_ret
      exact ⟨by rw [HT.out]; rfl, HB.out⟩

set_option maxHeartbeats 800000 in
theorem letterC (c : UInt8) (w : World) : Calls Tryz.prog 22 #[.int .u8 (c.toNat : Int)] w fun e w' => e = .returned (.bool (letterB c)) ∧ w' = w := by
  have hc256 := c.toNat_lt
  unfold letterB
  obtain ⟨n, hn⟩ : ∃ n, c.toNat = n := ⟨_, rfl⟩
  rw [hn] at hc256 ⊢
  clear hn
  by_cases h1 : 65 ≤ n
  · by_cases h2 : n ≤ 90
    · rw [show ((decide (65 ≤ n) && decide (n ≤ 90)) || decide (n = 95)) = true by simp; omega]
      go_enter Tryz.func22, Tryz.ntmps22
      go_wp2
      go_ret
      exact ⟨by first | rfl | (simp; done) | (simp; omega), rfl⟩
    · by_cases h3 : n = 95
      · subst h3
        go_enter Tryz.func22, Tryz.ntmps22
        go_wp2
        go_ret
        exact ⟨rfl, rfl⟩
      · have b1 : ((n : Int) == 95) = false := by simp; omega
        rw [show ((decide (65 ≤ n) && decide (n ≤ 90)) || decide (n = 95)) = false by simp; omega]
        go_enter Tryz.func22, Tryz.ntmps22
        go_wp2
        all_goals
          go_ret
          exact ⟨by first | rfl | (simp; done) | (simp; omega), rfl⟩
  · have b1 : ((n : Int) == 95) = false := by simp; omega
    rw [show ((decide (65 ≤ n) && decide (n ≤ 90)) || decide (n = 95)) = false by simp; omega]
    go_enter Tryz.func22, Tryz.ntmps22
    go_wp2
    all_goals
      go_ret
      exact ⟨by first | rfl | (simp; done) | (simp; omega), rfl⟩

set_option maxHeartbeats 800000 in
theorem butClo (g : Nat) (bad : List UInt8) (c : UInt8) (w : World) (hc : w.cell? ⟨g, 0, none⟩ = some (.string (S bad))) : Calls Tryz.prog 51 #[.int .u8 (c.toNat : Int), .pointer (some ⟨g, 0, none⟩)] w fun e w' => e = .returned (.bool (notIn bad c)) ∧ w' = w := by
  have hc256 := c.toNat_lt
  have hg := block_lt_of_cell hc
  obtain ⟨i, hi⟩ : ∃ i, Lib.indexByte bad ((c.toNat : Int).toNat.toUInt8) = i := ⟨_, rfl⟩
  have hi' : Lib.indexByte bad c = i := by rw [← hi]; simp
  have IB := Lib.hid (indexByte_S hi)
  have e : notIn bad c = decide (i < 0) := by unfold notIn; rw [hi']
  rw [e]
  clear e hi hi'
  have hfar := far hg
  by_cases h5 : i < 0
  · go_enter Tryz.func51, Tryz.ntmps51
    go_wp2_with (go_at_call 52; refine (IB.out _).mono ?_; rintro e w' ⟨rfl, rfl⟩)
    go_ret
    exact ⟨by first | rfl | (simp; done) | (simp; omega), rfl⟩
  · go_enter Tryz.func51, Tryz.ntmps51
    go_wp2_with (go_at_call 52; refine (IB.out _).mono ?_; rintro e w' ⟨rfl, rfl⟩)
    go_ret
    exact ⟨by first | rfl | (simp; done) | (simp; omega), rfl⟩
theorem butC (bad : List UInt8) (w : World) : Calls Tryz.prog 24 #[.string (S bad)] w fun e w' => e = .returned (.func (.func 51) #[] #[.pointer (some ⟨w.heap.size, 0, none⟩)]) ∧ w'.cell? ⟨w.heap.size, 0, none⟩ = some (.string (S bad)) ∧ Below w.heap.size w w' := by
  have hc : (w.alloc (.cells #[.string (S bad)] 9)).cell? ⟨w.heap.size, 0, none⟩ = some (.string (S bad)) := by simp
  have HC := Lib.hid hc
  clear hc
  go_enter Tryz.func24, Tryz.ntmps24
  go_wp2
  go_ret
  exact ⟨rfl, HC.out, by (repeat (first | with_reducible exact Below.refl _ _ | with_reducible assumption | with_reducible refine Below.drew ?_ | (with_reducible refine Below.setCell ?_ ?_ _; rotate_left; (first | omega | (simp <;> omega))) | (with_reducible refine Below.alloc ?_ ?_ _; rotate_left; (first | omega | (simp <;> omega))) | exact Below.refl _ _ | assumption))⟩
theorem runLetters (s : List UInt8) (hs : s.length ≤ 1000000) (w : World) : Calls Tryz.prog 21 #[.string (S s), .func (.func 22) #[] #[]] w fun e w' => e = .returned (.int .i64 ((s.takeWhile letterB).length : Nat)) ∧ Below w.heap.size w w' :=
  varsRun letterB _ #[] (enters_of Tryz.func22 (by kernel_rfl) rfl) s hs w fun c W' _ => (letterC c W').mono fun e w' ⟨h1, h2⟩ => ⟨h1, h2 ▸ Below.refl _ _⟩
theorem runBut (bad : List UInt8) (g : Nat) (s : List UInt8) (hs : s.length ≤ 1000000) (w : World) (hc : w.cell? ⟨g, 0, none⟩ = some (.string (S bad))) : Calls Tryz.prog 21 #[.string (S s), .func (.func 51) #[] #[.pointer (some ⟨g, 0, none⟩)]] w fun e w' => e = .returned (.int .i64 ((s.takeWhile (notIn bad)).length : Nat)) ∧ Below w.heap.size w w' :=
  varsRun (notIn bad) _ #[.pointer (some ⟨g, 0, none⟩)] (enters_of Tryz.func51 (by kernel_rfl) rfl) s hs w fun c W' hb => (butClo g bad c W' ((hb.cell (p := ⟨g, 0, none⟩) (block_lt_of_cell hc)).trans hc)).mono fun e w' ⟨h1, h2⟩ => ⟨h1, h2 ▸ Below.refl _ _⟩
end Go.Proofs.YtenflcaalckdfaaGreatDoor
