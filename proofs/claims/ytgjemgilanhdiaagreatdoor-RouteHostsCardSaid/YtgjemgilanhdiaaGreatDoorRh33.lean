/- Where a request goes: the walk of route.Find. -/
import Derived.Test.YtgjemgilanhdiaaGreatDoorRh32
import Derived.Test.YtgjemgilanhdiaaGreatDoorRh27
namespace Go.Proofs.YtgjemgilanhdiaaGreatDoor
open Go.RowKit Go.Sort Go.Shelf
set_option linter.unusedVariables false
set_option linter.unusedSimpArgs false

theorem findR_bad {L : List Wrd} (host path : List UInt8) (h : rightRt L = false) : findR L host path = ([], 1) := by
  unfold findR; rw [h]; rfl
theorem findR_none {L : List Wrd} {host path : List UInt8} (h : rightRt L = true) (hf : L.filter (fitB host path) = []) : findR L host path = ([], 61) := by
  unfold findR; rw [h, hf]; rfl
theorem findR_some {L : List Wrd} {host path : List UInt8} {x : Wrd} {t : List Wrd} (h : rightRt L = true) (hf : L.filter (fitB host path) = x :: t) : findR L host path = ((bestG x t).2.2, 0) := by
  unfold findR; rw [h, hf]; rfl

set_option maxHeartbeats 3200000 in
set_option maxRecDepth 100000 in
theorem routeFind (v : Value) (L : List Wrd) (host path : List UInt8) (w : World) (hr : ReadsW w v L) (hl : ∀ f ∈ L, f.1.length ≤ 900 ∧ f.2.1.length ≤ 900 ∧ f.2.2.length ≤ 900) (hn : L.length ≤ 1000000) (hLd : Laid w) :
    Calls Tryz.prog 6 #[v, .string (S host), .string (S path)] w fun e w' => e = .returned (.tuple #[.string (S (findR L host path).1), .int .i64 (findR L host path).2]) ∧ Below w.heap.size w w' := by
  have HR := Lib.hid hr
  have RR := Lib.hid (fun W (hb : Below w.heap.size w W) => routesRight v L W (hr.below hb) hl hn (hLd.on hb))
  have CL := Lib.hid (fun W (hb : Below w.heap.size w W) => cloneRt v L W (hr.below hb) (by omega))
  have eg1 : ∀ args w, (callFunc 15 args).run Tryz.prog w = .ok (.enter 15 args) w := enters_of Tryz.func15 (by kernel_rfl) rfl
  have DL := Lib.hid (fun (v2 : Value) (w2 w1 : World) (hz : w.heap.size + 1 < w1.heap.size) (hz2 : w1.heap.size ≤ w2.heap.size) (ho : OwnsW w2 w1.heap.size v2 L)
    (c1 : w2.cell? ⟨w.heap.size, 0, none⟩ = some (.string (S host))) (c2 : w2.cell? ⟨w.heap.size + 1, 0, none⟩ = some (.string (S path))) =>
    delRt 15 #[.pointer (some ⟨w.heap.size, 0, none⟩), .pointer (some ⟨w.heap.size + 1, 0, none⟩)] (fun f => !fitB host path f) eg1 v2 L w2 w1.heap.size hz2 ho
      (fun f hf W' hb => fit1 f w.heap.size (w.heap.size + 1) host path W' ((hb.cell (p := ⟨w.heap.size, 0, none⟩) (show w.heap.size < w1.heap.size by omega)).trans c1) ((hb.cell (p := ⟨w.heap.size + 1, 0, none⟩) hz).trans c2) (by have := hb.size; omega) (by have := hb.size; omega)))
  have hff : (fun f => !(fun f => !fitB host path f) f) = fitB host path := by funext f; simp
  simp only [Bool.not_not] at DL
  cases hR : rightRt L with
  | false =>
    rw [findR_bad host path hR]
    rw [hR] at RR
    clear DL CL hl hn hLd hr hR hff
    go_enter Tryz.func6, Tryz.ntmps6
    go_wp2_with (go_at_call 9; (with_reducible refine Calls.mono (RR.out _ ?_) ?_); (focus (repeat (first | (with_reducible exact Below.refl _ _) | (with_reducible assumption) | (with_reducible refine Below.drew ?_) | (focus ((with_reducible refine Below.setCell ?_ ?_ _); rotate_left; (first | omega | (simp <;> omega)))) | (focus ((with_reducible refine Below.alloc ?_ ?_ _); rotate_left; (first | omega | (simp <;> omega)))) | exact Below.refl _ _ | assumption | refine Below.drew ?_ | refine Below.alloc ?_ (by first | omega | (simp <;> omega)) _ | refine Below.setCell ?_ (by first | omega | (simp <;> omega)) _))); rintro e w1 ⟨rfl, hb1⟩; have HB1 := Lib.hid (Below.trans (show Below w.heap.size w _ by (repeat (first | (with_reducible exact Below.refl _ _) | (with_reducible assumption) | (with_reducible refine Below.drew ?_) | (focus ((with_reducible refine Below.setCell ?_ ?_ _); rotate_left; (first | omega | (simp <;> omega)))) | (focus ((with_reducible refine Below.alloc ?_ ?_ _); rotate_left; (first | omega | (simp <;> omega)))) | exact Below.refl _ _ | assumption | refine Below.drew ?_ | refine Below.alloc ?_ (by first | omega | (simp <;> omega)) _ | refine Below.setCell ?_ (by first | omega | (simp <;> omega)) _))) (hb1.mono (by simp <;> omega))); clear hb1)
    go_ret2
    exact ⟨rfl, HB1.out⟩
  | true =>
    rw [hR] at RR
    cases hF : L.filter (fitB host path) with
    | nil =>
      rw [findR_none hR hF]
      rw [show L.filter (fun f => fitB host path f) = [] from hF] at DL
      clear hl hn hLd hr hR hff hF
      go_enter Tryz.func6, Tryz.ntmps6
      go_wp2_with (first
        | (go_at_call 9; (with_reducible refine Calls.mono (RR.out _ ?_) ?_); (focus (repeat (first | (with_reducible exact Below.refl _ _) | (with_reducible assumption) | (with_reducible refine Below.drew ?_) | (focus ((with_reducible refine Below.setCell ?_ ?_ _); rotate_left; (first | omega | (simp <;> omega)))) | (focus ((with_reducible refine Below.alloc ?_ ?_ _); rotate_left; (first | omega | (simp <;> omega)))) | exact Below.refl _ _ | assumption | refine Below.drew ?_ | refine Below.alloc ?_ (by first | omega | (simp <;> omega)) _ | refine Below.setCell ?_ (by first | omega | (simp <;> omega)) _))); rintro e w1 ⟨rfl, hb1⟩; have HB1 := Lib.hid (Below.trans (show Below w.heap.size w _ by (repeat (first | (with_reducible exact Below.refl _ _) | (with_reducible assumption) | (with_reducible refine Below.drew ?_) | (focus ((with_reducible refine Below.setCell ?_ ?_ _); rotate_left; (first | omega | (simp <;> omega)))) | (focus ((with_reducible refine Below.alloc ?_ ?_ _); rotate_left; (first | omega | (simp <;> omega)))) | exact Below.refl _ _ | assumption | refine Below.drew ?_ | refine Below.alloc ?_ (by first | omega | (simp <;> omega)) _ | refine Below.setCell ?_ (by first | omega | (simp <;> omega)) _))) (hb1.mono (by simp <;> omega))); obtain ⟨hcc1, hff1⟩ := bk hb1 w.heap.size (by simp <;> omega); obtain ⟨hcd1, hfd1⟩ := bk hb1 (w.heap.size + 1) (by simp <;> omega); have hz1 := hb1.size; (try simp only [World.size_alloc, World.size_setCell] at hz1); clear hb1)
        | (go_at_call 14; (with_reducible refine Calls.mono (CL.out _ HB1.out) ?_); rintro e w2 ⟨v2, rfl, ho2, hb2⟩; have HO2 := Lib.hid ho2; have HB2 := Lib.hid (HB1.out.trans (hb2.mono HB1.out.size)); have hz2 := hb2.size; have d1 : w2.cell? ⟨w.heap.size, 0, none⟩ = some (.string (S host)) := (hb2.cell (p := ⟨w.heap.size, 0, none⟩) (show w.heap.size < _ by omega)).trans ((hcc1 0).trans (by simp)); have d2 : w2.cell? ⟨w.heap.size + 1, 0, none⟩ = some (.string (S path)) := (hb2.cell (p := ⟨w.heap.size + 1, 0, none⟩) (show w.heap.size + 1 < _ by omega)).trans ((hcd1 0).trans (by simp)); have HD1 := Lib.hid d1; have HD2 := Lib.hid d2; clear ho2 hb2 d1 d2)
        | (go_at_call 13; (with_reducible refine Calls.mono (DL.out v2 w2 w1 (by omega) (by omega) HO2.out HD1.out HD2.out) ?_); rintro e w3 ⟨v3, rfl, hr3, hb3⟩; have HB3 := Lib.hid (HB2.out.trans (hb3.mono (by omega))); obtain ⟨ao3, cap3, rfl, _, _, _, _⟩ := hr3; clear hb3)
        | fail)
      go_ret2
      exact ⟨rfl, HB3.out⟩
    | cons x t =>
      rw [findR_some hR hF]
      rw [show L.filter (fun f => fitB host path f) = x :: t from hF] at DL
      have hlx : ∀ f ∈ x :: t, f.2.1.length ≤ 9223372036854775807 := fun f hf => by
        have : f ∈ L := by rw [← hF] at hf; exact (List.mem_filter.1 hf).1
        have := (hl f this).2.1
        omega
      have MX := Lib.hid (fun (v3 : Value) (w3 : World) (h : ReadsW w3 v3 (x :: t)) => maxRt v3 x t w3 h hlx)
      obtain ⟨⟨m1, m2, m3⟩, hm⟩ : ∃ f, bestG x t = f := ⟨_, rfl⟩
      rw [hm] at MX ⊢
      simp only [rtv] at MX
      have hlen : ((x :: t).length : Int) = t.length + 1 := by simp
      have hl0 : ((t.length : Int) + 1 == 0) = false := by
        rw [beq_eq_false_iff_ne]; omega
      have hl0' : ((t.length : Int) + 1 = 0) = False := by
        rw [eq_iff_iff, iff_false]; omega
      clear hl hn hLd hr hR hff hF hm hlx
      go_enter Tryz.func6, Tryz.ntmps6
      go_wp2_with (first
        | (go_at_call 9; (with_reducible refine Calls.mono (RR.out _ ?_) ?_); (focus (repeat (first | (with_reducible exact Below.refl _ _) | (with_reducible assumption) | (with_reducible refine Below.drew ?_) | (focus ((with_reducible refine Below.setCell ?_ ?_ _); rotate_left; (first | omega | (simp <;> omega)))) | (focus ((with_reducible refine Below.alloc ?_ ?_ _); rotate_left; (first | omega | (simp <;> omega)))) | exact Below.refl _ _ | assumption | refine Below.drew ?_ | refine Below.alloc ?_ (by first | omega | (simp <;> omega)) _ | refine Below.setCell ?_ (by first | omega | (simp <;> omega)) _))); rintro e w1 ⟨rfl, hb1⟩; have HB1 := Lib.hid (Below.trans (show Below w.heap.size w _ by (repeat (first | (with_reducible exact Below.refl _ _) | (with_reducible assumption) | (with_reducible refine Below.drew ?_) | (focus ((with_reducible refine Below.setCell ?_ ?_ _); rotate_left; (first | omega | (simp <;> omega)))) | (focus ((with_reducible refine Below.alloc ?_ ?_ _); rotate_left; (first | omega | (simp <;> omega)))) | exact Below.refl _ _ | assumption | refine Below.drew ?_ | refine Below.alloc ?_ (by first | omega | (simp <;> omega)) _ | refine Below.setCell ?_ (by first | omega | (simp <;> omega)) _))) (hb1.mono (by simp <;> omega))); obtain ⟨hcc1, hff1⟩ := bk hb1 w.heap.size (by simp <;> omega); obtain ⟨hcd1, hfd1⟩ := bk hb1 (w.heap.size + 1) (by simp <;> omega); have hz1 := hb1.size; (try simp only [World.size_alloc, World.size_setCell] at hz1); clear hb1)
        | (go_at_call 14; (with_reducible refine Calls.mono (CL.out _ HB1.out) ?_); rintro e w2 ⟨v2, rfl, ho2, hb2⟩; have HO2 := Lib.hid ho2; have HB2 := Lib.hid (HB1.out.trans (hb2.mono HB1.out.size)); have hz2 := hb2.size; have d1 : w2.cell? ⟨w.heap.size, 0, none⟩ = some (.string (S host)) := (hb2.cell (p := ⟨w.heap.size, 0, none⟩) (show w.heap.size < _ by omega)).trans ((hcc1 0).trans (by simp)); have d2 : w2.cell? ⟨w.heap.size + 1, 0, none⟩ = some (.string (S path)) := (hb2.cell (p := ⟨w.heap.size + 1, 0, none⟩) (show w.heap.size + 1 < _ by omega)).trans ((hcd1 0).trans (by simp)); have HD1 := Lib.hid d1; have HD2 := Lib.hid d2; clear ho2 hb2 d1 d2)
        | (go_at_call 13; (with_reducible refine Calls.mono (DL.out v2 w2 w1 (by omega) (by omega) HO2.out HD1.out HD2.out) ?_); rintro e w3 ⟨v3, rfl, hr3, hb3⟩; have HB3 := Lib.hid (HB2.out.trans (hb3.mono (by omega))); have hr3' := hr3; obtain ⟨ao3, cap3, e3, -, -, -, -⟩ := hr3'; subst e3; simp only [List.length_cons] at hr3; have HR3 := Lib.hid hr3; (try simp only [List.length_cons]); clear hr3 hb3)
        | (go_at_call 17; (with_reducible refine Calls.mono (MX.out _ w3 HR3.out) ?_); rintro e w4 ⟨rfl, hb4⟩; have HB4 := Lib.hid (HB3.out.trans (hb4.mono HB3.out.size)); have hz4 := HB4.out.size; clear hb4)
        | fail)
      go_ret2
      exact ⟨rfl, by have := HB4.out; (repeat (first | (with_reducible exact Below.refl _ _) | (with_reducible assumption) | (with_reducible refine Below.drew ?_) | (focus ((with_reducible refine Below.setCell ?_ ?_ _); rotate_left; (first | omega | (simp <;> omega)))) | (focus ((with_reducible refine Below.alloc ?_ ?_ _); rotate_left; (first | omega | (simp <;> omega)))) | exact Below.refl _ _ | assumption | refine Below.drew ?_ | refine Below.alloc ?_ (by first | omega | (simp <;> omega)) _ | refine Below.setCell ?_ (by first | omega | (simp <;> omega)) _))⟩
end Go.Proofs.YtgjemgilanhdiaaGreatDoor
