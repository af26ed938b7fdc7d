/- What the walks of UriStays share. -/
import Derived.Test.YtcjekdoooekmlaaDoorUriResolves
import Derived.Test.YtcjekdoooekmlaaDoorUriLaw2
import Derived.Test.YtcjekdoooekmlaaDoorInter2
import Derived.Test.YtcjekdoooekmlaaDoorSplitOne
namespace Go.Proofs.YtcjekdoooekmlaaDoor
open Go.RowKit Go.Shelf
set_option linter.unusedVariables false

/-- What the steps of a cleaned path are. -/
theorem steps_ok {l p0 : List UInt8} {qs : List (List UInt8)} (h : Lib.hasPrefix l [47] = true) (hp : Lib.split (cleanL l) [47] = p0 :: qs) : ∀ j (hj : j < qs.length), (qs[j] == [46]) = false ∧ (qs[j] == [46, 46]) = false := by
  obtain ⟨t, rfl⟩ := head_of h
  obtain ⟨ss, h1, h2, h3⟩ := clean_flat t
  have h4 : Lib.split (cleanL (47 :: t)) [47] = [] :: ss := by rw [h1]; exact split_flat ss (fun s hs => (h2 s hs).1)
  rw [h4] at hp
  obtain ⟨rfl, rfl⟩ := List.cons.inj hp
  intro j hj
  have := h2 ss[j] (List.getElem_mem _)
  exact ⟨by rw [beq_eq_false_iff_ne]; exact this.2.1, by rw [beq_eq_false_iff_ne]; exact this.2.2⟩
theorem split1_tail {l p0 : List UInt8} {c : UInt8} {qs : List (List UInt8)} (h : Lib.split l [c] = p0 :: qs) (hl : l.length ≤ 1000000) (w : World) (hM : ∃ m, w.cell? ⟨0, 0, none⟩ = some (.int .i64 m)) : Calls Tryd.prog 12 #[.string (S l), .string (S [c])] w fun e w' =>
    e = .returned (.slice (some ⟨w.heap.size, 0, none⟩) (qs.length + 1) (qs.length + 1)) ∧ Below w.heap.size w w' ∧ w.heap.size < w'.heap.size ∧ ∀ j (hj : j < qs.length), w'.cell? ⟨w.heap.size, j + 1, none⟩ = some (.string (S qs[j])) :=
  (split1_S l c hl w hM).mono fun e w' ⟨h1, h2, h3, h4⟩ => ⟨by rw [h1, h]; rfl, h2, h3, fun j hj => by
    rw [h4 (j + 1) (by rw [h]; simp; omega), List.getElem_of_eq h, List.getElem_cons_succ]⟩

end Go.Proofs.YtcjekdoooekmlaaDoor
