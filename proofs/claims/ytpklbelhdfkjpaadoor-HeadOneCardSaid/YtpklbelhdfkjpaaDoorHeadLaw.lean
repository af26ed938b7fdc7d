/- The laws on heads: what they share. -/
import Derived.Test.YtpklbelhdfkjpaaDoorHeadParse
import Derived.Test.YtpklbelhdfkjpaaDoorHeadPrint
import Derived.Test.YtpklbelhdfkjpaaDoorHeadEnd
import Derived.Test.YtpklbelhdfkjpaaDoorTableFew
import Derived.Test.YtpklbelhdfkjpaaDoorBase
namespace Go.Proofs.YtpklbelhdfkjpaaDoor
open Go.RowKit Go.Sort Go.Shelf
set_option linter.unusedVariables false

theorem fewL_short (L : List Fld) : ∀ f ∈ fewL L, ShortF f := fun f hf => by
  obtain ⟨g, _, rfl⟩ := List.mem_map.1 hf
  exact ⟨by simp [cutF]; omega, by simp [cutF]; omega⟩
theorem linesG_len (t : List UInt8) : ∀ (n : Nat) (cur : List UInt8), ∀ x ∈ linesG n cur t, x.1.length ≤ cur.length + t.length := by
  induction t with
  | nil => intro n cur x hx; cases hx
  | cons c t ih =>
    intro n cur x hx
    unfold linesG at hx
    split at hx
    · rcases List.mem_cons.1 hx with rfl | hx
      · have := bare_len cur
        simp only [List.length_cons]; omega
      · have := ih _ _ _ hx
        simp only [List.length_cons, List.length_nil] at this ⊢; omega
    · have := ih _ _ _ hx
      simp only [List.length_append, List.length_cons, List.length_nil] at this ⊢; omega
theorem field_short {x : List UInt8} (h : x.length ≤ 5000) : ShortF (fieldOf x) := by
  obtain ⟨h1, h2⟩ := cut1_len x 58
  have := trim_len (cut1 x 58).2.1
  exact ⟨by show (cut1 x 58).1.length ≤ _; omega, by show (trim (cut1 x 58).2.1).length ≤ _; omega⟩
theorem parseH_short (xs : List (List UInt8)) : ∀ (out : List Fl), (∀ f ∈ out, ShortF f) → (∀ x ∈ xs, x.length ≤ 5000) → ∀ f ∈ (parseH out xs).1, ShortF f := by
  induction xs with
  | nil => intro out h _; exact h
  | cons x xs ih =>
    intro out h hx
    rw [parseH_cons]
    split
    · refine ih _ (fun f hf => ?_) (fun y hy => hx y (by simp [hy]))
      rcases List.mem_append.1 hf with hf | hf
      · exact h f hf
      · obtain rfl : f = fieldOf x := by simpa using hf
        exact field_short (hx x (by simp))
    · intro f hf; cases hf
theorem headParse_short (s : List UInt8) : ∀ f ∈ (headParse s).1, ShortF f := by
  unfold headParse
  split
  · intro f hf; cases hf
  · rename_i h
    split
    · intro f hf; cases hf
    · refine parseH_short _ _ (by simp) (fun x hx => ?_)
      obtain ⟨y, hy, rfl⟩ := List.mem_map.1 hx
      have := linesG_len _ _ _ y hy
      simp only [List.length_nil] at this
      omega
theorem print_right {L : List Fl} (h : rightL L = true) : (headPrint L).2 = 0 ∨ (headPrint L).2 = 2 := by
  unfold headPrint
  rw [if_pos h]
  split <;> simp
theorem print_len {L : List Fl} (h : (headPrint L).2 = 0) : (headPrint L).1.length ≤ 4000 := by
  obtain ⟨_, h2, h3⟩ := print_ok h
  rw [h3]; exact h2

set_option maxHeartbeats 800000 in
theorem head_alive (w : World) : Calls Tryd.prog 12 #[] w fun e w' => e = .returned (.bool true) ∧ Below w.heap.size w w' := by
  have C := Lib.hid (fun W => headParse_c [97, 58, 32, 49, 13, 10, 98, 58, 50, 10] (by decide) W)
  rw [show headParse [97, 58, 32, 49, 13, 10, 98, 58, 50, 10] = ([([97], [49]), ([98], [50])], 0) from by decide] at C
  go_enter Tryd.func12, Tryd.ntmps12
  go_wp2_with fail
  refine Calls.mono (C.out _) ?_
  rintro e w1 ⟨v, rfl, hr, hb_w1⟩
  have hz_w1 := hb_w1.size
  try simp at hz_w1
  have HH_w1 := Lib.hid hb_w1
  have hB_w1 : Below w.heap.size w w1 := Below.trans (by (repeat (first | (with_reducible exact Below.refl _ _) | (with_reducible assumption) | (with_reducible refine Below.drew ?_) | (focus ((with_reducible refine Below.setCell ?_ ?_ _); rotate_left; (first | omega | (simp <;> omega)))) | (focus ((with_reducible refine Below.alloc ?_ ?_ _); rotate_left; (first | omega | (simp <;> omega)))) | exact Below.refl _ _ | assumption | refine Below.drew ?_ | refine Below.alloc ?_ (by first | omega | (simp <;> omega)) _ | refine Below.setCell ?_ (by first | omega | (simp <;> omega)) _))) (hb_w1.mono (by first | omega | (simp <;> omega)))
  clear hb_w1
  obtain ⟨ao, cap, rfl, hc1, hc2, _, hcell⟩ := hr
  have hm : maxLen = 9223372036854775807 := rfl
  rw [hm] at hc2
  obtain ⟨b, off, rfl, hb, hcl⟩ := hcell (by decide)
  obtain ⟨e1, e2⟩ := hcl 1 (by decide)
  simp only [List.getElem_cons_succ, List.getElem_cons_zero] at e1 e2
  simp only [List.length_cons, List.length_nil] at hc1 ⊢
  clear hcl hcell
  go_wp2
  go_ret
  refine ⟨ret_bool (by simp), ?_⟩
  (repeat (first | (with_reducible exact Below.refl _ _) | (with_reducible assumption) | (with_reducible refine Below.drew ?_) | (focus ((with_reducible refine Below.setCell ?_ ?_ _); rotate_left; (first | omega | (simp <;> omega)))) | (focus ((with_reducible refine Below.alloc ?_ ?_ _); rotate_left; (first | omega | (simp <;> omega)))) | exact Below.refl _ _ | assumption | refine Below.drew ?_ | refine Below.alloc ?_ (by first | omega | (simp <;> omega)) _ | refine Below.setCell ?_ (by first | omega | (simp <;> omega)) _))
end Go.Proofs.YtpklbelhdfkjpaaDoor
