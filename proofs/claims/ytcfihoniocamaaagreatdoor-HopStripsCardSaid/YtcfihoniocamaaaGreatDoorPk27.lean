/- What setting a name does to what the names have: the plain law. No program in sight. -/
import Derived.Test.YtcfihoniocamaaaGreatDoorPk26
namespace Go.Proofs.YtcfihoniocamaaaGreatDoor
set_option linter.unusedVariables false

theorem same_comm (a b : List UInt8) : sameN a b = sameN b a := by unfold sameN; exact BEq.comm
theorem same_self (a : List UInt8) : sameN a a = true := by unfold sameN; simp
theorem same_trans {a b c : List UInt8} (h : sameN a b = true) (h' : sameN a c = true) : sameN b c = true := by
  unfold sameN at *
  simp only [beq_iff_eq] at *
  rw [← h, h']
/-- Nothing of the name stands in it. -/
def None' (L : List (List UInt8 × List UInt8)) (n : List UInt8) : Prop := ∀ f ∈ L, sameN f.1 n = false
theorem none_remove (L : List (List UInt8 × List UInt8)) (n : List UInt8) : None' (removeL L n) n := fun f hf => by
  have := (List.mem_filter.1 hf).2
  simpa using this
theorem named_none {L : List (List UInt8 × List UInt8)} {n : List UInt8} (h : None' L n) : namedL L n = [] := by
  unfold namedL
  rw [List.filter_eq_nil_iff]
  intro f hf
  simp [h f hf]
theorem remove_none {L : List (List UInt8 × List UInt8)} {n : List UInt8} (h : None' L n) : removeL L n = L := by
  unfold removeL
  rw [List.filter_eq_self]
  intro f hf
  simp [h f hf]
theorem none_take {L : List (List UInt8 × List UInt8)} {n : List UInt8} (h : None' L n) (k : Nat) : None' (L.take k) n ∧ None' (L.drop k) n :=
  ⟨fun f hf => h f (List.mem_of_mem_take hf), fun f hf => h f (List.mem_of_mem_drop hf)⟩
theorem ins_named {R : List (List UInt8 × List UInt8)} {n x : List UInt8} (h : None' R n) (k : Nat) : namedL (R.take k ++ (n, x) :: R.drop k) n = [(n, x)] := by
  have h1 := named_none (none_take h k).1
  have h2 := named_none (none_take h k).2
  unfold namedL at *
  rw [List.filter_append, List.filter_cons, h1, h2]
  simp [same_self]
theorem ins_remove {R : List (List UInt8 × List UInt8)} {n x : List UInt8} (h : None' R n) (k : Nat) : removeL (R.take k ++ (n, x) :: R.drop k) n = R := by
  have h1 := remove_none (none_take h k).1
  have h2 := remove_none (none_take h k).2
  unfold removeL at *
  rw [List.filter_append, List.filter_cons, h1, h2]
  simp [same_self]
theorem find_named (L : List (List UInt8 × List UInt8)) (n : List UInt8) : L.find? (fun f => sameN f.1 n) = (namedL L n).head? := by
  unfold namedL
  induction L with
  | nil => rfl
  | cons f L ih =>
    rw [List.find?_cons, List.filter_cons]
    cases h : sameN f.1 n with
    | true => rfl
    | false => simp only [Bool.false_eq_true, if_false]; exact ih
theorem named_other {L : List (List UInt8 × List UInt8)} {n o : List UInt8} (h : sameN o n = false) : namedL (removeL L n) o = namedL L o := by
  unfold namedL removeL
  rw [List.filter_filter]
  apply List.filter_congr
  intro f _
  cases ho : sameN f.1 o with
  | false => simp
  | true =>
    cases hn : sameN f.1 n with
    | false => simp
    | true =>
      have := same_trans ho hn
      rw [this] at h; cases h
theorem ins_other {R : List (List UInt8 × List UInt8)} {n x o : List UInt8} (h : sameN o n = false) (k : Nat) : namedL (R.take k ++ (n, x) :: R.drop k) o = namedL R o := by
  have h' : sameN n o = false := by rw [same_comm]; exact h
  conv => rhs; rw [← List.take_append_drop k R]
  unfold namedL
  rw [List.filter_append, List.filter_cons, List.filter_append]
  simp [h']
theorem one_remove (o n : List UInt8) : removeL [(o, [])] n = if sameN o n = true then [] else [(o, [])] := by
  unfold removeL
  cases h : sameN o n <;> simp [h]
end Go.Proofs.YtcfihoniocamaaaGreatDoor
