/- Parts put together by a byte are parted into them again: the plain law. No program in sight. -/
import Derived.Test.YtigohbjbmipccaaDoorSplitMath
namespace Go.Proofs.YtigohbjbmipccaaDoor
set_option linter.unusedVariables false

def joinB (b : UInt8) : List (List UInt8) → List UInt8
  | [] => []
  | x :: r => x ++ r.flatMap fun y => b :: y
theorem joinB_snoc {b : UInt8} {x : List UInt8} {r : List (List UInt8)} (y : List UInt8) : joinB b ((x :: r) ++ [y]) = joinB b (x :: r) ++ [b] ++ y := by
  simp [joinB]
theorem joinB_one (b : UInt8) (y : List UInt8) : joinB b [y] = y := by simp [joinB]
theorem parts_skip {b : UInt8} : ∀ (x part rest : List UInt8), (34 : UInt8) ∉ x → b ∉ x → parts b false part (x ++ rest) = parts b false (part ++ x) rest
  | [], part, rest, _, _ => by simp
  | c :: x, part, rest, h1, h2 => by
    have e1 : c ≠ 34 := fun e => h1 (by simp [e])
    have e2 : c ≠ b := fun e => h2 (by simp [e])
    rw [List.cons_append, parts, if_neg e1, if_neg e2, parts_skip x (part ++ [c]) rest (fun h => h1 (by simp [h])) (fun h => h2 (by simp [h]))]
    simp
theorem parts_join {b : UInt8} (hb : b ≠ 34) : ∀ (r : List (List UInt8)) (x part : List UInt8), (∀ y ∈ x :: r, (34 : UInt8) ∉ y ∧ b ∉ y) → parts b false part (x ++ r.flatMap fun y => b :: y) = some ((part ++ x) :: r)
  | [], x, part, h => by
    rw [parts_skip x part _ (h x (by simp)).1 (h x (by simp)).2]; rfl
  | y :: r, x, part, h => by
    rw [parts_skip x part _ (h x (by simp)).1 (h x (by simp)).2, List.flatMap_cons, List.cons_append, parts, if_neg hb, if_pos rfl, parts_join hb r y [] (fun z hz => h z (List.mem_cons_of_mem _ hz))]
    simp
def cleanOf (b : UInt8) (x : List UInt8) : List UInt8 := (x.take 40).filter fun c => c != b && c != 34
theorem cleanOf_no (b : UInt8) (x : List UInt8) : (34 : UInt8) ∉ cleanOf b x ∧ b ∉ cleanOf b x := by
  unfold cleanOf
  constructor <;> · intro h; have := (List.mem_filter.1 h).2; simp at this
theorem cleanOf_len (b : UInt8) (x : List UInt8) : (cleanOf b x).length ≤ 40 := by
  unfold cleanOf
  have := List.length_filter_le (fun c => c != b && c != 34) (x.take 40)
  simp at this ⊢
  omega
def cleanTo (b : UInt8) (x : List UInt8) (j : Nat) : List UInt8 := (x.take j).filter fun c => c != b && c != 34
theorem cleanTo_yes {b : UInt8} {x : List UInt8} {j : Nat} (h : j < x.length) (h1 : x[j] ≠ b) (h2 : x[j] ≠ 34) : cleanTo b x (j + 1) = cleanTo b x j ++ (x.take (j + 1)).drop j := by
  unfold cleanTo
  rw [List.take_succ_eq_append_getElem h, List.filter_append, List.drop_append_of_le_length (by simp; omega), List.drop_eq_nil_of_le (by simp; omega : (x.take j).length ≤ j)]
  simp [h1, h2]
theorem cleanTo_no {b : UInt8} {x : List UInt8} {j : Nat} (h : j < x.length) (h1 : x[j] = b ∨ x[j] = 34) : cleanTo b x (j + 1) = cleanTo b x j := by
  unfold cleanTo
  rw [List.take_succ_eq_append_getElem h, List.filter_append]
  rcases h1 with h1 | h1 <;> simp [h1]
theorem cleanTo_end {b : UInt8} {x : List UInt8} {m : Nat} (hm : min x.length 40 = m) : cleanTo b x m = cleanOf b x := by
  unfold cleanTo cleanOf
  subst hm
  by_cases h : x.length ≤ 40
  · rw [Nat.min_eq_left h, List.take_length, List.take_of_length_le h]
  · rw [Nat.min_eq_right (by omega)]
theorem cleanTo_len (b : UInt8) (x : List UInt8) (j : Nat) : (cleanTo b x j).length ≤ j := by
  unfold cleanTo
  have := List.length_filter_le (fun c => c != b && c != 34) (x.take j)
  simp at this ⊢
  omega
theorem joinB_next (b : UInt8) (ys : List (List UInt8)) (k : Nat) (hk : k < ys.length) : joinB b (ys.take (k + 1)) = joinB b (ys.take k) ++ (if 0 < k then [b] else []) ++ ys[k] := by
  rw [List.take_succ_eq_append_getElem hk]
  cases k with
  | zero => simp [joinB]
  | succ k =>
    cases ys with
    | nil => simp at hk
    | cons y r =>
      rw [List.take_succ_cons, joinB_snoc]
      simp
end Go.Proofs.YtigohbjbmipccaaDoor
