/- The law's own bound on addresses: the walk of few. -/
import Derived.Test.YtpglgembgpoeiaaDoorUriRight2
import Derived.Test.YtpglgembgpoeiaaDoorCleanRef
import Derived.Test.YtpglgembgpoeiaaDoorInter
namespace Go.Proofs.YtpglgembgpoeiaaDoor
open Go.RowKit Go.Sort Go.Shelf
set_option linter.unusedVariables false

/-- An address. -/
structure UU where
  a : Bool
  h : List UInt8
  n : Int
  p : List UInt8
  q : Bool
  y : List UInt8
abbrev UU.v (u : UU) : Value := uv u.a u.h u.n u.p u.q u.y
def UU.ok (u : UU) : Bool := rightU u.a u.h u.n u.p u.q u.y
def UU.small (u : UU) : Prop := u.h.length ≤ 120 ∧ u.p.length ≤ 520 ∧ u.y.length ≤ 520

theorem take_min (l : List UInt8) (m : Nat) : l.take (min (l.length : Int) m).toNat = l.take m := by
  by_cases h : l.length ≤ m
  · rw [show (min (l.length : Int) m).toNat = l.length by omega, List.take_length, List.take_of_length_le h]
  · rw [show (min (l.length : Int) m).toNat = m by omega]

set_option maxHeartbeats 1600000 in
theorem few (a : Bool) (h : List UInt8) (n : Int) (p : List UInt8) (q : Bool) (y : List UInt8) (hh : h.length ≤ 9223372036854775807) (hp : p.length ≤ 9223372036854775807) (hy : y.length ≤ 9223372036854775807) (w : World) :
    Calls Tryd.prog 6 #[uv a h n p q y] w fun e w' => e = .returned (uv a (h.take 120) n (p.take 520) q (y.take 520)) ∧ Below w.heap.size w w' := by
  have T1 := Lib.hid (take_min h 120)
  have T2 := Lib.hid (take_min p 520)
  have T3 := Lib.hid (take_min y 520)
  have hv : uv a (h.take 120) n (p.take 520) q (y.take 520) = uv a (h.take (min (h.length : Int) 120).toNat) n (p.take (min (p.length : Int) 520).toNat) q (y.take (min (y.length : Int) 520).toNat) := by
    rw [show h.take (min (h.length : Int) 120).toNat = h.take 120 from T1.out, show p.take (min (p.length : Int) 520).toNat = p.take 520 from T2.out, show y.take (min (y.length : Int) 520).toNat = y.take 520 from T3.out]
  rw [hv]
  clear hv T1 T2 T3
  go_enter Tryd.func6, Tryd.ntmps6
  go_wp2_with fail
  have M1 : 0 ≤ min (h.length : Int) 120 ∧ ¬ (h.length : Int) < min (h.length : Int) 120 := ⟨by omega, by omega⟩
  have M2 : 0 ≤ min (p.length : Int) 520 ∧ ¬ (p.length : Int) < min (p.length : Int) 520 := ⟨by omega, by omega⟩
  have M3 : 0 ≤ min (y.length : Int) 520 ∧ ¬ (y.length : Int) < min (y.length : Int) 520 := ⟨by omega, by omega⟩
  refine wp_region_chain [fun W => W.setCell ⟨w.heap.size, 1, none⟩ (.string (S (h.take (min (h.length : Int) 120).toNat))), fun W => W.setCell ⟨w.heap.size, 3, none⟩ (.string (S (p.take (min (p.length : Int) 520).toNat))), fun W => W.setCell ⟨w.heap.size, 5, none⟩ (.string (S (y.take (min (y.length : Int) 520).toNat)))] (fun r => [22, 24, 26].getD r 0) (fun i => [0, 0, 0, 0, 0, 0, 0, 1, 1, 1, 1, 1, 1, 1, 2, 2, 2, 2, 2, 2, 2, 0, 0, 1, 1, 2, 2].getD i 3) ⟨#[uv a h n p q y, .pointer (some ⟨w.heap.size, 0, none⟩), .pointer (some ⟨w.heap.size + 1, 0, none⟩), .pointer (some ⟨w.heap.size, 1, none⟩), .string (S h), .pointer (some ⟨w.heap.size, 1, none⟩), .string (S h), .int .i64 h.length, .int .i64 (min (h.length : Int) 120), .string (S (h.take (min (h.length : Int) 120).toNat)), .pointer (some ⟨w.heap.size, 3, none⟩), .string (S p), .pointer (some ⟨w.heap.size, 3, none⟩), .string (S p), .int .i64 p.length, .int .i64 (min (p.length : Int) 520), .string (S (p.take (min (p.length : Int) 520).toNat)), .pointer (some ⟨w.heap.size, 5, none⟩), .string (S y), .pointer (some ⟨w.heap.size, 5, none⟩), .string (S y), .int .i64 y.length, .int .i64 (min (y.length : Int) 520), .string (S (y.take (min (y.length : Int) 520).toNat)), .pointer (some ⟨w.heap.size, 1, none⟩), .pointer (some ⟨w.heap.size, 3, none⟩), .pointer (some ⟨w.heap.size, 5, none⟩), undef], []⟩ (by kernel_rfl) (by kernel_rfl) rfl ?_ ?_ ?_
  · repeat (first | exact trivial | refine ⟨by first | exact Or.inr rfl | exact Or.inl (by kernel_rfl), ?_⟩)
  · repeat (first | exact trivial | refine And.intro (by first | exact opOK_head 0 (by rfl) (upto0 (oneOK_val rfl rfl (by simp [go_sem, *]))) | exact opOK_head 1 (by rfl) (upto1 (oneOK_val rfl rfl (by simp [go_sem, *])) (oneOK_val rfl rfl (by simp [go_sem, *]))) | exact opOK_head 2 (by rfl) (upto2 (oneOK_val rfl rfl (by simp [go_sem, *])) (oneOK_val rfl rfl (by simp [go_sem, *])) (oneOK_val rfl rfl (by simp [go_sem, *]))) | exact opOK_head 3 (by rfl) (upto3 (oneOK_val rfl rfl (by simp [go_sem, *])) (oneOK_val rfl rfl (by simp [go_sem, *])) (oneOK_val rfl rfl (by simp [go_sem, *])) (oneOK_val rfl rfl (by simp [go_sem, *]))) | exact opOK_at 0 (by rfl) (oneOK_none rfl (.inr ⟨by simp [go_sem, *], rfl⟩)) | exact opOK_at 1 (by rfl) (oneOK_none rfl (.inr ⟨by simp [go_sem, *], rfl⟩)) | exact opOK_at 2 (by rfl) (oneOK_none rfl (.inr ⟨by simp [go_sem, *], rfl⟩))) ?_)
  simp only [List.foldl_cons, List.foldl_nil]
  go_wp2
  exact bodyPost_ret (v := uv a (h.take (min (h.length : Int) 120).toNat) n (p.take (min (p.length : Int) 520).toNat) q (y.take (min (y.length : Int) 520).toNat)) (by simp [results, Tryd.results6, go_sem, *]) rfl ⟨rfl, by (repeat refine Below.setCell ?_ (by first | omega | (simp <;> omega)) _); (repeat (first | (with_reducible exact Below.refl _ _) | (with_reducible assumption) | (with_reducible refine Below.drew ?_) | (focus ((with_reducible refine Below.setCell ?_ ?_ _); rotate_left; (first | omega | (simp <;> omega)))) | (focus ((with_reducible refine Below.alloc ?_ ?_ _); rotate_left; (first | omega | (simp <;> omega)))) | exact Below.refl _ _ | assumption | refine Below.drew ?_ | refine Below.alloc ?_ (by first | omega | (simp <;> omega)) _ | refine Below.setCell ?_ (by first | omega | (simp <;> omega)) _))⟩
end Go.Proofs.YtpglgembgpoeiaaDoor
