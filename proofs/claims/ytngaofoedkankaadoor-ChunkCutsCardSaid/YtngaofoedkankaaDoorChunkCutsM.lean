/- The law ChunkCuts: plain words; its own few (the tail is a pattern of tools/chunkcuts.py). -/
import Derived.Test.YtngaofoedkankaaDoorChunkLaw
import Derived.Test.YtngaofoedkankaaDoorIntRow
namespace Go.Proofs.YtngaofoedkankaaDoor
open Go.RowKit Go.Sort Go.Shelf
set_option linter.unusedVariables false
set_option linter.unusedSimpArgs false

set_option maxHeartbeats 800000 in
theorem ckFew (st : Int) (ln : List UInt8) (lf sz : Int) (hln : ln.length ≤ 9223372036854775807) (w : World) :
    Calls Tryd.prog 9 #[ckV st ln lf sz] w fun e w' => e = .returned (ckV st (ln.take 300) lf sz) ∧ Below w.heap.size w w' := by
  obtain ⟨p, hp, hp1, hp2⟩ : ∃ k : Nat, min (ln.length : Int) 300 = k ∧ k ≤ ln.length ∧ ln.take k = ln.take 300 := ⟨min ln.length 300, by omega, by omega, by rw [Nat.min_comm, ← List.take_take, List.take_length]⟩
  obtain ⟨x, hx⟩ : ∃ x, ln.take 300 = x := ⟨_, rfl⟩
  rw [hx] at hp2 ⊢
  have hp3 : (ln.take p).drop 0 = x := hp2
  have hpI : (p : Int) ≤ (ln.length : Int) := by omega
  unfold ckV
  clear hx
  go_enter Tryd.func9, Tryd.ntmps9
  go_wp2
  exact bodyPost_ret (v := .agg #[.int .i64 st, .string (S x), .int .i64 lf, .int .i64 sz]) (by simp [results, Tryd.results9, go_sem, *]) rfl ⟨rfl, by (repeat (first | (with_reducible exact Below.refl _ _) | (with_reducible assumption) | (with_reducible refine Below.drew ?_) | (focus ((with_reducible refine Below.setCell ?_ ?_ _); rotate_left; (first | omega | (simp <;> omega)))) | (focus ((with_reducible refine Below.alloc ?_ ?_ _); rotate_left; (first | omega | (simp <;> omega)))) | exact Below.refl _ _ | assumption | refine Below.drew ?_ | refine Below.alloc ?_ (by first | omega | (simp <;> omega)) _ | refine Below.setCell ?_ (by first | omega | (simp <;> omega)) _))⟩
/-- A piece of it. -/
theorem run_piece {c : Ck} {s : List UInt8} {n m : Nat} (hnm : n ≤ m) (hm : m ≤ s.length) : runC c (s.drop n) = match runC c ((s.take m).drop n) with
    | .inl e => .inl e
    | .inr (c', d, k) => if c'.st = 4 then .inr (c', d, k) else thenC d k (runC c' (s.drop m)) := by
  have e : s.drop n = (s.take m).drop n ++ s.drop m := by
    conv => lhs; rw [← List.take_append_drop m s]
    rw [List.drop_append_of_le_length (by simp; omega)]
  rw [e]
  exact run_append _ _ _
theorem feedV_c (c : Ck) (d : List UInt8) (n : Nat) : feedV (.inr (c, d, n)) = .tuple #[.agg #[.int .i64 c.st, .string (S c.ln), .int .i64 c.lf, .int .i64 c.sz], .string (S d), .int .i64 n, .int .i64 0] := rfl
theorem run_dlen (a : List UInt8) : ∀ (c c' : Ck) (d : List UInt8) (n : Nat), runC c a = .inr (c', d, n) → d.length ≤ n := by
  induction a with
  | nil =>
    intro c c' d n h
    rw [run_nil] at h
    injection h with h
    injection h with h1 h2
    injection h2 with h2 h3
    subst h2; subst h3; simp
  | cons x a ih =>
    intro c c' d n h
    by_cases hc : c.st = 4
    · rw [run_done hc] at h
      injection h with h
      injection h with h1 h2
      injection h2 with h2 h3
      subst h2; subst h3; simp
    · rw [run_cons hc] at h
      cases hb : byteC c x with
      | inl e => rw [hb] at h; cases h
      | inr p =>
        obtain ⟨c1, d1⟩ := p
        have hd1 : d1.length ≤ 1 := by
          unfold byteC at hb
          split at hb
          · injection hb with hb; injection hb with _ hb; subst hb; simp
          · split at hb
            · cases hl : lineC { c with ln := [] } (bareC c.ln) with
              | inl e => rw [hl] at hb; cases hb
              | inr c2 => rw [hl] at hb; injection hb with hb; injection hb with _ hb; subst hb; simp
            · split at hb
              · cases hb
              · injection hb with hb; injection hb with _ hb; subst hb; simp
        rw [hb] at h
        simp only at h
        cases hr : runC c1 a with
        | inl e => rw [hr] at h; cases h
        | inr q =>
          obtain ⟨c2, d2, n2⟩ := q
          rw [hr] at h
          injection h with h
          injection h with h1 h2
          injection h2 with h2 h3
          have := ih _ _ _ _ hr
          subst h2; subst h3
          simp; omega

theorem run_err (a : List UInt8) : ∀ (c : Ck) (e : Nat), runC c a = .inl e → e = 33 ∨ e = 2 := by
  induction a with
  | nil => intro c e h; rw [run_nil] at h; cases h
  | cons x a ih =>
    intro c e h
    by_cases hc : c.st = 4
    · rw [run_done hc] at h; cases h
    · rw [run_cons hc] at h
      cases hb : byteC c x with
      | inl e2 =>
        rw [hb] at h
        injection h with h
        subst h
        unfold byteC at hb
        split at hb
        · cases hb
        · split at hb
          · cases hl : lineC { c with ln := [] } (bareC c.ln) with
            | inl e3 => rw [hl] at hb; injection hb with hb; subst hb; exact line_err hl
            | inr c2 => rw [hl] at hb; cases hb
          · split at hb
            · injection hb with hb; exact .inl hb.symm
            · cases hb
      | inr p =>
        obtain ⟨c1, d1⟩ := p
        rw [hb] at h
        simp only at h
        cases hr : runC c1 a with
        | inl e2 => rw [hr] at h; injection h with h; subst h; exact ih _ _ hr
        | inr q => rw [hr] at h; cases h
theorem gr_set4 {a b : World} {k : Nat} {v0 v1 v2 v3 : Value} (h : a.grownBy b (some k)) : a.grownBy ((((b.setCell ⟨k, 0, none⟩ v0).setCell ⟨k, 1, none⟩ v1).setCell ⟨k, 2, none⟩ v2).setCell ⟨k, 3, none⟩ v3) (some k) := gr_set (gr_set (gr_set (gr_set h _ _) _ _) _ _) _ _
end Go.Proofs.YtngaofoedkankaaDoor
