/- What was read so far, whether it may be: the walk of chunk.Right. Printed by tools/chunkright.py. -/
import Derived.Test.YtngaofoedkankaaDoorChunkFeed
namespace Go.Proofs.YtngaofoedkankaaDoor
open Go.RowKit Go.Sort Go.Shelf
set_option linter.unusedVariables false
set_option linter.unusedSimpArgs false

def ckV (st : Int) (ln : List UInt8) (lf sz : Int) : Value := .agg #[.int .i64 st, .string (S ln), .int .i64 lf, .int .i64 sz]
def rightV (st : Int) (ln : List UInt8) (lf sz : Int) : Bool :=
  if decide (st < 0) = true then false else if decide (4 < st) = true then false else if decide (sz < 0) = true then false else if decide (20000 < sz) = true then false else if decide (200 < (ln.length : Int)) = true then false
  else if decide (0 ≤ Lib.indexByte ln 10) = true then false
  else if (st == 1) = true then decide (1 ≤ lf) && decide (lf ≤ 20000 - sz) && ln.isEmpty else (lf == 0) && (!(st == 4) || ln.isEmpty)
def Ck.v (c : Ck) : Value := ckV c.st c.ln c.lf c.sz
theorem right_ok {c : Ck} (h : c.Ok) : rightV c.st c.ln c.lf c.sz = true := by
  have h1 := h.st
  have h2 := h.sz
  have h3 := h.ln
  have h4 : Lib.indexByte c.ln 10 = -1 := by
    have h0 := Lib.indexByte_ge c.ln 10
    by_cases e : Lib.indexByte c.ln 10 = -1
    · exact e
    · obtain ⟨i, hi⟩ : ∃ i : Nat, Lib.indexByte c.ln 10 = i := ⟨(Lib.indexByte c.ln 10).toNat, by omega⟩
      exact absurd (List.mem_of_getElem? (Lib.indexByte_some hi).1) h.no
  unfold rightV
  rw [if_neg (by simp <;> omega), if_neg (by simp <;> omega), if_neg (by simp <;> omega), if_neg (by simp <;> omega), if_neg (by simp <;> omega), if_neg (by rw [h4]; decide)]
  by_cases hs : c.st = 1
  · obtain ⟨d1, d2, d3⟩ := h.data hs
    rw [if_pos (by simp [hs]), d3]
    simp; omega
  · rw [if_neg (by simpa using (by omega : ¬ (c.st : Int) = 1)), h.lf hs]
    by_cases hd : c.st = 4
    · rw [h.done hd]; simp
    · have : ((c.st : Int) == 4) = false := by simpa using (by omega : ¬ (c.st : Int) = 4)
      rw [this]; rfl
theorem ok_right {st lf sz : Int} {ln : List UInt8} (h : rightV st ln lf sz = true) : ∃ c : Ck, c.Ok ∧ st = c.st ∧ ln = c.ln ∧ lf = c.lf ∧ sz = c.sz := by
  unfold rightV at h
  by_cases h1 : st < 0
  · rw [if_pos (by simpa using h1)] at h; cases h
  rw [if_neg (by simpa using h1)] at h
  by_cases h2 : 4 < st
  · rw [if_pos (by simpa using h2)] at h; cases h
  rw [if_neg (by simpa using h2)] at h
  by_cases h3 : sz < 0
  · rw [if_pos (by simpa using h3)] at h; cases h
  rw [if_neg (by simpa using h3)] at h
  by_cases h4 : 20000 < sz
  · rw [if_pos (by simpa using h4)] at h; cases h
  rw [if_neg (by simpa using h4)] at h
  by_cases h5 : 200 < (ln.length : Int)
  · rw [if_pos (by simpa using h5)] at h; cases h
  rw [if_neg (by simpa using h5)] at h
  by_cases h6 : 0 ≤ Lib.indexByte ln 10
  · rw [if_pos (by simpa using h6)] at h; cases h
  rw [if_neg (by simpa using h6)] at h
  have h10 : (10 : UInt8) ∉ ln := idxC_none' (by have := Lib.indexByte_ge ln 10; omega)
  have hlf : 0 ≤ lf := by
    by_cases hs : st = 1
    · rw [if_pos (by simp [hs])] at h
      simp only [Bool.and_eq_true, decide_eq_true_eq] at h
      omega
    · rw [if_neg (by simpa using hs)] at h
      simp only [Bool.and_eq_true, beq_iff_eq] at h
      omega
  refine ⟨⟨st.toNat, ln, lf.toNat, sz.toNat⟩, ⟨by show st.toNat ≤ 4; omega, by show sz.toNat ≤ 20000; omega, by show ln.length ≤ 200; omega, h10, fun e => ?_, fun e => ?_, fun e => ?_⟩, (by show st = (st.toNat : Int); omega), rfl, (by show lf = (lf.toNat : Int); omega), (by show sz = (sz.toNat : Int); omega)⟩
  · have e : st.toNat = 1 := e
    rw [if_pos (by simpa using (by omega : st = 1))] at h
    simp only [Bool.and_eq_true, decide_eq_true_eq, List.isEmpty_iff] at h
    exact ⟨by show 1 ≤ lf.toNat; omega, by show lf.toNat + sz.toNat ≤ 20000; omega, h.2⟩
  · have e : st.toNat ≠ 1 := e
    rw [if_neg (by simpa using (by omega : ¬ st = 1))] at h
    simp only [Bool.and_eq_true, beq_iff_eq] at h
    show lf.toNat = 0; omega
  · have e : st.toNat = 4 := e
    rw [if_neg (by simpa using (by omega : ¬ st = 1))] at h
    have e4 : st = 4 := by omega
    subst e4
    simp at h
    exact h.2

set_option maxHeartbeats 3200000 in
set_option maxRecDepth 100000 in
theorem ckRight (st : Int) (ln : List UInt8) (lf sz : Int) (hln : ln.length ≤ 1000000) (w : World) :
    Calls Tryd.prog 19 #[ckV st ln lf sz] w fun e w' => e = .returned (.bool (rightV st ln lf sz)) ∧ Below w.heap.size w w' := by
  unfold rightV ckV
  obtain ⟨b1, hb1⟩ : ∃ x, decide (st < 0) = x := ⟨_, rfl⟩
  rw [hb1]
  cases b1 with
  | true =>
    rw [if_pos rfl]
    go_enter Tryd.func19, Tryd.ntmps19
    go_wp2
    go_ret
    exact ⟨ret_bool (by simp), by (repeat (first | (with_reducible exact Below.refl _ _) | (with_reducible assumption) | (with_reducible refine Below.drew ?_) | (focus ((with_reducible refine Below.setCell ?_ ?_ _); rotate_left; (first | omega | (simp <;> omega)))) | (focus ((with_reducible refine Below.alloc ?_ ?_ _); rotate_left; (first | omega | (simp <;> omega)))) | exact Below.refl _ _ | assumption | refine Below.drew ?_ | refine Below.alloc ?_ (by first | omega | (simp <;> omega)) _ | refine Below.setCell ?_ (by first | omega | (simp <;> omega)) _))⟩
  | false =>
    rw [if_neg (by simp)]
    obtain ⟨b2, hb2⟩ : ∃ x, decide (4 < st) = x := ⟨_, rfl⟩
    rw [hb2]
    cases b2 with
    | true =>
      rw [if_pos rfl]
      go_enter Tryd.func19, Tryd.ntmps19
      go_wp2
      go_ret
      exact ⟨ret_bool (by simp), by (repeat (first | (with_reducible exact Below.refl _ _) | (with_reducible assumption) | (with_reducible refine Below.drew ?_) | (focus ((with_reducible refine Below.setCell ?_ ?_ _); rotate_left; (first | omega | (simp <;> omega)))) | (focus ((with_reducible refine Below.alloc ?_ ?_ _); rotate_left; (first | omega | (simp <;> omega)))) | exact Below.refl _ _ | assumption | refine Below.drew ?_ | refine Below.alloc ?_ (by first | omega | (simp <;> omega)) _ | refine Below.setCell ?_ (by first | omega | (simp <;> omega)) _))⟩
    | false =>
      rw [if_neg (by simp)]
      obtain ⟨b3, hb3⟩ : ∃ x, decide (sz < 0) = x := ⟨_, rfl⟩
      rw [hb3]
      cases b3 with
      | true =>
        rw [if_pos rfl]
        go_enter Tryd.func19, Tryd.ntmps19
        go_wp2
        go_ret
        exact ⟨ret_bool (by simp), by (repeat (first | (with_reducible exact Below.refl _ _) | (with_reducible assumption) | (with_reducible refine Below.drew ?_) | (focus ((with_reducible refine Below.setCell ?_ ?_ _); rotate_left; (first | omega | (simp <;> omega)))) | (focus ((with_reducible refine Below.alloc ?_ ?_ _); rotate_left; (first | omega | (simp <;> omega)))) | exact Below.refl _ _ | assumption | refine Below.drew ?_ | refine Below.alloc ?_ (by first | omega | (simp <;> omega)) _ | refine Below.setCell ?_ (by first | omega | (simp <;> omega)) _))⟩
      | false =>
        rw [if_neg (by simp)]
        obtain ⟨b4, hb4⟩ : ∃ x, decide (20000 < sz) = x := ⟨_, rfl⟩
        rw [hb4]
        cases b4 with
        | true =>
          rw [if_pos rfl]
          go_enter Tryd.func19, Tryd.ntmps19
          go_wp2
          go_ret
          exact ⟨ret_bool (by simp), by (repeat (first | (with_reducible exact Below.refl _ _) | (with_reducible assumption) | (with_reducible refine Below.drew ?_) | (focus ((with_reducible refine Below.setCell ?_ ?_ _); rotate_left; (first | omega | (simp <;> omega)))) | (focus ((with_reducible refine Below.alloc ?_ ?_ _); rotate_left; (first | omega | (simp <;> omega)))) | exact Below.refl _ _ | assumption | refine Below.drew ?_ | refine Below.alloc ?_ (by first | omega | (simp <;> omega)) _ | refine Below.setCell ?_ (by first | omega | (simp <;> omega)) _))⟩
        | false =>
          rw [if_neg (by simp)]
          obtain ⟨b5, hb5⟩ : ∃ x, decide (200 < (ln.length : Int)) = x := ⟨_, rfl⟩
          rw [hb5]
          cases b5 with
          | true =>
            rw [if_pos rfl]
            go_enter Tryd.func19, Tryd.ntmps19
            go_wp2
            go_ret
            exact ⟨ret_bool (by simp), by (repeat (first | (with_reducible exact Below.refl _ _) | (with_reducible assumption) | (with_reducible refine Below.drew ?_) | (focus ((with_reducible refine Below.setCell ?_ ?_ _); rotate_left; (first | omega | (simp <;> omega)))) | (focus ((with_reducible refine Below.alloc ?_ ?_ _); rotate_left; (first | omega | (simp <;> omega)))) | exact Below.refl _ _ | assumption | refine Below.drew ?_ | refine Below.alloc ?_ (by first | omega | (simp <;> omega)) _ | refine Below.setCell ?_ (by first | omega | (simp <;> omega)) _))⟩
          | false =>
            rw [if_neg (by simp)]
            obtain ⟨b6, hb6⟩ : ∃ x, decide (0 ≤ Lib.indexByte ln 10) = x := ⟨_, rfl⟩
            rw [hb6]
            have CN := Lib.hid (fun W => contains1_S hb6 W)
            clear hb6
            cases b6 with
            | true =>
              rw [if_pos rfl]
              go_enter Tryd.func19, Tryd.ntmps19
              go_wp2_with (first | (go_at_call 34; refine Calls.mono (CN.out _) ?_; rintro e w' ⟨rfl, hw'⟩; obtain rfl := hw'.symm) | fail)
              go_ret
              exact ⟨ret_bool (by simp), by (repeat (first | (with_reducible exact Below.refl _ _) | (with_reducible assumption) | (with_reducible refine Below.drew ?_) | (focus ((with_reducible refine Below.setCell ?_ ?_ _); rotate_left; (first | omega | (simp <;> omega)))) | (focus ((with_reducible refine Below.alloc ?_ ?_ _); rotate_left; (first | omega | (simp <;> omega)))) | exact Below.refl _ _ | assumption | refine Below.drew ?_ | refine Below.alloc ?_ (by first | omega | (simp <;> omega)) _ | refine Below.setCell ?_ (by first | omega | (simp <;> omega)) _))⟩
            | false =>
              have hs0 : 0 ≤ sz := by simpa using hb3
              have hs1 : sz ≤ 20000 := by simpa using hb4
              have hww : IntKind.i64.wrap (20000 - sz) = 20000 - sz := by rw [IntKind.wrap_i64]; omega
              rw [if_neg (by simp)]
              obtain ⟨c1, hc1⟩ : ∃ x, (st == 1) = x := ⟨_, rfl⟩
              rw [hc1]
              cases he : ln.isEmpty
              all_goals
                cases c1
                · rw [if_neg (by simp)]
                  obtain ⟨d1, hd1⟩ : ∃ x, (lf == 0) = x := ⟨_, rfl⟩
                  obtain ⟨d2, hd2⟩ : ∃ x, (st == 4) = x := ⟨_, rfl⟩
                  have hd3 : (st != 4) = !d2 := by rw [← hd2]; rfl
                  rw [hd1, hd2]
                  cases d1 <;> cases d2
                  all_goals
                    (try simp only [Bool.not_true, Bool.not_false] at hd3)
                    (try (obtain rfl := List.isEmpty_iff.1 he))
                    go_enter Tryd.func19, Tryd.ntmps19
                    go_wp2_with (first | (go_at_call 34; refine Calls.mono (CN.out _) ?_; rintro e w' ⟨rfl, hw'⟩; obtain rfl := hw'.symm) | fail)
                    go_ret
                    exact ⟨ret_bool (by simp), by (repeat (first | (with_reducible exact Below.refl _ _) | (with_reducible assumption) | (with_reducible refine Below.drew ?_) | (focus ((with_reducible refine Below.setCell ?_ ?_ _); rotate_left; (first | omega | (simp <;> omega)))) | (focus ((with_reducible refine Below.alloc ?_ ?_ _); rotate_left; (first | omega | (simp <;> omega)))) | exact Below.refl _ _ | assumption | refine Below.drew ?_ | refine Below.alloc ?_ (by first | omega | (simp <;> omega)) _ | refine Below.setCell ?_ (by first | omega | (simp <;> omega)) _))⟩
                · rw [if_pos rfl]
                  obtain ⟨d1, hd1⟩ : ∃ x, decide (1 ≤ lf) = x := ⟨_, rfl⟩
                  obtain ⟨d2, hd2⟩ : ∃ x, decide (lf ≤ 20000 - sz) = x := ⟨_, rfl⟩
                  rw [hd1, hd2]
                  cases d1 <;> cases d2
                  all_goals
                    (try (obtain rfl := List.isEmpty_iff.1 he))
                    go_enter Tryd.func19, Tryd.ntmps19
                    go_wp2_with (first | (go_at_call 34; refine Calls.mono (CN.out _) ?_; rintro e w' ⟨rfl, hw'⟩; obtain rfl := hw'.symm) | fail)
                    go_ret
                    exact ⟨ret_bool (by simp), by (repeat (first | (with_reducible exact Below.refl _ _) | (with_reducible assumption) | (with_reducible refine Below.drew ?_) | (focus ((with_reducible refine Below.setCell ?_ ?_ _); rotate_left; (first | omega | (simp <;> omega)))) | (focus ((with_reducible refine Below.alloc ?_ ?_ _); rotate_left; (first | omega | (simp <;> omega)))) | exact Below.refl _ _ | assumption | refine Below.drew ?_ | refine Below.alloc ?_ (by first | omega | (simp <;> omega)) _ | refine Below.setCell ?_ (by first | omega | (simp <;> omega)) _))⟩
end Go.Proofs.YtngaofoedkankaaDoor
