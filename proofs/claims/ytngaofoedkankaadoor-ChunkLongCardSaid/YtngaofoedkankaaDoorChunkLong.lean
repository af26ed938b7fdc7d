/- The law ChunkLong: its walk. -/
import Derived.Test.YtngaofoedkankaaDoorChunkLaw
import Derived.Test.YtngaofoedkankaaDoorOwnByte
import Derived.OwnWalk
namespace Go.Proofs.YtngaofoedkankaaDoor
open Go.RowKit Go.Sort Go.Shelf
set_option linter.unusedVariables false
set_option linter.unusedSimpArgs false

theorem made_zeros (n : Nat) : (madeCells (Value.int .u8 0).cells (n * 1)).toList = bcells (List.replicate n 0) := by
  have hc : (Value.int .u8 0).cells = #[Value.int .u8 0] := rfl
  rw [hc, Nat.mul_one]
  unfold bcells madeCells
  rw [List.map_replicate, Array.toList_map]
  have h : ∀ l : List Nat, l.map (fun x => (#[Value.int .u8 0] : Array Value)[x % (#[Value.int .u8 0] : Array Value).size]!) = List.replicate l.length (Value.int .u8 ((0 : UInt8).toNat : Int)) := fun l => by
    induction l with
    | nil => rfl
    | cons a l ih =>
      rw [List.map_cons, ih, List.length_cons, List.replicate_succ]
      congr 1
      have : a % (#[Value.int .u8 0] : Array Value).size = 0 := Nat.mod_one a
      rw [this]; rfl
  rw [h]
  simp
theorem made_text {W : World} {B g n : Nat} {z : List UInt8} (h : W.ownsRow B 5 1 (.slice (some ⟨g, 0, none⟩) n n) n (madeCells (Value.int .u8 0).cells (n * 1)).toList) (hz : List.replicate n 0 = z) :
    (convert 32 9 (.slice (some ⟨g, 0, none⟩) n n)).run Tryd.prog W = .ok (.string (S z)) W := by
  subst hz
  have h2 : OwnsB W B (.slice (some ⟨g, 0, none⟩) n n) (List.replicate n 0) := by
    unfold OwnsB
    rw [List.length_replicate, ← made_zeros]
    exact h
  exact h2.text

theorem long_runs (sz more : Nat) (h1 : sz ≤ 20000) (h2 : 1 ≤ more) (h3 : more ≤ 20001) :
    runC (ck0 0) (encL (List.replicate sz 0)) = .inr (ck0 sz, List.replicate sz 0, (encL (List.replicate sz 0)).length) ∧
    ((sz + more ≤ 20000 ∧ ∃ d n, runC (ck0 0) (encL (List.replicate sz 0) ++ encL (List.replicate more 0)) = .inr (ck0 (sz + more), d, n)) ∨
     (20000 < sz + more ∧ runC (ck0 0) (encL (List.replicate sz 0) ++ encL (List.replicate more 0)) = .inl 2)) := by
  have e1 : ∀ r, runC (ck0 0) (encL (List.replicate sz 0) ++ r) = thenC (List.replicate sz 0) (encL (List.replicate sz 0)).length (runC (ck0 sz) r) := fun r => by
    have := run_enc' 0 (List.replicate sz 0) r (by simp; omega)
    rw [List.length_replicate, Nat.zero_add] at this
    exact this
  refine ⟨?_, ?_⟩
  · have := e1 []
    rw [List.append_nil, run_nil] at this
    rw [this]; simp [thenC]
  · by_cases h : sz + more ≤ 20000
    · left
      refine ⟨h, ?_⟩
      have e2 := run_enc' sz (List.replicate more 0) [] (by simp; omega)
      rw [List.append_nil, run_nil, List.length_replicate] at e2
      rw [e1, e2]
      exact ⟨_, _, rfl⟩
    · right
      refine ⟨by omega, ?_⟩
      have e2 := run_enc_long sz (List.replicate more 0) [] (by intro e; have := congrArg List.length e; simp at this; omega) (by simp; omega) (by simp; omega)
      rw [List.append_nil] at e2
      rw [e1, e2]; rfl

set_option maxHeartbeats 1600000 in
set_option maxRecDepth 100000 in
theorem chunkLong_any (a b : Int) (w : World) (h1 : (Lit.int .i64 a).wf) (h2 : (Lit.int .i64 b).wf) (hL : Laid w) :
    Calls Tryd.prog 4 #[.int .i64 a, .int .i64 b] w fun e w' => e = .returned (.bool true) ∧ Below w.heap.size w w' := by
  obtain ⟨sz, hs, hsl⟩ : ∃ k : Nat, min (max a 0) 20000 = k ∧ k ≤ 20000 := ⟨(min (max a 0) 20000).toNat, by omega, by omega⟩
  obtain ⟨mo, hm, hm1, hm2⟩ : ∃ k : Nat, min (max b 1) 20001 = k ∧ 1 ≤ k ∧ k ≤ 20001 := ⟨(min (max b 1) 20001).toNat, by omega, by omega, by omega⟩
  obtain ⟨r1, r2⟩ := long_runs sz mo hsl hm1 hm2
  have EN := Lib.hid (fun (z : List UInt8) (hz : z.length ≤ 1000000) W (hb : Below w.heap.size w W) => ckEncode z hz W (hL.on hb))
  have E1 := Lib.hid (fun W hb => EN.out (List.replicate sz 0) (by simp; omega) W hb)
  have E2 := Lib.hid (fun W hb => EN.out (List.replicate mo 0) (by simp; omega) W hb)
  have hl1 := enc_le (List.replicate sz 0)
  have hl2 := enc_le (List.replicate mo 0)
  rw [List.length_replicate] at hl1 hl2
  obtain ⟨e1, he1⟩ : ∃ z, encL (List.replicate sz 0) = z := ⟨_, rfl⟩
  obtain ⟨e2, he2⟩ : ∃ z, encL (List.replicate mo 0) = z := ⟨_, rfl⟩
  rw [he1] at E1 r1 r2 hl1
  rw [he2] at E2 r2 hl2
  have F1 := Lib.hid (fun W => feed0 e1 (by omega) W)
  have F2 := Lib.hid (fun W => feed0 (e1 ++ e2) (by simp; omega) W)
  rw [r1, feedV_at] at F1
  have AL := Lib.hid (fun W => ck_alive W)
  have hsI : (sz : Int) ≤ 20000 := by omega
  have hmI : (mo : Int) ≤ 20001 := by omega
  have g1 : (e1.length : Int) ≤ 30000 := by omega
  have g2 : (e2.length : Int) ≤ 30000 := by omega
  obtain ⟨z1, hz1⟩ : ∃ z, (List.replicate sz 0 : List UInt8) = z := ⟨_, rfl⟩
  obtain ⟨z2, hz2⟩ : ∃ z, (List.replicate mo 0 : List UInt8) = z := ⟨_, rfl⟩
  rw [hz1] at E1 F1
  rw [hz2] at E2
  have MM1 := Lib.hid hz1
  have MM2 := Lib.hid hz2
  clear EN he1 he2 r1 hL h1 h2 hz1 hz2
  obtain ⟨i0, hi, hz0, hz1', hz2'⟩ := info_parts infoU8
  rcases r2 with ⟨hle, d, n, r2⟩ | ⟨hgt, r2⟩
  all_goals
    rw [r2] at F2
    first | rw [feedV_at] at F2 | rw [feedV_err] at F2
    clear r2
    go_enter Tryd.func4, Tryd.ntmps4
    go_wp2_with (first
      | (at_make; refine wpList_make_full _ rfl _ _ 32 rfl w.heap.size 5 i0 (.int .u8 0) 1 Tryd.underlying32 hi hz0 hz1' .i64 .i64 _ _ sz rfl rfl rfl rfl (by rw [hz2']; omega) (by unfold maxLen; omega) (by (first | omega | (simp <;> omega))) ?_; intro w1 ho1 hg1; have T1 := made_text ho1 MM1.out; have HB1 := Lib.hid (Below.grown (Below.refl w.heap.size w) hg1 (Nat.le_refl _) (fun k hk => by cases hk)); have hz1 := hg1.size; clear ho1 hg1)
      | (go_at_call 12; (with_reducible refine Calls.mono (E1.out _ ?_) ?_); (focus (exact HB1.out)); rintro e w2 ⟨rfl, hb2⟩; have HB2 := Lib.hid (HB1.out.trans (hb2.mono HB1.out.size)); have hz2 := hb2.size; clear hb2)
      | (go_at_call 10; (with_reducible refine Calls.mono (F1.out _) ?_); rintro e w3 ⟨rfl, hb3⟩; have HB3 := Lib.hid (HB2.out.trans (hb3.mono HB2.out.size)); have hz3 := hb3.size; clear hb3)
      | (at_make; refine wpList_make_full _ rfl _ _ 32 rfl w3.heap.size 5 i0 (.int .u8 0) 1 Tryd.underlying32 hi hz0 hz1' .i64 .i64 _ _ mo rfl rfl rfl rfl (by rw [hz2']; omega) (by unfold maxLen; omega) (by (first | omega | (simp <;> omega))) ?_; intro w4 ho4 hg4; have T4 := made_text ho4 MM2.out; (simp only [World.size_alloc, World.size_setCell] at T4); have HB4 := Lib.hid (Below.grown (show Below w.heap.size w _ by (have := HB3.out; (repeat (first | (with_reducible exact Below.refl _ _) | (with_reducible assumption) | (with_reducible refine Below.drew ?_) | (focus ((with_reducible refine Below.setCell ?_ ?_ _); rotate_left; (first | omega | (simp <;> omega)))) | (focus ((with_reducible refine Below.alloc ?_ ?_ _); rotate_left; (first | omega | (simp <;> omega)))) | exact Below.refl _ _ | assumption | refine Below.drew ?_ | refine Below.alloc ?_ (by first | omega | (simp <;> omega)) _ | refine Below.setCell ?_ (by first | omega | (simp <;> omega)) _)))) hg4 (by (first | omega | (simp <;> omega))) (fun k hk => by cases hk)); have hz4 := hg4.size; (try simp at hz4); clear ho4 hg4)
      | (go_at_call 12; (with_reducible refine Calls.mono (E2.out _ ?_) ?_); (focus (exact HB4.out)); rintro e w5 ⟨rfl, hb5⟩; have HB5 := Lib.hid (HB4.out.trans (hb5.mono HB4.out.size)); have hz5 := hb5.size; clear hb5)
      | (go_at_call 10; (with_reducible refine Calls.mono (F2.out _) ?_); rintro e w6 ⟨rfl, hb6⟩; have HB6 := Lib.hid (HB5.out.trans (hb6.mono HB5.out.size)); have hz6 := hb6.size; clear hb6)
      | (go_at_call 11; (with_reducible refine Calls.mono (AL.out _) ?_); rintro e w7 ⟨rfl, hb7⟩; have HB7 := Lib.hid (Below.trans (show Below w.heap.size w _ by (have := HB6.out; have := this.size; (repeat (first | (with_reducible exact Below.refl _ _) | (with_reducible assumption) | (with_reducible refine Below.drew ?_) | (focus ((with_reducible refine Below.setCell ?_ ?_ _); rotate_left; (first | omega | (simp <;> omega)))) | (focus ((with_reducible refine Below.alloc ?_ ?_ _); rotate_left; (first | omega | (simp <;> omega)))) | exact Below.refl _ _ | assumption | refine Below.drew ?_ | refine Below.alloc ?_ (by first | omega | (simp <;> omega)) _ | refine Below.setCell ?_ (by first | omega | (simp <;> omega)) _)))) (hb7.mono (by (first | omega | (simp <;> omega))))); clear hb7)
      | fail)
    go_ret
    exact ⟨ret_bool (by simp <;> omega), HB7.out⟩
end Go.Proofs.YtngaofoedkankaaDoor
