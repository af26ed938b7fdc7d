/- The laws on bodies in chunks: what they share: chunk.Encode, chunk.End, their own known body. -/
import Derived.Test.YtngaofoedkankaaDoorChunkFeed2
import Derived.Test.YtngaofoedkankaaDoorChunkMath2
namespace Go.Proofs.YtngaofoedkankaaDoor
open Go.RowKit Go.Sort Go.Shelf
set_option linter.unusedVariables false
set_option linter.unusedSimpArgs false

theorem feed0 (t : List UInt8) (ht : t.length ≤ 100000) (w : World) :
    Calls Tryd.prog 10 #[.agg #[.int .i64 0, .string (S []), .int .i64 0, .int .i64 0], .string (S t)] w fun e w' => e = .returned (feedV (runC (ck0 0) t)) ∧ Below w.heap.size w w' := ckFeed_ok (ck0 0) (ck0_ok (Nat.zero_le _)) t ht w
theorem feedV_done (sz : Nat) (d : List UInt8) (n : Nat) : feedV (.inr ({ ck0 sz with st := 4 }, d, n)) = .tuple #[.agg #[.int .i64 4, .string (S []), .int .i64 0, .int .i64 sz], .string (S d), .int .i64 n, .int .i64 0] := rfl
theorem feedV_at (sz : Nat) (d : List UInt8) (n : Nat) : feedV (.inr (ck0 sz, d, n)) = .tuple #[.agg #[.int .i64 0, .string (S []), .int .i64 0, .int .i64 sz], .string (S d), .int .i64 n, .int .i64 0] := rfl
theorem feedV_err (e : Nat) : feedV (.inl e) = .tuple #[.agg #[.int .i64 0, .string (S []), .int .i64 0, .int .i64 0], .string (S []), .int .i64 0, .int .i64 e] := rfl
theorem enc_le (s : List UInt8) : (encL s).length ≤ s.length + 20 := by
  unfold encL
  split
  · simp
  · have := hexC_len s.length
    simp; omega
theorem alive_run : runC (ck0 0) [51, 13, 10, 97, 98, 99, 13, 10, 48, 13, 10, 13, 10] = .inr ({ ck0 3 with st := 4 }, [97, 98, 99], 13) := by
  have e1 : ([51, 13, 10, 97, 98, 99, 13, 10, 48, 13, 10, 13, 10] : List UInt8) = encL [97, 98, 99] ++ (endL ++ []) := by decide
  have e2 : (encL [97, 98, 99]).length = 8 := by decide
  rw [e1, run_enc' 0 _ _ (by decide), run_end, e2]
  rfl

set_option maxHeartbeats 800000 in
set_option maxRecDepth 100000 in
theorem ck_alive (w : World) : Calls Tryd.prog 11 #[] w fun e w' => e = .returned (.bool true) ∧ Below w.heap.size w w' := by
  have FE := Lib.hid (fun W => feed0 [51, 13, 10, 97, 98, 99, 13, 10, 48, 13, 10, 13, 10] (by decide) W)
  rw [alive_run, feedV_done] at FE
  go_enter Tryd.func11, Tryd.ntmps11
  go_wp2_with fail
  refine Calls.mono (FE.out _) ?_
  rintro e w1 ⟨rfl, hb1⟩
  have HB1 := Lib.hid hb1
  clear hb1
  go_wp2
  go_ret
  exact ⟨ret_bool (by simp), by have := HB1.out; have hz := this.size; (repeat (first | (with_reducible exact Below.refl _ _) | (with_reducible assumption) | (with_reducible refine Below.drew ?_) | (focus ((with_reducible refine Below.setCell ?_ ?_ _); rotate_left; (first | omega | (simp <;> omega)))) | (focus ((with_reducible refine Below.alloc ?_ ?_ _); rotate_left; (first | omega | (simp <;> omega)))) | exact Below.refl _ _ | assumption | refine Below.drew ?_ | refine Below.alloc ?_ (by first | omega | (simp <;> omega)) _ | refine Below.setCell ?_ (by first | omega | (simp <;> omega)) _))⟩
/-- A block kept behind a call, if it was there. -/
theorem keepc {W W' : World} {G : Prop} (hb : Below W.heap.size W W') (b : Nat) (h : b < W.heap.size) (k : (∀ o, W'.cell? ⟨b, o, none⟩ = W.cell? ⟨b, o, none⟩) → (∀ o, W'.frozen? ⟨b, o, none⟩ = W.frozen? ⟨b, o, none⟩) → G) : G :=
  k (bk hb b h).1 (bk hb b h).2
set_option maxHeartbeats 800000 in
theorem ckEncode (s : List UInt8) (hs : s.length ≤ 1000000) (w : World) (hL : Laid w) : Calls Tryd.prog 12 #[.string (S s)] w fun e w' => e = .returned (.string (S (encL s))) ∧ Below w.heap.size w w' := by
  have hsI : (s.length : Int) ≤ 1000000 := by omega
  cases s with
  | nil =>
    rw [show encL [] = [] from rfl]
    go_enter Tryd.func12, Tryd.ntmps12
    go_wp2
    go_ret
    exact ⟨rfl, Below.refl _ _⟩
  | cons a r =>
    have HE := Lib.hid (show encL (a :: r) = hexL (a :: r).length ++ ([13, 10] ++ ((a :: r) ++ [13, 10])) by unfold encL; rw [if_neg (by simp)])
    obtain ⟨E, hE⟩ : ∃ E, encL (a :: r) = E := ⟨_, rfl⟩
    rw [hE] at HE ⊢
    have HX := Lib.hid (fmt16 (a :: r).length (by omega) w hL)
    have hxl := hexC_len (a :: r).length
    obtain ⟨x, hx⟩ : ∃ x, hexL (a :: r).length = x := ⟨_, rfl⟩
    rw [hx] at HX HE hxl
    have hem : (a :: r).isEmpty = false := rfl
    obtain ⟨q, hq⟩ : ∃ q, a :: r = q := ⟨_, rfl⟩
    rw [hq] at HX HE hsI hem hs ⊢
    have hw : IntKind.u64.wrap (q.length : Int) = (q.length : Int) := by rw [IntKind.wrap_u64]; omega
    have hxI : (x.length : Int) ≤ 16 := by omega
    clear hE hx hq hL
    go_enter Tryd.func12, Tryd.ntmps12
    go_wp2_with (first | (go_at_call 23; refine Calls.mono HX.out ?_; rintro e w1 ⟨rfl, hb1⟩; have HB1 := Lib.hid hb1; clear hb1) | fail)
    go_ret
    exact ⟨by rw [HE.out]; simp, HB1.out⟩
theorem ckEndText (w : World) : Calls Tryd.prog 13 #[] w fun e w' => e = .returned (.string (S endL)) ∧ w' = w := by
  unfold endL
  go_enter Tryd.func13, Tryd.ntmps13
  go_wp2
  go_ret
  exact ⟨rfl, rfl⟩
end Go.Proofs.YtngaofoedkankaaDoor
