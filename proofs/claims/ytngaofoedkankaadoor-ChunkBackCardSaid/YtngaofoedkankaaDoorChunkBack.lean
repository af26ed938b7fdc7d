/- The law ChunkBack: its walk. -/
import Derived.Test.YtngaofoedkankaaDoorChunkLaw
import Derived.Test.YtngaofoedkankaaDoorTableReads
import Derived.Test.YtngaofoedkankaaDoorFrame
namespace Go.Proofs.YtngaofoedkankaaDoor
open Go.RowKit Go.Sort Go.Shelf
set_option linter.unusedVariables false
set_option linter.unusedSimpArgs false

/-- A row of texts that came in. -/
theorem reads_in {w : World} {v : Value} {L : List (List Value)} (hv : RowsIn w 1 v L ∧ ∀ c ∈ L, AllSh [.str] c) : ∃ xs, Reads w v xs ∧ ∀ x ∈ xs, x.length ≤ 9223372036854775807 := by
  obtain ⟨hrow, hsh⟩ := hv
  obtain ⟨xs, rfl, hxs⟩ := decode (fun x : List UInt8 => [Value.string (S x)]) (R := fun x => x.length ≤ 9223372036854775807) (fun c h => by
    obtain ⟨_, _, rfl, ⟨s, rfl, hs⟩, rfl⟩ := h
    obtain ⟨l, rfl⟩ := S_of s
    exact ⟨l, rfl, by rw [S_size] at hs; exact hs⟩) L hsh
  obtain ⟨a, len, cap, rfl, hl, hm, hlen, _, hcell⟩ := hrow
  rw [List.length_map] at hlen
  subst hlen
  refine ⟨xs, ⟨a, cap, rfl, hl, hm, fun h0 => ?_⟩, hxs⟩
  obtain ⟨b, off, e1, e2, e3⟩ := hcell h0 (by omega)
  refine ⟨b, off, e1, e2, fun j hj => ?_⟩
  have := e3 j 0 hj (by omega)
  rw [Nat.mul_one, Nat.add_zero] at this
  rw [this]
  simp [List.getD, hj]
theorem flat_len (K : Nat) (f : List UInt8 → List UInt8) (L : List (List UInt8)) (h : ∀ x ∈ L, (f x).length ≤ K) : (L.flatMap f).length ≤ K * L.length := by
  induction L with
  | nil => simp
  | cons x L ih =>
    rw [List.flatMap_cons, List.length_append, List.length_cons, Nat.mul_add]
    have := h x (by simp)
    have := ih (fun y hy => h y (by simp [hy]))
    omega
theorem flat_next (f : List UInt8 → List UInt8) (L : List (List UInt8)) (k : Nat) (h : k < L.length) : (L.take (k + 1)).flatMap f = (L.take k).flatMap f ++ f L[k] := by
  rw [List.take_succ_eq_append_getElem h, List.flatMap_append]; simp

set_option maxHeartbeats 1600000 in
set_option maxRecDepth 100000 in
theorem chunkBack_any (v : Value) (L : List (List Value)) (b : ByteArray) (w : World) (hv : RowsIn w 1 v L ∧ ∀ c ∈ L, AllSh [.str] c) (h1 : b.size ≤ maxLen) (hL : Laid w) :
    Calls Tryd.prog 5 #[v, .string b] w fun e w' => e = .returned (.bool true) ∧ Below w.heap.size w w' := by
  obtain ⟨xs, ⟨ao, cap, rfl, hc1, hc2, hr⟩, hxl⟩ := reads_in hv
  obtain ⟨l0, rfl⟩ := S_of b
  have hm : maxLen = 9223372036854775807 := rfl
  rw [S_size, hm] at h1
  rw [hm] at hc2
  obtain ⟨p, hp, hp1, hp2⟩ : ∃ k : Nat, min (l0.length : Int) 300 = k ∧ k ≤ l0.length ∧ k ≤ 300 := ⟨min l0.length 300, by omega, by omega, by omega⟩
  obtain ⟨s, hs⟩ : ∃ s, l0.take p = s := ⟨_, rfl⟩
  have hsl : s.length ≤ 300 := by rw [← hs, List.length_take]; omega
  have hs2 : (l0.take p).drop 0 = s := hs
  obtain ⟨n, hn, hn20, hnl⟩ : ∃ n : Nat, min (xs.length : Int) 20 = n ∧ n ≤ 20 ∧ n ≤ xs.length := ⟨min xs.length 20, by omega, by omega, by omega⟩
  obtain ⟨M, hM⟩ : ∃ M, (xs.take n).map (fun x => x.take 400) = M := ⟨_, rfl⟩
  have hMl : M.length = n := by rw [← hM]; simp; omega
  have hMe : ∀ x ∈ M, x.length ≤ 400 := fun x hx => by
    rw [← hM] at hx
    obtain ⟨y, _, rfl⟩ := List.mem_map.1 hx
    simp; omega
  have hMat : ∀ k (h : k < M.length), M[k] = (xs[k]'(by omega)).take 400 := fun k h => by subst hM; simp
  have EN := Lib.hid (fun (z : List UInt8) (hz : z.length ≤ 400) W (hb : Below w.heap.size w W) => ckEncode z (by omega) W (hL.on hb))
  have ET := Lib.hid (fun W => ckEndText W)
  have AL := Lib.hid (fun W => ck_alive W)
  have fe : ∀ k, ((M.take k).flatMap encL).length ≤ 420 * 20 := fun k => by
    have := flat_len 420 encL (M.take k) (fun x hx => by have := enc_le x; have := hMe x (List.mem_of_mem_take hx); omega)
    have h2 : (M.take k).length ≤ 20 := by rw [List.length_take]; omega
    have := Nat.mul_le_mul_left 420 h2
    omega
  have fi : ∀ k, ((M.take k).flatMap id).length ≤ 400 * 20 := fun k => by
    have := flat_len 400 id (M.take k) (fun x hx => hMe x (List.mem_of_mem_take hx))
    have h2 : (M.take k).length ≤ 20 := by rw [List.length_take]; omega
    have := Nat.mul_le_mul_left 400 h2
    omega
  have fe2 := fe n
  have fi2 := fi n
  rw [← hMl, List.take_length] at fe2 fi2
  have FD := Lib.hid (fun (t : List UInt8) (h : t = M.flatMap encL ++ (endL ++ s)) W => (show Calls Tryd.prog 10 #[.agg #[.int .i64 0, .string (S []), .int .i64 0, .int .i64 0], .string (S t)] W (fun e w' => e = .returned (.tuple #[.agg #[.int .i64 4, .string (S []), .int .i64 0, .int .i64 (M.flatMap id).length], .string (S (M.flatMap id)), .int .i64 ((M.flatMap encL).length + 5 : Nat), .int .i64 0]) ∧ Below W.heap.size W w') from by
    have hl : t.length ≤ 100000 := by rw [h]; simp only [List.length_append]; have : endL.length = 5 := rfl; omega
    have := feed0 t hl W
    rw [h, run_chunks M 0 _ (by omega), run_end, Nat.zero_add] at this
    rw [h]
    simpa [thenC, feedV_done] using this))
  have HMA := Lib.hid hMat
  have HME := Lib.hid hMe
  have FE := Lib.hid fe
  have FI := Lib.hid fi
  have HR := Lib.hid hr
  have HXL := Lib.hid hxl
  have NE := Lib.hid (fun k (h : k < M.length) => flat_next encL M k h)
  have NI := Lib.hid (fun k (h : k < M.length) => flat_next id M k h)
  clear hv hL hs hM hMe hMat fe fi hr hxl hm
  go_enter Tryd.func5, Tryd.ntmps5
  go_wp2_with fail
  go_region
  go_wp2_with fail
  simp only [mk_S]
  go_loopw [5, 6, 26] (fun av bv iv wr => ∃ k : Nat, iv = .int .i64 k ∧ k ≤ n ∧ av = .string (S ((M.take k).flatMap encL)) ∧ bv = .string (S ((M.take k).flatMap id)) ∧ Below w.heap.size w wr) (fun _ _ iv _ => n - (intOf iv).toNat)
  case atStart => exact ⟨0, rfl, Nat.zero_le _, by simp, by simp, by (repeat (first | (with_reducible exact Below.refl _ _) | (with_reducible assumption) | (with_reducible refine Below.drew ?_) | (focus ((with_reducible refine Below.setCell ?_ ?_ _); rotate_left; (first | omega | (simp <;> omega)))) | (focus ((with_reducible refine Below.alloc ?_ ?_ _); rotate_left; (first | omega | (simp <;> omega)))) | exact Below.refl _ _ | assumption | refine Below.drew ?_ | refine Below.alloc ?_ (by first | omega | (simp <;> omega)) _ | refine Below.setCell ?_ (by first | omega | (simp <;> omega)) _))⟩
  case round =>
    obtain ⟨k, rfl, hk, rfl, rfl, hB⟩ := hrel
    have hz := hB.size
    have HB := Lib.hid hB
    have f1 := FE.out k
    have f2 := FI.out k
    by_cases hkn : k < n
    · obtain ⟨g, off, rfl, hg, hcl⟩ := HR.out (by omega)
      have e1 := hcl k (by omega)
      rw [← hB.cell (p := ⟨g, off + k, none⟩) hg] at e1
      have hx63 := HXL.out _ (List.getElem_mem (show k < xs.length by omega))
      have hma := HMA.out k (by omega)
      have hme := HME.out _ (List.getElem_mem (show k < M.length by omega))
      have n1 := NE.out k (by omega)
      have n2 := NI.out k (by omega)
      rw [hma] at hme n1 n2
      obtain ⟨x, hx⟩ : ∃ x, xs[k]'(by omega) = x := ⟨_, rfl⟩
      rw [hx] at e1 hx63 hme n1 n2
      obtain ⟨q, hq, hq1, hq2⟩ : ∃ q : Nat, min (x.length : Int) 400 = q ∧ q ≤ x.length ∧ x.take q = x.take 400 := ⟨min x.length 400, by omega, by omega, by rw [Nat.min_comm, ← List.take_take, List.take_length]⟩
      have hqI : (q : Int) ≤ (x.length : Int) := by omega
      obtain ⟨y, hy⟩ : ∃ y, x.take 400 = y := ⟨_, rfl⟩
      rw [hy] at hme n1 n2 hq2
      have hy2 : (x.take q).drop 0 = y := hq2
      have EC := Lib.hid (EN.out y hme wr HB.out)
      have hel := enc_le y
      obtain ⟨ey, hey⟩ : ∃ z, encL y = z := ⟨_, rfl⟩
      rw [hey] at EC n1 hel
      rw [show id y = y from rfl] at n2
      obtain ⟨A, hA⟩ : ∃ A, (M.take k).flatMap encL = A := ⟨_, rfl⟩
      obtain ⟨I, hI⟩ : ∃ A, (M.take k).flatMap id = A := ⟨_, rfl⟩
      rw [hA] at f1 n1 ⊢
      rw [hI] at f2 n2 ⊢
      have N1 := Lib.hid n1
      have N2 := Lib.hid n2
      have aI : (A.length : Int) ≤ 8400 := by omega
      have iI : (I.length : Int) ≤ 8000 := by omega
      have yI : (y.length : Int) ≤ 400 := by omega
      have eI : (ey.length : Int) ≤ 420 := by omega
      clear hcl hma n1 n2 hx hy hey hA hI hB
      go_wp2_with (first
        | (go_at_call 12; refine Calls.mono EC.out ?_; rintro e w5 ⟨rfl, hb5⟩; have HB5 := Lib.hid hb5; clear hb5)
        | fail)
      go_roundw
      case rel => exact ⟨k + 1, by go_num, by omega, by rw [N1.out], by rw [N2.out], HB.out.trans (HB5.out.mono hz)⟩
      case measure => simp [intOf]; omega
    · obtain rfl : k = n := by omega
      rw [← hMl, List.take_length] at f1 f2 ⊢
      rw [hMl]
      obtain ⟨A, hA⟩ : ∃ A, M.flatMap encL = A := ⟨_, rfl⟩
      obtain ⟨I, hI⟩ : ∃ A, M.flatMap id = A := ⟨_, rfl⟩
      rw [hA] at f1 FD ⊢
      rw [hI] at f2 FD ⊢
      unfold endL at ET FD
      have aI : (A.length : Int) ≤ 8400 := by omega
      have iI : (I.length : Int) ≤ 8000 := by omega
      have sI : (s.length : Int) ≤ 300 := by omega
      clear hA hI hB
      go_wp2_with (first
        | (go_at_call 13; refine Calls.mono (ET.out _) ?_; rintro e w' ⟨rfl, hw'⟩; obtain rfl := hw'.symm)
        | (go_at_call 10; (with_reducible refine Calls.mono (FD.out _ ?_ _) ?_); (focus (first | rfl | simp)); rintro e w2 ⟨rfl, hb2⟩; have HB2 := Lib.hid (HB.out.trans (hb2.mono hz)); have hz2 := hb2.size; clear hb2)
        | fail)
      go_wp2_with fail
      refine Calls.mono (AL.out _) ?_
      rintro e w3 ⟨rfl, hb_w3⟩
      have hz_w3 := hb_w3.size
      try simp at hz_w3
      obtain ⟨c_w3_w2_0, f_w3_w2_0⟩ := bk hb_w3 (w2.heap.size) (by first | omega | (simp <;> omega))
      have c_w3_w2_0_0 := c_w3_w2_0 0
      conv at c_w3_w2_0_0 => rhs; simp [go_sem, *]
      have f_w3_w2_0_0 := f_w3_w2_0 0
      conv at f_w3_w2_0_0 => rhs; simp [go_sem, *]
      have c_w3_w2_0_1 := c_w3_w2_0 1
      conv at c_w3_w2_0_1 => rhs; simp [go_sem, *]
      have f_w3_w2_0_1 := f_w3_w2_0 1
      conv at f_w3_w2_0_1 => rhs; simp [go_sem, *]
      have c_w3_w2_0_2 := c_w3_w2_0 2
      conv at c_w3_w2_0_2 => rhs; simp [go_sem, *]
      have f_w3_w2_0_2 := f_w3_w2_0 2
      conv at f_w3_w2_0_2 => rhs; simp [go_sem, *]
      have c_w3_w2_0_3 := c_w3_w2_0 3
      conv at c_w3_w2_0_3 => rhs; simp [go_sem, *]
      have f_w3_w2_0_3 := f_w3_w2_0 3
      conv at f_w3_w2_0_3 => rhs; simp [go_sem, *]
      have HH_w3 := Lib.hid hb_w3
      have hB_w3 : Below w2.heap.size w2 w3 := Below.trans (by (repeat (first | (with_reducible exact Below.refl _ _) | (with_reducible assumption) | (with_reducible refine Below.drew ?_) | (focus ((with_reducible refine Below.setCell ?_ ?_ _); rotate_left; (first | omega | (simp <;> omega)))) | (focus ((with_reducible refine Below.alloc ?_ ?_ _); rotate_left; (first | omega | (simp <;> omega)))) | exact Below.refl _ _ | assumption | refine Below.drew ?_ | refine Below.alloc ?_ (by first | omega | (simp <;> omega)) _ | refine Below.setCell ?_ (by first | omega | (simp <;> omega)) _))) (hb_w3.mono (by first | omega | (simp <;> omega)))
      clear hb_w3 c_w3_w2_0 f_w3_w2_0
      have far_w3_w2_0 := far (show w2.heap.size < w3.heap.size by omega)
      go_wp2
      go_ret
      exact ⟨ret_bool (by simp), HB2.out.trans (hB_w3.mono HB2.out.size)⟩
end Go.Proofs.YtngaofoedkankaaDoor
