/- A body in chunks, read on: the walk of chunk.Feed. -/
import Derived.Test.YtngaofoedkankaaDoorChunkRight
namespace Go.Proofs.YtngaofoedkankaaDoor
open Go.RowKit Go.Sort Go.Shelf
set_option linter.unusedVariables false
set_option linter.unusedSimpArgs false

theorem Holds.kept {W w' : World} {b g : Nat} {l : List UInt8} (h : Holds W b l) (hg : W.grownBy w' (some g)) (hlt : g < b) : Holds w' b l := by
  have key : ∀ p, Lib.BuilderAt 54 5 b b p (Lib.byteCells l) W → Lib.BuilderAt 54 5 b b p (Lib.byteCells l) w' := by
    rintro p ⟨h1, v, h2, h3, h4⟩
    refine ⟨h1, v, (hg.block b (Array.getElem?_eq_some_iff.1 h2).1 (fun e => by cases e; omega)).trans h2, World.ownsRow.kept h3 hg ?_, h4⟩
    cases hv : v.ownBlock with
    | none => exact .inl rfl
    | some k =>
      right
      intro e
      cases e
      have := (World.ownsRow.lt h3 g hv).1
      omega
  exact h.elim (fun x => .inl (key _ x)) (fun x => .inr (key _ x))
theorem Holds.drew {W : World} {b : Nat} {l : List UInt8} (h : Holds W b l) : Holds W.drew b l := h
theorem StAt.low {W w' : World} {b B : Nat} {c : Ck} (h : StAt W b c) (hb : Below B W w') (hB : b < B) : StAt w' b c := h.same (hb.block b hB) hb.size
/-- The answer of chunk.Feed. -/
def feedV : Nat ⊕ (Ck × List UInt8 × Nat) → Value
  | .inl e => .tuple #[ckV 0 [] 0 0, .string (S []), .int .i64 0, .int .i64 e]
  | .inr (c, d, n) => .tuple #[c.v, .string (S d), .int .i64 n, .int .i64 0]
theorem thenC_inl {d : List UInt8} {n e : Nat} : thenC d n (.inl e) = .inl e := rfl
theorem run_stop {c : Ck} {t : List UInt8} (h : c.st = 4 ∨ t = []) : runC c t = .inr (c, [], 0) := by
  rcases h with h | rfl
  · exact run_done h t
  · rfl

set_option maxHeartbeats 800000 in
set_option maxRecDepth 100000 in
theorem ckFeed_bad (st : Int) (ln : List UInt8) (lf sz : Int) (hln : ln.length ≤ 1000000) (t : List UInt8) (hr : rightV st ln lf sz = false) (w : World) :
    Calls Tryd.prog 10 #[ckV st ln lf sz, .string (S t)] w fun e w' => e = .returned (.tuple #[ckV 0 [] 0 0, .string (S []), .int .i64 0, .int .i64 1]) ∧ Below w.heap.size w w' := by
  have RC := Lib.hid (fun W => ckRight st ln lf sz hln W)
  rw [hr] at RC
  unfold ckV at RC ⊢
  clear hr
  go_enter Tryd.func10, Tryd.ntmps10
  go_wp2_with fail
  refine Calls.mono (RC.out _) ?_
  rintro e w1 ⟨rfl, hb_w1⟩
  have hz_w1 := hb_w1.size
  try simp at hz_w1
  obtain ⟨c_w1_w_0, f_w1_w_0⟩ := bk hb_w1 (w.heap.size) (by first | omega | (simp <;> omega))
  have c_w1_w_0_0 := c_w1_w_0 0
  conv at c_w1_w_0_0 => rhs; simp [go_sem, *]
  have f_w1_w_0_0 := f_w1_w_0 0
  conv at f_w1_w_0_0 => rhs; simp [go_sem, *]
  have c_w1_w_0_1 := c_w1_w_0 1
  conv at c_w1_w_0_1 => rhs; simp [go_sem, *]
  have f_w1_w_0_1 := f_w1_w_0 1
  conv at f_w1_w_0_1 => rhs; simp [go_sem, *]
  have c_w1_w_0_2 := c_w1_w_0 2
  conv at c_w1_w_0_2 => rhs; simp [go_sem, *]
  have f_w1_w_0_2 := f_w1_w_0 2
  conv at f_w1_w_0_2 => rhs; simp [go_sem, *]
  have c_w1_w_0_3 := c_w1_w_0 3
  conv at c_w1_w_0_3 => rhs; simp [go_sem, *]
  have f_w1_w_0_3 := f_w1_w_0 3
  conv at f_w1_w_0_3 => rhs; simp [go_sem, *]
  obtain ⟨c_w1_w_1, f_w1_w_1⟩ := bk hb_w1 (w.heap.size + 1) (by first | omega | (simp <;> omega))
  have c_w1_w_1_0 := c_w1_w_1 0
  conv at c_w1_w_1_0 => rhs; simp [go_sem, *]
  have f_w1_w_1_0 := f_w1_w_1 0
  conv at f_w1_w_1_0 => rhs; simp [go_sem, *]
  have c_w1_w_1_1 := c_w1_w_1 1
  conv at c_w1_w_1_1 => rhs; simp [go_sem, *]
  have f_w1_w_1_1 := f_w1_w_1 1
  conv at f_w1_w_1_1 => rhs; simp [go_sem, *]
  have c_w1_w_1_2 := c_w1_w_1 2
  conv at c_w1_w_1_2 => rhs; simp [go_sem, *]
  have f_w1_w_1_2 := f_w1_w_1 2
  conv at f_w1_w_1_2 => rhs; simp [go_sem, *]
  have c_w1_w_1_3 := c_w1_w_1 3
  conv at c_w1_w_1_3 => rhs; simp [go_sem, *]
  have f_w1_w_1_3 := f_w1_w_1 3
  conv at f_w1_w_1_3 => rhs; simp [go_sem, *]
  have HH_w1 := Lib.hid hb_w1
  have hB_w1 : Below w.heap.size w w1 := Below.trans (by (repeat (first | (with_reducible exact Below.refl _ _) | (with_reducible assumption) | (with_reducible refine Below.drew ?_) | (focus ((with_reducible refine Below.setCell ?_ ?_ _); rotate_left; (first | omega | (simp <;> omega)))) | (focus ((with_reducible refine Below.alloc ?_ ?_ _); rotate_left; (first | omega | (simp <;> omega)))) | exact Below.refl _ _ | assumption | refine Below.drew ?_ | refine Below.alloc ?_ (by first | omega | (simp <;> omega)) _ | refine Below.setCell ?_ (by first | omega | (simp <;> omega)) _))) (hb_w1.mono (by first | omega | (simp <;> omega)))
  clear hb_w1 c_w1_w_0 f_w1_w_0 c_w1_w_1 f_w1_w_1
  have far_w1_w_0 := far (show w.heap.size < w1.heap.size by omega)
  have far_w1_w_1 := far (show w.heap.size + 1 < w1.heap.size by omega)
  go_wp2
  exact bodyPost_ret (v := .tuple #[.agg #[.int .i64 0, .string ⟨#[]⟩, .int .i64 0, .int .i64 0], .string ⟨#[]⟩, .int .i64 0, .int .i64 1]) (by simp [results, Tryd.results10, go_sem, *]) rfl ⟨rfl, by (repeat (first | (with_reducible exact Below.refl _ _) | (with_reducible assumption) | (with_reducible refine Below.drew ?_) | (focus ((with_reducible refine Below.setCell ?_ ?_ _); rotate_left; (first | omega | (simp <;> omega)))) | (focus ((with_reducible refine Below.alloc ?_ ?_ _); rotate_left; (first | omega | (simp <;> omega)))) | exact Below.refl _ _ | assumption | refine Below.drew ?_ | refine Below.alloc ?_ (by first | omega | (simp <;> omega)) _ | refine Below.setCell ?_ (by first | omega | (simp <;> omega)) _))⟩

set_option maxHeartbeats 6400000 in
set_option maxRecDepth 100000 in
theorem ckFeed_ok (c0 : Ck) (hc0 : c0.Ok) (t : List UInt8) (ht : t.length ≤ 100000) (w : World) :
    Calls Tryd.prog 10 #[c0.v, .string (S t)] w fun e w' => e = .returned (feedV (runC c0 t)) ∧ Below w.heap.size w w' := by
  have RC := Lib.hid (fun W => ckRight c0.st c0.ln c0.lf c0.sz (by have := hc0.ln; omega) W)
  rw [right_ok hc0] at RC
  unfold Ck.v ckV at *
  have HC0 := Lib.hid hc0
  have htI : (t.length : Int) ≤ 100000 := by omega
  have LI := Lib.hid (fun b c q W (h : StAt W b c) (hc : c.Ok) (h1 : c.st ≠ 1) (h4 : c.st ≠ 4) (hq : q.length ≤ 100000) => ckLine b c q W h hc h1 h4 hq)
  have WS := Lib.hid (fun (W : World) (b : Nat) (l q : List UInt8) (h : Holds W b l) (hlen : l.length + q.length ≤ 1000000) => writeString_c (t := q) W h hlen q.length rfl)
  have ST := Lib.hid (fun (W : World) (b : Nat) (l : List UInt8) (h : Holds W b l) => builderString_c W h)
  obtain ⟨R, hR⟩ : ∃ R, runC c0 t = R := ⟨_, rfl⟩
  rw [hR]
  have HRR := Lib.hid hR
  clear hR hc0
  go_enter Tryd.func10, Tryd.ntmps10
  go_wp2_with fail
  refine Calls.mono (RC.out _) ?_
  rintro e w1 ⟨rfl, hb_w1⟩
  have hz_w1 := hb_w1.size
  try simp at hz_w1
  obtain ⟨c_w1_w_0, f_w1_w_0⟩ := bk hb_w1 (w.heap.size) (by first | omega | (simp <;> omega))
  have c_w1_w_0_0 := c_w1_w_0 0
  conv at c_w1_w_0_0 => rhs; simp [go_sem, *]
  have f_w1_w_0_0 := f_w1_w_0 0
  conv at f_w1_w_0_0 => rhs; simp [go_sem, *]
  have c_w1_w_0_1 := c_w1_w_0 1
  conv at c_w1_w_0_1 => rhs; simp [go_sem, *]
  have f_w1_w_0_1 := f_w1_w_0 1
  conv at f_w1_w_0_1 => rhs; simp [go_sem, *]
  have c_w1_w_0_2 := c_w1_w_0 2
  conv at c_w1_w_0_2 => rhs; simp [go_sem, *]
  have f_w1_w_0_2 := f_w1_w_0 2
  conv at f_w1_w_0_2 => rhs; simp [go_sem, *]
  have c_w1_w_0_3 := c_w1_w_0 3
  conv at c_w1_w_0_3 => rhs; simp [go_sem, *]
  have f_w1_w_0_3 := f_w1_w_0 3
  conv at f_w1_w_0_3 => rhs; simp [go_sem, *]
  obtain ⟨c_w1_w_1, f_w1_w_1⟩ := bk hb_w1 (w.heap.size + 1) (by first | omega | (simp <;> omega))
  have c_w1_w_1_0 := c_w1_w_1 0
  conv at c_w1_w_1_0 => rhs; simp [go_sem, *]
  have f_w1_w_1_0 := f_w1_w_1 0
  conv at f_w1_w_1_0 => rhs; simp [go_sem, *]
  have c_w1_w_1_1 := c_w1_w_1 1
  conv at c_w1_w_1_1 => rhs; simp [go_sem, *]
  have f_w1_w_1_1 := f_w1_w_1 1
  conv at f_w1_w_1_1 => rhs; simp [go_sem, *]
  have c_w1_w_1_2 := c_w1_w_1 2
  conv at c_w1_w_1_2 => rhs; simp [go_sem, *]
  have f_w1_w_1_2 := f_w1_w_1 2
  conv at f_w1_w_1_2 => rhs; simp [go_sem, *]
  have c_w1_w_1_3 := c_w1_w_1 3
  conv at c_w1_w_1_3 => rhs; simp [go_sem, *]
  have f_w1_w_1_3 := f_w1_w_1 3
  conv at f_w1_w_1_3 => rhs; simp [go_sem, *]
  have HH_w1 := Lib.hid hb_w1
  have hB_w1 : Below w.heap.size w w1 := Below.trans (by (repeat (first | (with_reducible exact Below.refl _ _) | (with_reducible assumption) | (with_reducible refine Below.drew ?_) | (focus ((with_reducible refine Below.setCell ?_ ?_ _); rotate_left; (first | omega | (simp <;> omega)))) | (focus ((with_reducible refine Below.alloc ?_ ?_ _); rotate_left; (first | omega | (simp <;> omega)))) | exact Below.refl _ _ | assumption | refine Below.drew ?_ | refine Below.alloc ?_ (by first | omega | (simp <;> omega)) _ | refine Below.setCell ?_ (by first | omega | (simp <;> omega)) _))) (hb_w1.mono (by first | omega | (simp <;> omega)))
  clear hb_w1 c_w1_w_0 f_w1_w_0 c_w1_w_1 f_w1_w_1
  have far_w1_w_0 := far (show w.heap.size < w1.heap.size by omega)
  have far_w1_w_1 := far (show w.heap.size + 1 < w1.heap.size by omega)
  go_wp2_with fail
  have hz1 := hz_w1
  have HH1 := Lib.hid hB_w1
  have HF := Lib.hid (Holds.fresh (w1.alloc (.cells #[.int .i64 c0.st, .string (S c0.ln), .int .i64 c0.lf, .int .i64 c0.sz, .int .i64 0] 51)))
  have K0 := Lib.hid c_w1_w_1_0
  have K1 := Lib.hid c_w1_w_1_1
  have K2 := Lib.hid c_w1_w_1_2
  have K3 := Lib.hid c_w1_w_1_3
  have F0 := Lib.hid (fun o => (HH_w1.out.frozen (p := ⟨w.heap.size + 1, o, none⟩) (by simp)).trans (by simp [go_sem] : _ = false))
  clear c_w1_w_0_0 c_w1_w_0_1 c_w1_w_0_2 c_w1_w_0_3 f_w1_w_0_0 f_w1_w_0_1 f_w1_w_0_2 f_w1_w_0_3 far_w1_w_0 c_w1_w_1_0 c_w1_w_1_1 c_w1_w_1_2 c_w1_w_1_3 f_w1_w_1_0 f_w1_w_1_1 f_w1_w_1_2 f_w1_w_1_3 far_w1_w_1 hB_w1 hz_w1
  go_loopw [10] (fun av wr => ∃ (n : Nat) (c : Ck) (d : List UInt8), av = .int .i64 n ∧ n ≤ t.length ∧ StAt wr w1.heap.size c ∧ c.Ok ∧ Holds wr (w1.heap.size + 1) d ∧ d.length ≤ n ∧ R = thenC d n (runC c (t.drop n)) ∧ wr.heap[w.heap.size + 1]? = w1.heap[w.heap.size + 1]? ∧ Below w.heap.size w wr) (fun av _ => t.length - (intOf av).toNat)
  case atStart =>
    refine ⟨0, c0, [], rfl, Nat.zero_le _, ⟨by simp; omega, ?_, ?_, ?_, ?_, ?_, fun o => by simp [go_sem, *]⟩, HC0.out, by simpa using HF.out, Nat.le_refl _, ?_, ?_, ?_⟩
    · rw [World.cell?_alloc_old _ _ _ (by simp)]; simp [go_sem, *]
    · rw [World.cell?_alloc_old _ _ _ (by simp)]; simp [go_sem, *]
    · rw [World.cell?_alloc_old _ _ _ (by simp)]; simp [go_sem, *]
    · rw [World.cell?_alloc_old _ _ _ (by simp)]; simp [go_sem, *]
    · rw [World.cell?_alloc_old _ _ _ (by simp)]; simp [go_sem, *]
    · rw [List.drop_zero, thenC_nil]; exact HRR.out.symm
    · rw [Below.heap_alloc _ _ _ (by simp; omega), Below.heap_alloc _ _ _ (by omega)]
    · have := HH1.out; (repeat (first | (with_reducible exact Below.refl _ _) | (with_reducible assumption) | (with_reducible refine Below.drew ?_) | (focus ((with_reducible refine Below.setCell ?_ ?_ _); rotate_left; (first | omega | (simp <;> omega)))) | (focus ((with_reducible refine Below.alloc ?_ ?_ _); rotate_left; (first | omega | (simp <;> omega)))) | exact Below.refl _ _ | assumption | refine Below.drew ?_ | refine Below.alloc ?_ (by first | omega | (simp <;> omega)) _ | refine Below.setCell ?_ (by first | omega | (simp <;> omega)) _))
  case round =>
    obtain ⟨n, c, d, rfl, hn, hst, hck, hhold, hdl, hrun, hblk, hB⟩ := hrel
    have HST := Lib.hid hst
    have HCK := Lib.hid hck
    have HHD := Lib.hid hhold
    have HRN := Lib.hid hrun
    have HBK := Lib.hid hblk
    have HB := Lib.hid hB
    have hzr := hB.size
    have hgl := hst.lt
    have q0 := hst.c0
    have q1 := hst.c1
    have q2 := hst.c2
    have q3 := hst.c3
    have q4 := hst.c4
    have qf := hst.fz
    have hfg := far hgl
    have r0 := (World.cell?_of_block (a := ⟨w.heap.size + 1, 0, none⟩) hblk).trans K0.out
    have r1 := (World.cell?_of_block (a := ⟨w.heap.size + 1, 1, none⟩) hblk).trans K1.out
    have r2 := (World.cell?_of_block (a := ⟨w.heap.size + 1, 2, none⟩) hblk).trans K2.out
    have r3 := (World.cell?_of_block (a := ⟨w.heap.size + 1, 3, none⟩) hblk).trans K3.out
    have rf := fun o => (World.frozen?_of_block (a := ⟨w.heap.size + 1, o, none⟩) hblk).trans (F0.out o)
    clear hst hhold hrun hblk hB
    by_cases hend : n < t.length ∧ c.st ≠ 4
    · obtain ⟨hlt, h4⟩ := hend
      have h4b : ((c.st : Int) != 4) = true := by simpa using (by omega : ¬ (c.st : Int) = 4)
      have hltI : (n : Int) < (t.length : Int) := by omega
      by_cases h1 : c.st = 1
      · obtain ⟨d1, d2, d3⟩ := hck.data h1
        have h1b : ((c.st : Int) != 1) = false := by simpa using (by omega : (c.st : Int) = 1)
        have hsz := hck.sz
        obtain ⟨k, hk, hkm⟩ : ∃ k : Nat, min (c.lf : Int) ((t.length : Int) - (n : Int)) = k ∧ k = min c.lf (t.length - n) := ⟨min c.lf (t.length - n), by omega, rfl⟩
        have hk0 : 0 < k := by omega
        have hkl : n + k ≤ t.length := by omega
        have hkf : k ≤ c.lf := by omega
        obtain ⟨p, hp⟩ : ∃ p, (t.take (n + k)).drop n = p := ⟨_, rfl⟩
        have hpl : p.length = k := by rw [← hp]; simp; omega
        have hsp : t.drop n = p ++ t.drop (n + k) := by
          rw [← hp]
          conv => lhs; rw [← List.take_append_drop (n + k) t]
          rw [List.drop_append_of_le_length (by simp; omega)]
        have hpI : (p.length : Int) = (k : Int) := by omega
        have HSP := Lib.hid hsp
        have W5 := Lib.hid (WS.out _ _ _ p HHD.out (by omega))
        rw [hpI] at W5
        have hnI : (n : Int) + (k : Int) ≤ 100000 := by omega
        have hkI : (k : Int) ≤ (c.lf : Int) := by omega
        have hlfI : (c.lf : Int) ≤ 20000 := by omega
        have hszI : (c.sz : Int) ≤ 20000 := by omega
        by_cases hall : k = c.lf
        · have hz0 : c.lf - k = 0 := by omega
          have HO := Lib.hid (show ({ c with st := 2, lf := 0, sz := c.sz + k } : Ck).Ok from ⟨by simp, by show c.sz + k ≤ 20000; omega, hck.ln, hck.no, (fun e => by simp at e), (fun _ => rfl), (fun e => by simp at e)⟩)
          have HR2 := Lib.hid (show R = thenC (d ++ p) (n + k) (runC { c with st := 2, lf := 0, sz := c.sz + k } (t.drop (n + k))) by
            rw [HRN.out, HSP.out, run_data_all p c _ h1 (by omega) (by intro e; rw [e] at hpl; simp at hpl; omega), thenC_thenC, hpl])
          have hl0 : (c.lf : Int) - (k : Int) = 0 := by omega
          have HALL := Lib.hid hall
          clear hck hsp d1 d2 hkm hall hz0
          go_wp2_with (first
            | (go_at_call 21; refine Calls.mono W5.out ?_; rintro e w5 ⟨rfl, hh5, hb5⟩; have HH5 := Lib.hid hh5; have S5 := Lib.hid (HST.out.low hb5 (by omega)); have HB5 := Lib.hid hb5; have hz5 := hb5.size; have j0 := S5.out.c0; have j1 := S5.out.c1; have j2 := S5.out.c2; have j3 := S5.out.c3; have j4 := S5.out.c4; have jf := S5.out.fz; have hg5 := far S5.out.lt; clear hh5 hb5 q0 q1 q2 q3 q4 qf)
            | fail)
          have HG := Lib.hid (show w5.grownBy (((w5.setCell ⟨w1.heap.size, 3, none⟩ (.int .i64 ((c.sz : Int) + (k : Int)))).setCell ⟨w1.heap.size, 2, none⟩ (.int .i64 0)).setCell ⟨w1.heap.size, 0, none⟩ (.int .i64 2)) (some w1.heap.size) from gr_set (gr_set (gr_set (gr_refl _ _) _ _) _ _) _ _)
          go_roundw
          case rel =>
            refine ⟨n + k, { c with st := 2, lf := 0, sz := c.sz + k }, d ++ p, by go_num, hkl, ⟨by simpa using S5.out.lt, by simp [go_sem, *], by simp [go_sem, *], by simp [go_sem, *], by simp [go_sem, *], by simp [go_sem, *], fun o => by simp [go_sem, *]⟩, HO.out, HH5.out.kept HG.out (by omega), by rw [List.length_append]; omega, HR2.out, ?_, ?_⟩
            · rw [Below.heap_setCell _ _ _ _ (by simp; omega), Below.heap_setCell _ _ _ _ (by simp; omega), Below.heap_setCell _ _ _ _ (by simp; omega)]
              exact (HB5.out.block _ (by omega)).trans HBK.out
            · exact HB.out.trans ((HB5.out.mono (by omega)).trans (gr_to HG.out (by omega) (by omega)))
          case measure => simp [intOf]; omega
        · have HO := Lib.hid (show ({ c with lf := c.lf - k, sz := c.sz + k } : Ck).Ok from ⟨hck.st, by show c.sz + k ≤ 20000; omega, hck.ln, hck.no, (fun _ => ⟨by show 1 ≤ c.lf - k; omega, by show c.lf - k + (c.sz + k) ≤ 20000; omega, d3⟩), (fun e => absurd h1 e), (fun e => absurd e h4)⟩)
          have HR2 := Lib.hid (show R = thenC (d ++ p) (n + k) (runC { c with lf := c.lf - k, sz := c.sz + k } (t.drop (n + k))) by
            rw [HRN.out, HSP.out, run_data p c _ h1 (by omega), thenC_thenC, hpl])
          have hl0 : ((c.lf : Int) - (k : Int) == 0) = false := by simp; omega
          have HLK := Lib.hid (show ((c.lf - k : Nat) : Int) = (c.lf : Int) - (k : Int) by omega)
          have HALL := Lib.hid hall
          clear hck hsp d1 d2 hkm hall
          go_wp2_with (first
            | (go_at_call 21; refine Calls.mono W5.out ?_; rintro e w5 ⟨rfl, hh5, hb5⟩; have HH5 := Lib.hid hh5; have S5 := Lib.hid (HST.out.low hb5 (by omega)); have HB5 := Lib.hid hb5; have hz5 := hb5.size; have j0 := S5.out.c0; have j1 := S5.out.c1; have j2 := S5.out.c2; have j3 := S5.out.c3; have j4 := S5.out.c4; have jf := S5.out.fz; have hg5 := far S5.out.lt; clear hh5 hb5 q0 q1 q2 q3 q4 qf)
            | fail)
          have HG := Lib.hid (show w5.grownBy ((w5.setCell ⟨w1.heap.size, 3, none⟩ (.int .i64 ((c.sz : Int) + (k : Int)))).setCell ⟨w1.heap.size, 2, none⟩ (.int .i64 ((c.lf : Int) - (k : Int)))) (some w1.heap.size) from gr_set (gr_set (gr_refl _ _) _ _) _ _)
          go_roundw
          case rel =>
            refine ⟨n + k, { c with lf := c.lf - k, sz := c.sz + k }, d ++ p, by go_num, hkl, ⟨by simpa using S5.out.lt, by simp [go_sem, *], by simp [go_sem, *], ?_, by simp [go_sem, *], by simp [go_sem, *], fun o => by simp [go_sem, *]⟩, HO.out, HH5.out.kept HG.out (by omega), by rw [List.length_append]; omega, HR2.out, ?_, ?_⟩
            · simp only [HLK.out]; simp [go_sem, *]
            · rw [Below.heap_setCell _ _ _ _ (by simp; omega), Below.heap_setCell _ _ _ _ (by simp; omega)]
              exact (HB5.out.block _ (by omega)).trans HBK.out
            · exact HB.out.trans ((HB5.out.mono (by omega)).trans (gr_to HG.out (by omega) (by omega)))
          case measure => simp [intOf]; omega
      · have h1b : ((c.st : Int) != 1) = true := by simpa using (by omega : ¬ (c.st : Int) = 1)
        have hrl := lineR_run hck h1 h4 (t.drop n)
        have hne : t.drop n ≠ [] := by intro e; have := congrArg List.length e; simp at this; omega
        have LQ := LI.out _ c (t.drop n) wr HST.out hck h1 h4 (by simp; omega)
        cases hl : lineR c (t.drop n) with
        | inl er =>
          rw [hl] at hrl LQ
          have HR2 := Lib.hid (show R = .inl er by rw [HRN.out, hrl]; rfl)
          have LQ := Lib.hid LQ
          clear hrl hl hne hck
          go_wp2_with (first
            | (go_at_call 20; refine Calls.mono LQ.out ?_; rintro e w5 ⟨⟨⟨k, rfl, hk⟩, ⟨he0, he1⟩, j4, jlt, jf⟩, hg5⟩; have HG5 := Lib.hid hg5; have hz5 := hg5.size; have hbb := hg5.block (w.heap.size + 1) (by omega) (by simp; omega); have s0 := (World.cell?_of_block (a := ⟨w.heap.size + 1, 0, none⟩) hbb).trans r0; have s1 := (World.cell?_of_block (a := ⟨w.heap.size + 1, 1, none⟩) hbb).trans r1; have s2 := (World.cell?_of_block (a := ⟨w.heap.size + 1, 2, none⟩) hbb).trans r2; have s3 := (World.cell?_of_block (a := ⟨w.heap.size + 1, 3, none⟩) hbb).trans r3; have sf := fun o => (World.frozen?_of_block (a := ⟨w.heap.size + 1, o, none⟩) hbb).trans (rf o); have hkI : (k : Int) ≤ 1000000 := (by omega); have heb : ((er : Int) != 0) = true := (by simpa using he0); have hg5f := far jlt; clear hg5 hbb q0 q1 q2 q3 q4 qf r0 r1 r2 r3 rf)
            | fail)
          go_region
          go_wp2
          exact bodyPost_ret (v := .tuple #[.agg #[.int .i64 0, .string (S []), .int .i64 0, .int .i64 0], .string (S []), .int .i64 0, .int .i64 er]) (by simp [results, Tryd.results10, go_sem, *]) rfl ⟨by rw [HR2.out]; rfl, HB.out.trans ((gr_to HG5.out (by omega) (by omega)).trans (by (repeat (first | (with_reducible exact Below.refl _ _) | (with_reducible assumption) | (with_reducible refine Below.drew ?_) | (focus ((with_reducible refine Below.setCell ?_ ?_ _); rotate_left; (first | omega | (simp <;> omega)))) | (focus ((with_reducible refine Below.alloc ?_ ?_ _); rotate_left; (first | omega | (simp <;> omega)))) | exact Below.refl _ _ | assumption | refine Below.drew ?_ | refine Below.alloc ?_ (by first | omega | (simp <;> omega)) _ | refine Below.setCell ?_ (by first | omega | (simp <;> omega)) _))))⟩
        | inr x =>
          obtain ⟨c', m⟩ := x
          rw [hl] at hrl LQ
          obtain ⟨hm0, hml⟩ := lineR_pos hne hl
          have hck' := lineR_ok hck h1 h4 hl
          simp only [List.length_drop] at hml
          have HCK' := Lib.hid hck'
          have HR2 := Lib.hid (show R = thenC d (n + m) (runC c' (t.drop (n + m))) by
            rw [HRN.out, hrl]
            simp only
            rw [thenC_thenC, List.append_nil, List.drop_drop])
          have LQ := Lib.hid LQ
          have hnm : (n : Int) + (m : Int) ≤ 100000 := by omega
          clear hrl hl hne hck hck'
          go_wp2_with (first
            | (go_at_call 20; refine Calls.mono LQ.out ?_; rintro e w5 ⟨⟨rfl, hs5⟩, hg5⟩; have HG5 := Lib.hid hg5; have HS5 := Lib.hid hs5; have hz5 := hg5.size; have hbb := Lib.hid (hg5.block (w.heap.size + 1) (by omega) (by simp; omega)); have j4 := hs5.c4; have jf := hs5.fz; clear hg5 hs5 q0 q1 q2 q3 q4 qf)
            | fail)
          go_roundw
          case rel =>
            refine ⟨n + m, c', d, by go_num, by omega, HS5.out, HCK'.out, HHD.out.kept HG5.out (by omega), by omega, HR2.out, hbb.out.trans HBK.out, HB.out.trans (gr_to HG5.out (by omega) (by omega))⟩
          case measure => simp [intOf]; omega
    · have HR2 := Lib.hid (show R = .inr (c, d, n) by
        rw [HRN.out, run_stop (by
          by_cases h4 : c.st = 4
          · exact .inl h4
          · right; rw [List.drop_eq_nil_iff]; have := fun h => hend ⟨h, h4⟩; omega)]
        simp [thenC])
      have hcase : ((n : Int) < (t.length : Int)) = False ∨ (((n : Int) < (t.length : Int)) = True ∧ ((c.st : Int) != 4) = false) := by
        by_cases hlt : n < t.length
        · right
          refine ⟨eq_true (by omega), ?_⟩
          have : c.st = 4 := by
            by_cases h4 : c.st = 4
            · exact h4
            · exact absurd ⟨hlt, h4⟩ hend
          simpa using (by omega : (c.st : Int) = 4)
        · exact .inl (eq_false (by omega))
      clear hend hck
      rcases hcase with hcs | ⟨hcs, h4b⟩
      all_goals
        have STB := Lib.hid (ST.out wr.drew _ d HHD.out.drew)
        go_wp2_with fail
        go_region_with (go_at_call 22; refine Calls.mono STB.out ?_; rintro e w5 ⟨rfl, hb5'⟩; have hb5 := (Below.refl (w1.heap.size + 1) wr).drew.trans hb5'; clear hb5'; have S5 := Lib.hid (HST.out.low hb5 (by omega)); have HB5 := Lib.hid hb5; have hz5 := hb5.size; have j0 := S5.out.c0; have j1 := S5.out.c1; have j2 := S5.out.c2; have j3 := S5.out.c3; have j4 := S5.out.c4; have jf := S5.out.fz; have hg5 := far S5.out.lt; have hbb := hb5.block (w.heap.size + 1) (by omega); have s0 := (World.cell?_of_block (a := ⟨w.heap.size + 1, 0, none⟩) hbb).trans r0; have s1 := (World.cell?_of_block (a := ⟨w.heap.size + 1, 1, none⟩) hbb).trans r1; have s2 := (World.cell?_of_block (a := ⟨w.heap.size + 1, 2, none⟩) hbb).trans r2; have s3 := (World.cell?_of_block (a := ⟨w.heap.size + 1, 3, none⟩) hbb).trans r3; have sf := fun o => (World.frozen?_of_block (a := ⟨w.heap.size + 1, o, none⟩) hbb).trans (rf o); clear hb5 hbb)
        all_goals
          go_wp2
          exact bodyPost_ret (v := .tuple #[.agg #[.int .i64 c.st, .string (S c.ln), .int .i64 c.lf, .int .i64 c.sz], .string (S d), .int .i64 n, .int .i64 0]) (by simp [results, Tryd.results10, go_sem, *]) rfl ⟨by rw [HR2.out]; rfl, HB.out.trans ((HB5.out.mono (by omega)).trans (by (repeat (first | (with_reducible exact Below.refl _ _) | (with_reducible assumption) | (with_reducible refine Below.drew ?_) | (focus ((with_reducible refine Below.setCell ?_ ?_ _); rotate_left; (first | omega | (simp <;> omega)))) | (focus ((with_reducible refine Below.alloc ?_ ?_ _); rotate_left; (first | omega | (simp <;> omega)))) | exact Below.refl _ _ | assumption | refine Below.drew ?_ | refine Below.alloc ?_ (by first | omega | (simp <;> omega)) _ | refine Below.setCell ?_ (by first | omega | (simp <;> omega)) _))))⟩
end Go.Proofs.YtngaofoedkankaaDoor
