/- A region that draws its order: first operations that only read and call (in whatever order), then a chain of writes. The worlds met on the way grow. The laws' own functions: few, short, alive. -/
import Derived.Test.YtenflcaalckdfaaGreatDoorVz1
import Derived.StillTail
import Derived.Test.YtenflcaalckdfaaGreatDoorVz27
namespace Go.Proofs.YtenflcaalckdfaaGreatDoor
open Go.RowKit

section
variable {P : Program} {ops : Array Oper} {md : Region.Mode} {C : World → Prop}

/-- The heads, in whatever order, each quiet in the class; then L. -/
def anyHead (P : Program) (md : Region.Mode) (ops : Array Oper) (C : World → Prop) (n : Nat) (L : Array Bool → Act → Prop) : Nat → Array Bool → Act → Prop
  | 0, listed, a => L listed a
  | f + 1, listed, a => Region.ready md ops listed ≠ [] ∧ ∀ i ∈ Region.ready md ops listed, i < n ∧ qOp P ops C i (anyHead P md ops C n L f (listed.setIfInBounds i true)) a

theorem anyHead_wp {n g : Nat} {L : Array Bool → Act → Prop} {Q' : Exit → Act → World → Prop} (hL : ∀ listed a w, C w → L listed a → wpAny P md ops Q' g listed a w) (f : Nat) :
    ∀ (listed : Array Bool) (a : Act) (w : World), C w → anyHead P md ops C n L f listed a → wpAny P md ops Q' (f + g) listed a w := by
  induction f with
  | zero => intro listed a w hw h; rw [Nat.zero_add]; exact hL _ _ _ hw h
  | succ f ih =>
    intro listed a w hw h
    rw [Nat.add_right_comm]
    exact ⟨fun h0 => absurd h0 h.1, fun i hi => wpOp_of_qOp hw (fun a' w' hw' h' => ih _ a' w' hw' h') (h.2 i hi).2⟩

theorem anyHead_first {n i : Nat} {oi : Oper} {v : Value} {L : Array Bool → Act → Prop} (hi : ops[i]? = some oi) (hsel : Region.noSelect ops = true)
    (hs : Region.sinkB md ops n = true) (hc : Region.chainB md ops n = true) (hn : n < ops.size) (hin : i < n) (hdone : ∀ listed a, L listed a → ∀ j ∈ Region.ready md ops listed, n ≤ j) (f : Nat) :
    ∀ (listed : Array Bool) (a : Act), HeadInv md ops n listed →
      (∀ j oj, ops[j]? = some oj → j ≠ i → listed.getD j true = false → (∀ e ∈ oj.after, Region.binds md e = true → e.on ≠ i) → oi.apart ops oj = true) →
      i ∈ Region.ready md ops listed → YieldsIn P ops C oi v a →
      anyHead P md ops C n L f (listed.setIfInBounds i true) (a.put oi.dst v) → anyHead P md ops C n L (f + 1) listed a := by
  have sel := Region.noSelect_spec hsel
  induction f with
  | zero =>
    intro listed a inv _ hr hy H
    have hun := (mem_ready.1 hr).1
    refine ⟨fun h => (by rw [h] at hr; cases hr), fun j hj => ?_⟩
    have hjn : j < n := Nat.lt_of_not_le fun h => tail_waits hs hc hn inv _ i rfl hin hun j h hj
    refine ⟨hjn, ?_⟩
    by_cases hji : j = i
    · subst hji; exact hy.qOp hi H
    · have := hdone _ _ H j (ready_mono hj hji)
      omega
  | succ f ih =>
    intro listed a inv hfree hr hy H
    have hun := (mem_ready.1 hr).1
    refine ⟨fun h => (by rw [h] at hr; cases hr), fun j hj => ?_⟩
    have hjn : j < n := Nat.lt_of_not_le fun h => tail_waits hs hc hn inv _ i rfl hin hun j h hj
    refine ⟨hjn, ?_⟩
    by_cases hji : j = i
    · subst hji; exact hy.qOp hi H
    · have h1 := (H.2 j (ready_mono hj hji)).2
      obtain ⟨hjun, oj, hoj, hall⟩ := mem_ready.1 hj
      have hnot : ∀ e ∈ oj.after, Region.binds md e = true → e.on ≠ i := fun e he hb heq => by
        have h1 := hall e he hb
        rw [heq, getD_both hun] at h1
        cases h1
      have h2 := qOp_put hoj (hfree j oj hoj hji hjun hnot) (fun cs b => sel i oi cs b hi) (fun cs b => sel j oj cs b hoj) hy h1
      refine qOp_mono (fun a' h3 => ih (listed.setIfInBounds j true) a' (inv.set hj hjn) (fun k ok hk hki hu hno => hfree k ok hk hki ?_ hno) (ready_mono hr (Ne.symm hji)) h3.1 ?_) h2
      · by_cases hjk : j = k
        · subst hjk; exact hjun
        · rw [getD_set_ne true hjk] at hu; exact hu
      · rw [Array.setIfInBounds_comm _ _ hji]
        exact h3.2

theorem anyHead_lex {n g : Nat} {Lq : Act → Prop} (hsel : Region.noSelect ops = true) (hs : Region.sinkB md ops n = true) (hc : Region.chainB md ops n = true) (hn : n < ops.size) (l : List Oper) :
    ∀ (k : Nat) (listed : Array Bool) (a : Act), (∀ j, j < l.length → l[j]? = ops[k + j]?) → k + l.length = n → HeadInv md ops n listed →
    Region.lexHead md ops g l.length k listed = true → wpQuiet P ops C Lq l a →
    anyHead P md ops C n (fun listed' a' => Region.seqB md ops g n listed' = true ∧ Lq a') l.length listed a := by
  induction l with
  | nil =>
    intro k listed a _ hk _ hB h
    obtain rfl : k = n := by simpa using hk
    exact ⟨by simpa [Region.lexHead] using hB, h⟩
  | cons o l ih =>
    intro k listed a hl hk inv hB h
    have h0 : ops[k]? = some o := by simpa using (hl 0 (by simp)).symm
    simp only [List.length_cons, Region.lexHead, Bool.and_eq_true] at hB
    obtain ⟨⟨hr, hf⟩, hB'⟩ := hB
    simp only [List.length_cons] at hk
    have hkn : k < n := by omega
    have hr' : k ∈ Region.ready md ops listed := by simpa using hr
    have hst : qOp P ops C k (wpQuiet P ops C Lq l) a := by unfold qOp; simp only [h0]; exact h
    obtain ⟨v, hy, hK⟩ := yieldsIn_of_qOp h0 hst
    exact anyHead_first h0 hsel hs hc hn hkn (fun listed' a' hL => seqB_ready hL.1) l.length listed a inv (Region.free_spec h0 hf) hr' hy
      (ih (k + 1) _ _ (fun j hj => by have := hl (j + 1) (by simp; omega); simpa [Nat.add_assoc, Nat.add_comm 1 j] using this) (by omega) (inv.set hr' hkn) hB' hK)

theorem wp_region_quiet_tail {id : Nat} {Q : Exit → Act → World → Prop} {a : Act} {w : World} {l : List Oper} (n : Nat) (hm : P.follows .mixedOrders = true) (hB : Region.lexTailB .any l.toArray n = true)
    (hC : C { w with drawn := w.drawn + 1 }) (h : wpQuiet P l.toArray C (fun a' => ∀ w', C w' → wpList P l.toArray Q (l.drop n) a' w') (l.take n) a) : (Code.region id l.toArray true).wp P Q a w := by
  simp only [Region.lexTailB, Bool.and_eq_true, decide_eq_true_eq] at hB
  obtain ⟨⟨⟨⟨hsel, hn⟩, hs⟩, hc⟩, hlex⟩ := hB
  have hn' : n < l.length := by simpa using hn
  have htl : (l.take n).length = n := by simp; omega
  have hdl : (l.drop n).length = l.toArray.size - n := by simp
  have inv0 : HeadInv .any l.toArray n (Array.replicate l.toArray.size false) :=
    ⟨by simp, fun j oj _ hl => (by rw [getD_replicate_false] at hl; cases hl), fun t _ ht => getD_in (by simpa using ht) (getD_replicate_false _ _)⟩
  have H := anyHead_lex (md := .any) (C := C) (g := l.toArray.size - n) hsel hs hc hn (l.take n) 0 _ a (fun j hj => by
    have hj' : j < n := by rw [htl] at hj; exact hj
    simp [hj']) (by simpa using htl) inv0 (by rw [htl]; exact hlex) h
  refine wp_region_any hm ?_
  have := anyHead_wp (Q' := Q) (g := l.toArray.size - n) (fun listed a' w' hw' hL => by
    have := wpAny_of_seq (md := .any) (Q' := Q) (l.drop n) n listed a' w' (fun j => by simp [List.getElem?_drop]) (by rw [hdl]; exact hL.1) (hL.2 w' hw')
    rwa [hdl] at this) _ _ _ _ hC H
  rw [htl, show n + (l.toArray.size - n) = l.toArray.size by omega] at this
  exact this
end

/-- The same, at the later worlds. -/
theorem wp_region_later_tail {P : Program} (B : Nat) (n : Nat) {id : Nat} {Q : Exit → Act → World → Prop} {a : Act} {w : World} {l : List Oper} (hm : P.follows .mixedOrders = true) (hB : Region.lexTailB .any l.toArray n = true)
    (h : wpQuiet P l.toArray (fun w' => ∃ p : Later B w, w' = p.w) (fun a' => ∀ w', (∃ p : Later B w, w' = p.w) → wpList P l.toArray Q (l.drop n) a' w') (l.take n) a) : (Code.region id l.toArray true).wp P Q a w :=
  wp_region_quiet_tail (C := fun w' => ∃ p : Later B w, w' = p.w) n hm hB ⟨⟨_, (Below.refl _ _).drew⟩, rfl⟩ h
end Go.Proofs.YtenflcaalckdfaaGreatDoor
namespace Go.Proofs.YtenflcaalckdfaaGreatDoor
open Go Go.RowKit Go.Sort Go.Shelf
set_option linter.unusedVariables false
set_option linter.unusedSimpArgs false

theorem take_le' (l : List UInt8) (K : Nat) (hl : l.length ≤ 9223372036854775807) : ∃ m : Nat, min (l.length : Int) K = m ∧ m ≤ l.length ∧ l.take K = l.take m := ⟨min l.length K, by omega, by omega, by
  by_cases h : K ≤ l.length
  · rw [Nat.min_eq_right h]
  · rw [Nat.min_eq_left (by omega), List.take_length, List.take_of_length_le (by omega)]⟩
theorem few1_c (l : List UInt8) (hl : l.length ≤ 9223372036854775807) (w : World) : Calls Tryz.prog 18 #[.string (S l)] w fun e w' => e = .returned (.string (S (l.take 300))) ∧ w' = w := by
  obtain ⟨m, hm, hml, e⟩ := take_le' l 300 hl
  rw [e]
  clear e
  simp only [Int.cast_ofNat_Int] at hm
  go_enter Tryz.func18, Tryz.ntmps18
  go_wp2
  go_ret
  exact ⟨by simp, rfl⟩
theorem vars_short (l : List UInt8) (hl : l.length ≤ 9223372036854775807) (w : World) : Calls Tryz.prog 7 #[.string (S l)] w fun e w' => e = .returned (.string (S (l.take 600))) ∧ w' = w := by
  obtain ⟨m, hm, hml, e⟩ := take_le' l 600 hl
  rw [e]
  clear e
  simp only [Int.cast_ofNat_Int] at hm
  go_enter Tryz.func7, Tryz.ntmps7
  go_wp2
  go_ret
  exact ⟨by simp, rfl⟩
/-- What a request of little text says. -/
def En.cut (e : En) : En := ⟨e.host.take 300, e.ref.take 300, e.agent.take 300, e.cookie.take 300, e.lang.take 300, e.query.take 300⟩
theorem En.cut_few (e : En) : e.cut.few := ⟨by simp [En.cut]; omega, by simp [En.cut]; omega, by simp [En.cut]; omega, by simp [En.cut]; omega, by simp [En.cut]; omega, by simp [En.cut]; omega⟩
def En.lens (e : En) : Prop := e.host.length ≤ 9223372036854775807 ∧ e.ref.length ≤ 9223372036854775807 ∧ e.agent.length ≤ 9223372036854775807 ∧ e.cookie.length ≤ 9223372036854775807 ∧ e.lang.length ≤ 9223372036854775807 ∧ e.query.length ≤ 9223372036854775807
set_option maxHeartbeats 3200000 in
set_option maxRecDepth 100000 in
theorem vars_few (e : En) (he : e.lens) (w : World) : Calls Tryz.prog 6 #[e.v] w fun x w' => x = .returned e.cut.v ∧ Below w.heap.size w w' := by
  obtain ⟨h1, h2, h3, h4, h5, h6⟩ := he
  have C1 := Lib.hid (fun W => few1_c e.host h1 W)
  have C2 := Lib.hid (fun W => few1_c e.ref h2 W)
  have C3 := Lib.hid (fun W => few1_c e.agent h3 W)
  have C4 := Lib.hid (fun W => few1_c e.cookie h4 W)
  have C5 := Lib.hid (fun W => few1_c e.lang h5 W)
  have C6 := Lib.hid (fun W => few1_c e.query h6 W)
  obtain ⟨a1, a2, a3, a4, a5, a6⟩ := e
  simp only [En.v, En.cut] at *
  obtain ⟨b1, hb1⟩ : ∃ b, a1.take 300 = b := ⟨_, rfl⟩
  obtain ⟨b2, hb2⟩ : ∃ b, a2.take 300 = b := ⟨_, rfl⟩
  obtain ⟨b3, hb3⟩ : ∃ b, a3.take 300 = b := ⟨_, rfl⟩
  obtain ⟨b4, hb4⟩ : ∃ b, a4.take 300 = b := ⟨_, rfl⟩
  obtain ⟨b5, hb5⟩ : ∃ b, a5.take 300 = b := ⟨_, rfl⟩
  obtain ⟨b6, hb6⟩ : ∃ b, a6.take 300 = b := ⟨_, rfl⟩
  rw [hb1] at C1 ⊢
  rw [hb2] at C2 ⊢
  rw [hb3] at C3 ⊢
  rw [hb4] at C4 ⊢
  rw [hb5] at C5 ⊢
  rw [hb6] at C6 ⊢
  clear h1 h2 h3 h4 h5 h6 hb1 hb2 hb3 hb4 hb5 hb6
  go_enter Tryz.func6, Tryz.ntmps6
  go_wp2_with fail
  refine wp_region_later_tail (w.heap.size + 2) 25 (by kernel_rfl) (by kernel_rfl) ?_
  simp only [List.take_succ_cons, List.take_zero, List.drop_succ_cons, List.drop_zero]
  have l_w2_w_0 := @Later.at (w.heap.size + 2) (w.heap.size) (by omega)
  have l_w2_w_1 := @Later.at (w.heap.size + 2) (w.heap.size + 1) (by omega)
  repeat (go_big_quiet_step ((go_at_call 18; first | (with_reducible refine later_same (C1.out _)) | (with_reducible refine later_same (C2.out _)) | (with_reducible refine later_same (C3.out _)) | (with_reducible refine later_same (C4.out _)) | (with_reducible refine later_same (C5.out _)) | (with_reducible refine later_same (C6.out _)))))
  refine wpQuiet_nil ?_
  rintro w2 ⟨⟨_, hb_w2⟩, rfl⟩
  clear l_w2_w_0 l_w2_w_1
  try simp only [] at hb_w2 ⊢
  have hz_w2 := hb_w2.size
  try simp at hz_w2
  have c_w2_w_0 := fun o => hb_w2.cell (p := ⟨w.heap.size, o, none⟩) (by first | omega | (simp <;> omega))
  have f_w2_w_0 := fun o => hb_w2.frozen (p := ⟨w.heap.size, o, none⟩) (by first | omega | (simp <;> omega))
  have c_w2_w_0_0 := c_w2_w_0 0
  conv at c_w2_w_0_0 => rhs; simp [go_sem, *]
  have f_w2_w_0_0 := f_w2_w_0 0
  conv at f_w2_w_0_0 => rhs; simp [go_sem, *]
  have c_w2_w_0_1 := c_w2_w_0 1
  conv at c_w2_w_0_1 => rhs; simp [go_sem, *]
  have f_w2_w_0_1 := f_w2_w_0 1
  conv at f_w2_w_0_1 => rhs; simp [go_sem, *]
  have c_w2_w_0_2 := c_w2_w_0 2
  conv at c_w2_w_0_2 => rhs; simp [go_sem, *]
  have f_w2_w_0_2 := f_w2_w_0 2
  conv at f_w2_w_0_2 => rhs; simp [go_sem, *]
  have c_w2_w_0_3 := c_w2_w_0 3
  conv at c_w2_w_0_3 => rhs; simp [go_sem, *]
  have f_w2_w_0_3 := f_w2_w_0 3
  conv at f_w2_w_0_3 => rhs; simp [go_sem, *]
  have c_w2_w_0_4 := c_w2_w_0 4
  conv at c_w2_w_0_4 => rhs; simp [go_sem, *]
  have f_w2_w_0_4 := f_w2_w_0 4
  conv at f_w2_w_0_4 => rhs; simp [go_sem, *]
  have c_w2_w_0_5 := c_w2_w_0 5
  conv at c_w2_w_0_5 => rhs; simp [go_sem, *]
  have f_w2_w_0_5 := f_w2_w_0 5
  conv at f_w2_w_0_5 => rhs; simp [go_sem, *]
  have c_w2_w_1 := fun o => hb_w2.cell (p := ⟨w.heap.size + 1, o, none⟩) (by first | omega | (simp <;> omega))
  have f_w2_w_1 := fun o => hb_w2.frozen (p := ⟨w.heap.size + 1, o, none⟩) (by first | omega | (simp <;> omega))
  have c_w2_w_1_0 := c_w2_w_1 0
  conv at c_w2_w_1_0 => rhs; simp [go_sem, *]
  have f_w2_w_1_0 := f_w2_w_1 0
  conv at f_w2_w_1_0 => rhs; simp [go_sem, *]
  have c_w2_w_1_1 := c_w2_w_1 1
  conv at c_w2_w_1_1 => rhs; simp [go_sem, *]
  have f_w2_w_1_1 := f_w2_w_1 1
  conv at f_w2_w_1_1 => rhs; simp [go_sem, *]
  have c_w2_w_1_2 := c_w2_w_1 2
  conv at c_w2_w_1_2 => rhs; simp [go_sem, *]
  have f_w2_w_1_2 := f_w2_w_1 2
  conv at f_w2_w_1_2 => rhs; simp [go_sem, *]
  have c_w2_w_1_3 := c_w2_w_1 3
  conv at c_w2_w_1_3 => rhs; simp [go_sem, *]
  have f_w2_w_1_3 := f_w2_w_1 3
  conv at f_w2_w_1_3 => rhs; simp [go_sem, *]
  have c_w2_w_1_4 := c_w2_w_1 4
  conv at c_w2_w_1_4 => rhs; simp [go_sem, *]
  have f_w2_w_1_4 := f_w2_w_1 4
  conv at f_w2_w_1_4 => rhs; simp [go_sem, *]
  have c_w2_w_1_5 := c_w2_w_1 5
  conv at c_w2_w_1_5 => rhs; simp [go_sem, *]
  have f_w2_w_1_5 := f_w2_w_1 5
  conv at f_w2_w_1_5 => rhs; simp [go_sem, *]
  have HH_w2 := Lib.hid hb_w2
  have hB_w2 : Below w.heap.size w w2 := Below.trans (by (repeat (first | (with_reducible exact Below.refl _ _) | (with_reducible assumption) | (with_reducible refine Below.drew ?_) | (focus ((with_reducible refine Below.setCell ?_ ?_ _); rotate_left; (first | omega | (simp <;> omega)))) | (focus ((with_reducible refine Below.alloc ?_ ?_ _); rotate_left; (first | omega | (simp <;> omega)))) | exact Below.refl _ _ | assumption | refine Below.drew ?_ | refine Below.alloc ?_ (by first | omega | (simp <;> omega)) _ | refine Below.setCell ?_ (by first | omega | (simp <;> omega)) _))) (hb_w2.mono (by first | omega | (simp <;> omega)))
  clear hb_w2 c_w2_w_0 f_w2_w_0 c_w2_w_1 f_w2_w_1
  have far_w2_w_0 := far (show w.heap.size < w2.heap.size by omega)
  have far_w2_w_1 := far (show w.heap.size + 1 < w2.heap.size by omega)
  go_wp2
  exact bodyPost_ret (v := .agg #[.string (S b1), .string (S b2), .string (S b3), .string (S b4), .string (S b5), .string (S b6)]) (by simp [results, Tryz.results6, go_sem, *]) rfl ⟨rfl, by (repeat (first | (with_reducible exact Below.refl _ _) | (with_reducible assumption) | (with_reducible refine Below.drew ?_) | (focus ((with_reducible refine Below.setCell ?_ ?_ _); rotate_left; (first | omega | (simp <;> omega)))) | (focus ((with_reducible refine Below.alloc ?_ ?_ _); rotate_left; (first | omega | (simp <;> omega)))) | exact Below.refl _ _ | assumption | refine Below.drew ?_ | refine Below.alloc ?_ (by first | omega | (simp <;> omega)) _ | refine Below.setCell ?_ (by first | omega | (simp <;> omega)) _))⟩
def queryOf (q : List UInt8) : En := ⟨[], [], [], [], [], q⟩
theorem alive_sub : subV (queryOf [120, 61, 49]) [97, 36, 40, 81, 85, 69, 82, 89, 95, 83, 84, 82, 73, 78, 71, 123, 120, 125, 124, 39, 110, 111, 110, 101, 39, 41, 98] = [97, 49, 98] := by decide +kernel
theorem vars_alive (w : World) (hM : ML w) : Calls Tryz.prog 10 #[] w fun e w' => e = .returned (.bool true) ∧ Below w.heap.size w w' := by
  have C := Lib.hid (fun W h => varsSub (queryOf [120, 61, 49]) (by unfold En.few queryOf; simp) [97, 36, 40, 81, 85, 69, 82, 89, 95, 83, 84, 82, 73, 78, 71, 123, 120, 125, 124, 39, 110, 111, 110, 101, 39, 41, 98] (by decide) W h)
  rw [alive_sub] at C
  unfold queryOf En.v at C
  simp only at C
  go_enter Tryz.func10, Tryz.ntmps10
  go_wp2_with (go_at_call 11; refine Calls.mono (C.out _ hM) ?_; rintro x w1 ⟨rfl, hb1⟩; have HB1 := Lib.hid hb1; clear hb1)
  go_ret
  exact ⟨ret_bool (by simp), HB1.out⟩
end Go.Proofs.YtenflcaalckdfaaGreatDoor
