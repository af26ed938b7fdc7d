/- head.Parse: the walk. -/
import Derived.Test.YtpklbelhdfkjpaaDoorHeadIter
import Derived.Test.YtpklbelhdfkjpaaDoorTableAdd
import Derived.Test.YtpklbelhdfkjpaaDoorTextTrim2
import Derived.RangeFuncBox
namespace Go.Proofs.YtpklbelhdfkjpaaDoor
open Go.RowKit Go.Shelf
set_option linter.unusedVariables false

theorem parseH_stop (xs : List (List UInt8)) : ∀ (L : List Fl) (r : List (List UInt8)), (parseH L xs).2 ≠ 0 → parseH L (xs ++ r) = parseH L xs := by
  intro L r h
  cases r with
  | nil => rw [List.append_nil]
  | cons x r => rw [parseH_snoc, if_neg h]
theorem parseH_one {L : List Fl} {xs : List (List UInt8)} {out : List Fl} (h : parseH L xs = (out, 0)) (x : List UInt8) : parseH L (xs ++ [x]) = if stepH out x = 0 then (out ++ [fieldOf x], 0) else ([], stepH out x) := by
  rw [parseH_snoc, h, if_pos rfl]
  unfold parseH
  rfl
theorem step_add {out : List Fl} (h : rightL out = true) (x : List UInt8) : stepH out x = if (cut1 x 58).2.2 = true then (if addE out (fieldOf x) = 1 then 31 else addE out (fieldOf x)) else 31 := by
  unfold stepH addE
  rw [h]
  cases (cut1 x 58).2.2 <;> cases mayL (fieldOf x) <;> simp
  split <;> simp
theorem addE_cases (L : List Fl) (f : Fl) : addE L f = 0 ∨ addE L f = 1 ∨ addE L f = 4 := by
  unfold addE; split
  · split <;> simp
  · simp
theorem cut1_len (l : List UInt8) (c : UInt8) : (cut1 l c).1.length ≤ l.length ∧ (cut1 l c).2.1.length ≤ l.length := by
  unfold cut1
  split
  · simp; omega
  · simp
theorem trim_len (l : List UInt8) : (trim l).length ≤ l.length := by
  unfold trim trimL trimR
  refine Nat.le_trans (List.dropWhile_sublist _).length_le ?_
  rw [List.length_reverse]
  refine Nat.le_trans (List.dropWhile_sublist _).length_le ?_
  rw [List.length_reverse]
  exact Nat.le_refl _
theorem field_small {x : List UInt8} (h : x.length ≤ 1000000) : Small (fieldOf x) := by
  obtain ⟨h1, h2⟩ := cut1_len x 58
  have := trim_len (cut1 x 58).2.1
  exact ⟨by show (cut1 x 58).1.length ≤ _; omega, by show (trim (cut1 x 58).2.1).length ≤ _; omega⟩
theorem parseH_small (xs : List (List UInt8)) : ∀ (out : List Fl), (∀ f ∈ out, Small f) → (∀ x ∈ xs, x.length ≤ 1000000) → ∀ f ∈ (parseH out xs).1, Small f := by
  induction xs with
  | nil => intro out h _; exact h
  | cons x xs ih =>
    intro out h hx
    unfold parseH
    split
    · refine ih _ (fun f hf => ?_) (fun y hy => hx y (by simp [hy]))
      rcases List.mem_append.1 hf with hf | hf
      · exact h f hf
      · obtain rfl : f = fieldOf x := by simpa using hf
        exact field_small (hx x (by simp))
    · intro f hf; cases hf

theorem box_under {W W' : World} {B : Nat} {t : TypeId} {v : Value} (h : Boxed W B t v) (hb : Below W.heap.size W W') : Boxed W' B t v := (hb.block B h.lt).trans h
theorem KeepsOthers.of_below {W W' : World} (h : Below W.heap.size W W') : KeepsOthers W W' :=
  ⟨h.size, fun k o hk _ => (h.block k (Array.getElem?_eq_some_iff.1 hk).1).trans hk⟩
theorem box_unset {W : World} {B B' : Nat} {t : TypeId} {v : Value} (h : Boxed W B t v) (x : Value) (hne : B ≠ B') : Boxed (W.setCell ⟨B', 0, none⟩ x) B t v :=
  h.kept (grownBy_setCell' W B' x) (by simp [hne])
theorem ReadsF.turn {W W' : World} {v : Value} {L : List Fld} (h : ReadsF W v L) {row : Option Nat} (hg : W.grownBy W' row) (hr : ∀ r, row = some r → ∃ o : Obj, W.heap[r]? = some o ∧ o.isCells = false) : ReadsF W' v L := by
  obtain ⟨ao, cap, h1, h2, h3, h3', h4⟩ := h
  refine ⟨ao, cap, h1, h2, h3, h3', fun h0 => ?_⟩
  obtain ⟨b, off, e1, e2, e3⟩ := h4 h0
  refine ⟨b, off, e1, Nat.lt_of_lt_of_le e2 hg.size, fun j hj => ?_⟩
  obtain ⟨c1, c2⟩ := e3 j hj
  exact ⟨cell_kept c1 hg hr, cell_kept c2 hg hr⟩
/-- A store into a box leaves a row of fields as it was: the box holds no text. -/
theorem ReadsF.unset {W : World} {v : Value} {L : List Fld} (h : ReadsF W v L) {B : Nat} {t : TypeId} {u : Value} (hB : Boxed W B t u) (hu : ∀ s, u ≠ .string s) (x : Value) : ReadsF (W.setCell ⟨B, 0, none⟩ x) v L := by
  obtain ⟨ao, cap, h1, h2, h3, h3', h4⟩ := h
  refine ⟨ao, cap, h1, h2, h3, h3', fun h0 => ?_⟩
  obtain ⟨b, off, e1, e2, e3⟩ := h4 h0
  have key : ∀ o (s : ByteArray), W.cell? ⟨b, o, none⟩ = some (.string s) → (W.setCell ⟨B, 0, none⟩ x).cell? ⟨b, o, none⟩ = some (.string s) := by
    intro o s hc
    rw [World.cell?_setCell_other]
    · exact hc
    · intro e
      rw [← e, hB.cell] at hc
      exact hu s (Option.some.inj hc)
  refine ⟨b, off, e1, by simpa using e2, fun j hj => ?_⟩
  obtain ⟨c1, c2⟩ := e3 j hj
  exact ⟨key _ _ c1, key _ _ c2⟩

theorem headParse_long (s : List UInt8) (hs : s.length ≤ 4611686018427387903) (h : 4000 < s.length) (w : World) : Calls Tryd.prog 10 #[.string (S s)] w fun e w' => e = .returned (.tuple #[.slice none 0 0, .int .i64 2]) ∧ Below w.heap.size w w' := by
  have h1 : decide ((s.length : Int) > 4000) = true := by simp; omega
  have h2 : (4000 : Int) < (s.length : Int) := by omega
  go_enter Tryd.func10, Tryd.ntmps10
  go_wp2
  exact bodyPost_ret (v := .tuple #[.slice none 0 0, .int .i64 2]) (by simp [results, Tryd.results10, go_sem, *]) rfl ⟨rfl, by (repeat (first | (with_reducible exact Below.refl _ _) | (with_reducible assumption) | (with_reducible refine Below.drew ?_) | (focus ((with_reducible refine Below.setCell ?_ ?_ _); rotate_left; (first | omega | (simp <;> omega)))) | (focus ((with_reducible refine Below.alloc ?_ ?_ _); rotate_left; (first | omega | (simp <;> omega)))) | exact Below.refl _ _ | assumption | refine Below.drew ?_ | refine Below.alloc ?_ (by first | omega | (simp <;> omega)) _ | refine Below.setCell ?_ (by first | omega | (simp <;> omega)) _))⟩
theorem headParse_end (s : List UInt8) (hs : s.length ≤ 4000) (h0 : s ≠ []) (h : s.getLast? ≠ some 10) (w : World) : Calls Tryd.prog 10 #[.string (S s)] w fun e w' => e = .returned (.tuple #[.slice none 0 0, .int .i64 31]) ∧ Below w.heap.size w w' := by
  have h1 : (s.length : Int) ≤ 4000 := by omega
  have hl : 0 < s.length := List.length_pos_iff.2 h0
  have he : s.isEmpty = false := by cases s with
    | nil => exact absurd rfl h0
    | cons a t => rfl
  have hb : (bAt s (s.length - 1) != 10) = true := by
    rw [bAt_eq (by omega)]
    rw [List.getLast?_eq_getElem?, List.getElem?_eq_getElem (by omega)] at h
    simp only [bne_iff_ne, ne_eq]
    intro e
    apply h
    congr 1
    apply UInt8.toNat.inj
    have : (s[s.length - 1].toNat : Int) = 10 := e
    exact Int.ofNat.inj this
  obtain ⟨z, hz⟩ : ∃ z, bAt s (s.length - 1) = z := ⟨_, rfl⟩
  rw [hz] at hb
  have hz2 : bAt s ((s.length : Int) - 1).toNat = z := by rw [← hz]; congr 1; omega
  clear h h0
  go_enter Tryd.func10, Tryd.ntmps10
  go_wp2
  exact bodyPost_ret (v := .tuple #[.slice none 0 0, .int .i64 31]) (by simp [results, Tryd.results10, go_sem, *]) rfl ⟨rfl, by (repeat (first | (with_reducible exact Below.refl _ _) | (with_reducible assumption) | (with_reducible refine Below.drew ?_) | (focus ((with_reducible refine Below.setCell ?_ ?_ _); rotate_left; (first | omega | (simp <;> omega)))) | (focus ((with_reducible refine Below.alloc ?_ ?_ _); rotate_left; (first | omega | (simp <;> omega)))) | exact Below.refl _ _ | assumption | refine Below.drew ?_ | refine Below.alloc ?_ (by first | omega | (simp <;> omega)) _ | refine Below.setCell ?_ (by first | omega | (simp <;> omega)) _))⟩

/-- Ahead of the loop the text may be. -/
theorem headParse_test {s : List UInt8} (h : ¬ (s ≠ [] ∧ s.getLast? ≠ some 10)) : s = [] ∨ (s.isEmpty = false ∧ bAt s (s.length - 1) = 10 ∧ 0 < s.length) := by
  by_cases h0 : s = []
  · exact .inl h0
  · right
    have hl : 0 < s.length := List.length_pos_iff.2 h0
    have h1 : s.getLast? = some 10 := Classical.byContradiction fun e => h ⟨h0, e⟩
    refine ⟨by cases s with
      | nil => exact absurd rfl h0
      | cons a t => rfl, ?_, hl⟩
    rw [bAt_eq (by omega)]
    rw [List.getLast?_eq_getElem?, List.getElem?_eq_getElem (by omega)] at h1
    rw [Option.some.inj h1]
    rfl

attribute [local go_sem] Oper.semAt_some

/-- What holds between two rounds. -/
def ParseI (w : World) (s : List UInt8) (pre : List (Ln s.length)) (W : World) : Prop :=
  (∃ out v, parseH [] ((vals pre).map Prod.fst) = (out, 0) ∧ Boxed W w.heap.size 22 (.slice none 0 0) ∧ Boxed W (w.heap.size + 1) 24 (.int .i64 0) ∧ Boxed W (w.heap.size + 1 + 1) 22 v ∧ Boxed W (w.heap.size + 1 + 1 + 1) 9 (.string (S s)) ∧ ReadsF W v out) ∧ Below w.heap.size w W
/-- What holds where a round has left. -/
def ParseX (w : World) (s : List UInt8) (c : Code) (pre : List (Ln s.length)) (W : World) : Prop :=
  (c = .ret ∧ ∃ e, parseH [] ((vals pre).map Prod.fst) = ([], e) ∧ e ≠ 0 ∧ Boxed W w.heap.size 22 (.slice none 0 0) ∧ Boxed W (w.heap.size + 1) 24 (.int .i64 e)) ∧ Below w.heap.size w W
theorem box_turn {W W' : World} {B : Nat} {t : TypeId} {v : Value} (h : Boxed W B t v) {row : Option Nat} (hg : W.grownBy W' row) (hr : ∀ r, row = some r → ∃ o : Obj, W.heap[r]? = some o ∧ o.isCells = false) : Boxed W' B t v :=
  h.kept hg (fun e => by
    obtain ⟨o, ho, hc⟩ := hr B e.symm
    rw [show W.heap[B]? = _ from h] at ho; cases ho; cases hc)
theorem parseI_own (w : World) (s : List UInt8) {B : Nat} (hB : w.heap.size ≤ B) : OwnFrom B (ParseI w s) :=
  OwnFrom.and (Own.from (fun pre A X row hs hg hr => by
    obtain ⟨out, v, h1, h2, h3, h4, h6, h5⟩ := hs
    exact ⟨out, v, h1, box_turn h2 hg hr, box_turn h3 hg hr, box_turn h4 hg hr, box_turn h6 hg hr, h5.turn hg hr⟩) _) (ownFrom_below (Nat.le_refl _) hB)
theorem parseX_own (w : World) (s : List UInt8) {B : Nat} (hB : w.heap.size ≤ B) (c : Code) : OwnFrom B (ParseX w s c) :=
  OwnFrom.and (Own.from (fun pre A X row hs hg hr => by
    obtain ⟨h0, e, h1, h2, h3, h4⟩ := hs
    exact ⟨h0, e, h1, h2, box_turn h3 hg hr, box_turn h4 hg hr⟩) _) (ownFrom_below (Nat.le_refl _) hB)

set_option maxRecDepth 100000 in
set_option maxHeartbeats 4000000 in
theorem headParse_empty (s : List UInt8) (hs : s.length ≤ 4000) (he : s.isEmpty = true) (w : World) :
    Calls Tryd.prog 10 #[.string (S s)] w fun e w' => ∃ v, e = .returned (.tuple #[v, .int .i64 (parseH [] ((linesG 0 [] s).map Prod.fst)).2]) ∧ ReadsF w' v (parseH [] ((linesG 0 [] s).map Prod.fst)).1 ∧ Below w.heap.size w w' := by
  refine (callsIn_wide (n := 4)).1 ?_
  have HLN := Lib.hid (fun W => headLines s W)
  have h1 : (s.length : Int) ≤ 4000 := by omega
  have hmix : Tryd.prog.follows .mixedOrders = true := by kernel_rfl

  refine callsIn_of_wp_marks Tryd.func10 rfl trivial ?_ rfl
  simp only [Tryd.ntmps10, List.size_toArray, List.length_cons, List.length_nil, Nat.reduceAdd, Nat.reduceSub, Array.replicate_succ, Array.replicate_zero, List.push_toArray, List.append_toArray, List.nil_append, List.cons_append]
  gi_wp2_with (gi_at_call 22; refine (callsIn_wide.2 (HLN.out _)).mono ?_; rintro e w' ⟨rfl, rfl⟩)
  have B0 := (((Boxed.new w 22 (.slice none 0 0)).alloc (.cells #[.int .i64 0] 24)).alloc (.cells #[.slice none 0 0] 22)).alloc (.cells #[.string (S s)] 9)
  have B1 := ((Boxed.new (w.alloc (.cells #[.slice none 0 0] 22)) 24 (.int .i64 0)).alloc (.cells #[.slice none 0 0] 22)).alloc (.cells #[.string (S s)] 9)
  have B2 := (Boxed.new ((w.alloc (.cells #[.slice none 0 0] 22)).alloc (.cells #[.int .i64 0] 24)) 22 (.slice none 0 0)).alloc (.cells #[.string (S s)] 9)
  have B3 := Boxed.new (((w.alloc (.cells #[.slice none 0 0] 22)).alloc (.cells #[.int .i64 0] 24)).alloc (.cells #[.slice none 0 0] 22)) 9 (.string (S s))
  have hB0 : Below w.heap.size w ((((w.alloc (.cells #[.slice none 0 0] 22)).alloc (.cells #[.int .i64 0] 24)).alloc (.cells #[.slice none 0 0] 22)).alloc (.cells #[.string (S s)] 9)) := by (repeat (first | (with_reducible exact Below.refl _ _) | (with_reducible assumption) | (with_reducible refine Below.drew ?_) | (focus ((with_reducible refine Below.setCell ?_ ?_ _); rotate_left; (first | omega | (simp <;> omega)))) | (focus ((with_reducible refine Below.alloc ?_ ?_ _); rotate_left; (first | omega | (simp <;> omega)))) | exact Below.refl _ _ | assumption | refine Below.drew ?_ | refine Below.alloc ?_ (by first | omega | (simp <;> omega)) _ | refine Below.setCell ?_ (by first | omega | (simp <;> omega)) _))
  have hz0 : (((((w.alloc (.cells #[.slice none 0 0] 22)).alloc (.cells #[.int .i64 0] 24)).alloc (.cells #[.slice none 0 0] 22)).alloc (.cells #[.string (S s)] 9))).heap.size = w.heap.size + 4 := by simp
  simp only [World.size_alloc] at B1 B2 B3 ⊢
  obtain ⟨W0, hW0⟩ : ∃ x, ((((w.alloc (.cells #[.slice none 0 0] 22)).alloc (.cells #[.int .i64 0] 24)).alloc (.cells #[.slice none 0 0] 22)).alloc (.cells #[.string (S s)] 9)) = x := ⟨_, rfl⟩
  rw [hW0] at B0 B1 B2 B3 hB0 hz0 ⊢
  clear hW0 HLN
  refine wpIn_rangeFunc_ownF rfl (by omega) (gf := 34) (lb := #[.pointer (some ⟨w.heap.size + 1 + 1 + 1, 0, none⟩)]) rfl trivial (enters_of Tryd.func34 (by kernel_rfl) rfl)
    (lines_stops (w.heap.size + 1 + 1 + 1) s (by omega) W0 (by omega) B3.cell) keepsB_t (keepsB_b (by omega)) (Below.refl _ _) (fun _ => rfl)
    (ParseI w s) (ParseX w s) (parseI_own w s (by omega)) (parseX_own w s (by omega)) ?h0 ?a1 ?assign ?body ?done ?stop
  case assign =>
    intro l x W K hK
    gi_wp2
    exact hK
  case h0 => exact ⟨⟨[], _, rfl, B0, B1, B2, B3, ReadsF.nil _⟩, hB0⟩
  case body =>
    intro l pre x W _ hlen
    obtain rfl : s = [] := by simpa using he
    exact absurd hlen (by simp [linesG])
  case done =>
    rintro D ys W hD hS ⟨⟨out, v, hpa, b0, b1, b2, b3, hrd⟩, hB⟩ hK
    rw [hS] at hpa
    have HPA := Lib.hid hpa
    have HRD := Lib.hid hrd
    have HB0 := Lib.hid b0
    have HB1 := Lib.hid b1
    obtain ⟨ao, cap, rfl, _⟩ := hrd
    have c2 := b2.cell
    have d0 := b0.cell
    have e0 := b0.frozen
    have d1 := b1.cell
    have e1 := b1.frozen
    clear hpa b0 b1 b2 b3
    gi_wp2
    have hK' := ((KeepsOthers.setCell W ⟨w.heap.size, 0, none⟩ (.slice ao out.length cap)).trans (KeepsOthers.setCell _ ⟨w.heap.size + 1, 0, none⟩ (.int .i64 0))).same D _ hK rfl
    refine ⟨by simp, .inl ⟨_, _, rfl, run_takeDeferred hK', ?_⟩⟩
    have q0 := cell_kept (box_unset (Boxed.set (.slice ao out.length cap) HB0.out) (.int .i64 0) (show w.heap.size ≠ w.heap.size + 1 by omega)).cell (grownBy_putObj' _ D (.deferred none)) (fun r e => by cases e; exact ⟨_, hK', rfl⟩)
    have q1 := cell_kept (Boxed.set (.int .i64 0) (box_unset HB1.out (.slice ao out.length cap) (show w.heap.size + 1 ≠ w.heap.size by omega))).cell (grownBy_putObj' _ D (.deferred none)) (fun r e => by cases e; exact ⟨_, hK', rfl⟩)
    rw [HPA.out]
    refine ⟨.tuple #[.slice ao out.length cap, .int .i64 0], ?_, _, rfl, ?_, ?_⟩
    · simp [results, Tryd.f10, go_sem, q0, q1]
    · exact ((HRD.out.unset HB0.out (fun _ h => by cases h) _).unset (box_unset HB1.out _ (show w.heap.size + 1 ≠ w.heap.size by omega)) (fun _ h => by cases h) _).turn (grownBy_putObj' _ D (.deferred none)) (fun r e => by cases e; exact ⟨_, hK', rfl⟩)
    · exact ((hB.setCell (p := ⟨w.heap.size, 0, none⟩) (Nat.le_refl _) _).setCell (p := ⟨w.heap.size + 1, 0, none⟩) (show w.heap.size ≤ w.heap.size + 1 by omega) _).trans (belowK_b (w := w) (Nat.le_refl _) _ D _ _ (by omega) hK' rfl rfl)
  case stop =>
    rintro D c pre W hD hpre ⟨⟨rfl, e, hpa, hne, b0, b1⟩, hB⟩ hK
    obtain ⟨r, hr⟩ := hpre
    have HPA := Lib.hid (show parseH [] ((linesG 0 [] s).map Prod.fst) = ([], e) by rw [← hr, List.map_append, parseH_stop _ _ _ (by rw [hpa]; exact hne), hpa])
    clear hpa hr
    gi_wp2
    refine ⟨by simp, .inl ⟨_, _, rfl, run_takeDeferred hK, ?_⟩⟩
    rw [HPA.out]
    have q0 := cell_kept b0.cell (grownBy_putObj' _ D (.deferred none)) (fun r e => by cases e; exact ⟨_, hK, rfl⟩)
    have q1 := cell_kept b1.cell (grownBy_putObj' _ D (.deferred none)) (fun r e => by cases e; exact ⟨_, hK, rfl⟩)
    refine ⟨.tuple #[.slice none 0 0, .int .i64 e], ?_, _, rfl, ReadsF.nil _, hB.trans (belowK_b (w := w) (Nat.le_refl _) W D _ _ (by omega) hK rfl rfl)⟩
    simp [results, Tryd.f10, go_sem, q0, q1]
set_option maxRecDepth 100000 in
set_option maxHeartbeats 4000000 in
theorem headParse_some (s : List UInt8) (hs : s.length ≤ 4000) (he : s.isEmpty = false) (hb1 : bAt s (s.length - 1) = 10) (hb2 : bAt s ((s.length : Int) - 1).toNat = 10) (hpos : 0 < s.length) (w : World) :
    Calls Tryd.prog 10 #[.string (S s)] w fun e w' => ∃ v, e = .returned (.tuple #[v, .int .i64 (parseH [] ((linesG 0 [] s).map Prod.fst)).2]) ∧ ReadsF w' v (parseH [] ((linesG 0 [] s).map Prod.fst)).1 ∧ Below w.heap.size w w' := by
  refine (callsIn_wide (n := 4)).1 ?_
  have HLN := Lib.hid (fun W => headLines s W)
  have h1 : (s.length : Int) ≤ 4000 := by omega
  have hmix : Tryd.prog.follows .mixedOrders = true := by kernel_rfl

  refine callsIn_of_wp_marks Tryd.func10 rfl trivial ?_ rfl
  simp only [Tryd.ntmps10, List.size_toArray, List.length_cons, List.length_nil, Nat.reduceAdd, Nat.reduceSub, Array.replicate_succ, Array.replicate_zero, List.push_toArray, List.append_toArray, List.nil_append, List.cons_append]
  gi_wp2_with (gi_at_call 22; refine (callsIn_wide.2 (HLN.out _)).mono ?_; rintro e w' ⟨rfl, rfl⟩)
  have B0 := (((Boxed.new w 22 (.slice none 0 0)).alloc (.cells #[.int .i64 0] 24)).alloc (.cells #[.slice none 0 0] 22)).alloc (.cells #[.string (S s)] 9)
  have B1 := ((Boxed.new (w.alloc (.cells #[.slice none 0 0] 22)) 24 (.int .i64 0)).alloc (.cells #[.slice none 0 0] 22)).alloc (.cells #[.string (S s)] 9)
  have B2 := (Boxed.new ((w.alloc (.cells #[.slice none 0 0] 22)).alloc (.cells #[.int .i64 0] 24)) 22 (.slice none 0 0)).alloc (.cells #[.string (S s)] 9)
  have B3 := Boxed.new (((w.alloc (.cells #[.slice none 0 0] 22)).alloc (.cells #[.int .i64 0] 24)).alloc (.cells #[.slice none 0 0] 22)) 9 (.string (S s))
  have hB0 : Below w.heap.size w ((((w.alloc (.cells #[.slice none 0 0] 22)).alloc (.cells #[.int .i64 0] 24)).alloc (.cells #[.slice none 0 0] 22)).alloc (.cells #[.string (S s)] 9)) := by (repeat (first | (with_reducible exact Below.refl _ _) | (with_reducible assumption) | (with_reducible refine Below.drew ?_) | (focus ((with_reducible refine Below.setCell ?_ ?_ _); rotate_left; (first | omega | (simp <;> omega)))) | (focus ((with_reducible refine Below.alloc ?_ ?_ _); rotate_left; (first | omega | (simp <;> omega)))) | exact Below.refl _ _ | assumption | refine Below.drew ?_ | refine Below.alloc ?_ (by first | omega | (simp <;> omega)) _ | refine Below.setCell ?_ (by first | omega | (simp <;> omega)) _))
  have hz0 : (((((w.alloc (.cells #[.slice none 0 0] 22)).alloc (.cells #[.int .i64 0] 24)).alloc (.cells #[.slice none 0 0] 22)).alloc (.cells #[.string (S s)] 9))).heap.size = w.heap.size + 4 := by simp
  simp only [World.size_alloc] at B1 B2 B3 ⊢
  obtain ⟨W0, hW0⟩ : ∃ x, ((((w.alloc (.cells #[.slice none 0 0] 22)).alloc (.cells #[.int .i64 0] 24)).alloc (.cells #[.slice none 0 0] 22)).alloc (.cells #[.string (S s)] 9)) = x := ⟨_, rfl⟩
  rw [hW0] at B0 B1 B2 B3 hB0 hz0 ⊢
  clear hW0 HLN
  refine wpIn_rangeFunc_ownF rfl (by omega) (gf := 34) (lb := #[.pointer (some ⟨w.heap.size + 1 + 1 + 1, 0, none⟩)]) rfl trivial (enters_of Tryd.func34 (by kernel_rfl) rfl)
    (lines_stops (w.heap.size + 1 + 1 + 1) s (by omega) W0 (by omega) B3.cell) keepsB_t (keepsB_b (by omega)) (Below.refl _ _) (fun _ => rfl)
    (ParseI w s) (ParseX w s) (parseI_own w s (by omega)) (parseX_own w s (by omega)) ?h0 ?a1 ?assign ?body ?done ?stop
  case assign =>
    intro l x W K hK
    gi_wp2
    exact hK
  case h0 => exact ⟨⟨[], _, rfl, B0, B1, B2, B3, ReadsF.nil _⟩, hB0⟩
  case body =>
    rintro l pre ⟨⟨b, q⟩, hb1, hb2⟩ W ⟨⟨out, v, hpa, b0, b1, b2, b3, hrd⟩, hB⟩ hlen
    have hzW : w.heap.size + 4 ≤ W.heap.size := b3.lt
    have hr : rightL out = true := by have := (parseH_right ((vals pre).map Prod.fst) [] right_nil).1; rw [hpa] at this; exact this rfl
    have hsm : ∀ f ∈ out, Small f := by
      have := parseH_small ((vals pre).map Prod.fst) [] (by simp) (fun x hx => by
        obtain ⟨y, hy, rfl⟩ := List.mem_map.1 hx
        obtain ⟨z, _, rfl⟩ := List.mem_map.1 hy
        have := z.2.1
        omega)
      rw [hpa] at this
      exact this
    have hbl : b.length ≤ 1000000 := by have : b.length ≤ s.length := hb1; omega
    have hst := step_add hr b
    have hfs := field_small hbl
    have hp1 := parseH_one hpa b
    have hvs : vals (pre ++ [(⟨(b, q), hb1, hb2⟩ : Ln s.length)]) = vals pre ++ [(b, q)] := vals_snoc _ _
    have hmap : (vals (pre ++ [(⟨(b, q), hb1, hb2⟩ : Ln s.length)])).map Prod.fst = (vals pre).map Prod.fst ++ [b] := by rw [hvs]; simp
    have hfo : fieldOf b = ((cut1 b 58).1, trim (cut1 b 58).2.1) := rfl
    obtain ⟨⟨nm, v0, is⟩, hcut⟩ : ∃ x, cut1 b 58 = x := ⟨_, rfl⟩
    have hv0 : v0.length ≤ 1000000 := by have := (cut1_len b 58).2; rw [hcut] at this; simp only at this; omega
    rw [hcut] at hst hfo
    simp only at hst hfo
    obtain ⟨tv, htv⟩ : ∃ x, trim v0 = x := ⟨_, rfl⟩
    rw [htv] at hfo
    rw [hfo] at hst hfs hp1
    have CU := Lib.hid (fun W => cut1_S hcut (by omega) W)
    have TR := Lib.hid (fun W => htv ▸ textTrim v0 (by omega) W)
    obtain ⟨ae, hae⟩ : ∃ x, addE out (nm, tv) = x := ⟨_, rfl⟩
    obtain ⟨LL, hLL⟩ : ∃ x, addL out (nm, tv) = x := ⟨_, rfl⟩
    have hal : LL = if ae = 0 then out ++ [(nm, tv)] else [] := by rw [← hLL, ← hae]; rfl
    have AD := Lib.hid (fun W' (h : ReadsF W' v out) => show Calls Tryd.prog 24 #[v, .string (S nm), .string (S tv)] W' (fun e w' => ∃ v', OwnsF w' W'.heap.size v' LL ∧ e = .returned (.tuple #[v', .int .i64 ae]) ∧ Below W'.heap.size W' w') from hae ▸ hLL ▸ tableAdd v out nm tv W' h hsm hfs)
    have hae2 := addE_cases out (nm, tv)
    rw [hae] at hst hae2
    have HP1 := Lib.hid hp1
    have HST := Lib.hid hst
    have HM := Lib.hid hmap
    have HRD := Lib.hid hrd
    have HB := Lib.hid hB
    have HAL := Lib.hid hal
    have HZ := Lib.hid hzW
    obtain ⟨ao, cap, rfl, _⟩ := hrd
    have HB0 := Lib.hid b0
    have HB1 := Lib.hid b1
    have HB2 := Lib.hid b2
    have HB3 := Lib.hid b3
    have c2 := b2.cell
    have l2 := b2.lt
    clear hp1 hst hmap hvs hpa hr hsm hfs hbl hfo hcut hv0 htv hae hLL hal hB B0 B1 B2 B3 hB0 b0 b1 b2 b3
    cases is with
    | false =>
      have hst : stepH out b = 31 := HST.out
      have HS := Lib.hid hst
      clear hst
      gi_wp2_with (gi_at_call 23; refine (calls_round (CU.out _)).mono ?_; rintro e w1 ⟨rfl, hb1⟩; have c3 := (hb1.cell (p := ⟨w.heap.size + 1 + 1, 0, none⟩) l2).trans c2; have hz1 := hb1.size)
      gi_region_with_o (first
        | (gi_at_call 25; refine (calls_round (TR.out _)).mono ?_; rintro e w2 ⟨rfl, hb2⟩; have hbw2 := Below.trans (show Below W.heap.size W _ by (repeat (first | (with_reducible exact Below.refl _ _) | (with_reducible assumption) | (with_reducible refine Below.drew ?_) | (focus ((with_reducible refine Below.setCell ?_ ?_ _); rotate_left; (first | omega | (simp <;> omega)))) | (focus ((with_reducible refine Below.alloc ?_ ?_ _); rotate_left; (first | omega | (simp <;> omega)))) | exact Below.refl _ _ | assumption | refine Below.drew ?_ | refine Below.alloc ?_ (by first | omega | (simp <;> omega)) _ | refine Below.setCell ?_ (by first | omega | (simp <;> omega)) _))) (hb2.mono (by (first | omega | (simp <;> omega)))); have c4 := (hbw2.cell (p := ⟨w.heap.size + 1 + 1, 0, none⟩) l2).trans c2; have hz2 := hbw2.size)
        | (gi_at_call 24; refine (calls_round (AD.out _ (HRD.out.below (show Below W.heap.size W _ by (repeat (first | (with_reducible exact Below.refl _ _) | (with_reducible assumption) | (with_reducible refine Below.drew ?_) | (focus ((with_reducible refine Below.setCell ?_ ?_ _); rotate_left; (first | omega | (simp <;> omega)))) | (focus ((with_reducible refine Below.alloc ?_ ?_ _); rotate_left; (first | omega | (simp <;> omega)))) | exact Below.refl _ _ | assumption | refine Below.drew ?_ | refine Below.alloc ?_ (by first | omega | (simp <;> omega)) _ | refine Below.setCell ?_ (by first | omega | (simp <;> omega)) _)))))).mono ?_; rintro e w3 ⟨xv, hown, rfl, hb3⟩; have hbw3 := Below.trans (show Below W.heap.size W _ by (repeat (first | (with_reducible exact Below.refl _ _) | (with_reducible assumption) | (with_reducible refine Below.drew ?_) | (focus ((with_reducible refine Below.setCell ?_ ?_ _); rotate_left; (first | omega | (simp <;> omega)))) | (focus ((with_reducible refine Below.alloc ?_ ?_ _); rotate_left; (first | omega | (simp <;> omega)))) | exact Below.refl _ _ | assumption | refine Below.drew ?_ | refine Below.alloc ?_ (by first | omega | (simp <;> omega)) _ | refine Below.setCell ?_ (by first | omega | (simp <;> omega)) _))) (hb3.mono (by (first | omega | (simp <;> omega)))); have HX := Lib.hid hown.reads; obtain ⟨xao, xcap, rfl, _⟩ := hown.reads; clear hown; have d0 := (box_under HB0.out hbw3).cell; have e0 := (box_under HB0.out hbw3).frozen; have d1 := (box_under HB1.out hbw3).cell; have e1 := (box_under HB1.out hbw3).frozen; have d2 := (box_under HB2.out hbw3).cell; have e2 := (box_under HB2.out hbw3).frozen))
      all_goals
        gi_wp2
        exact ⟨((KeepsOthers.of_below hbw3).trans (KeepsOthers.setCell _ _ _)).trans (KeepsOthers.setCell _ _ _), ⟨rfl, 31, by rw [HM.out, HP1.out, HS.out]; rfl, by decide, box_unset (Boxed.set _ (box_under HB0.out hbw3)) _ (by omega), Boxed.set _ (box_unset (box_under HB1.out hbw3) _ (by omega))⟩, ((HB.out.trans (hbw3.mono (by omega))).setCell (p := ⟨w.heap.size, 0, none⟩) (Nat.le_refl _) _).setCell (p := ⟨w.heap.size + 1, 0, none⟩) (show w.heap.size ≤ w.heap.size + 1 by omega) _⟩
    | true =>
      rcases hae2 with rfl | rfl | rfl
      · have hst : stepH out b = 0 := HST.out
        have HS := Lib.hid hst
        clear hst
        gi_wp2_with (gi_at_call 23; refine (calls_round (CU.out _)).mono ?_; rintro e w1 ⟨rfl, hb1⟩; have c3 := (hb1.cell (p := ⟨w.heap.size + 1 + 1, 0, none⟩) l2).trans c2; have hz1 := hb1.size)
        gi_region_with_o (first
          | (gi_at_call 25; refine (calls_round (TR.out _)).mono ?_; rintro e w2 ⟨rfl, hb2⟩; have hbw2 := Below.trans (show Below W.heap.size W _ by (repeat (first | (with_reducible exact Below.refl _ _) | (with_reducible assumption) | (with_reducible refine Below.drew ?_) | (focus ((with_reducible refine Below.setCell ?_ ?_ _); rotate_left; (first | omega | (simp <;> omega)))) | (focus ((with_reducible refine Below.alloc ?_ ?_ _); rotate_left; (first | omega | (simp <;> omega)))) | exact Below.refl _ _ | assumption | refine Below.drew ?_ | refine Below.alloc ?_ (by first | omega | (simp <;> omega)) _ | refine Below.setCell ?_ (by first | omega | (simp <;> omega)) _))) (hb2.mono (by (first | omega | (simp <;> omega)))); have c4 := (hbw2.cell (p := ⟨w.heap.size + 1 + 1, 0, none⟩) l2).trans c2; have hz2 := hbw2.size)
          | (gi_at_call 24; refine (calls_round (AD.out _ (HRD.out.below (show Below W.heap.size W _ by (repeat (first | (with_reducible exact Below.refl _ _) | (with_reducible assumption) | (with_reducible refine Below.drew ?_) | (focus ((with_reducible refine Below.setCell ?_ ?_ _); rotate_left; (first | omega | (simp <;> omega)))) | (focus ((with_reducible refine Below.alloc ?_ ?_ _); rotate_left; (first | omega | (simp <;> omega)))) | exact Below.refl _ _ | assumption | refine Below.drew ?_ | refine Below.alloc ?_ (by first | omega | (simp <;> omega)) _ | refine Below.setCell ?_ (by first | omega | (simp <;> omega)) _)))))).mono ?_; rintro e w3 ⟨xv, hown, rfl, hb3⟩; have hbw3 := Below.trans (show Below W.heap.size W _ by (repeat (first | (with_reducible exact Below.refl _ _) | (with_reducible assumption) | (with_reducible refine Below.drew ?_) | (focus ((with_reducible refine Below.setCell ?_ ?_ _); rotate_left; (first | omega | (simp <;> omega)))) | (focus ((with_reducible refine Below.alloc ?_ ?_ _); rotate_left; (first | omega | (simp <;> omega)))) | exact Below.refl _ _ | assumption | refine Below.drew ?_ | refine Below.alloc ?_ (by first | omega | (simp <;> omega)) _ | refine Below.setCell ?_ (by first | omega | (simp <;> omega)) _))) (hb3.mono (by (first | omega | (simp <;> omega)))); have HX := Lib.hid hown.reads; obtain ⟨xao, xcap, rfl, _⟩ := hown.reads; clear hown; have d0 := (box_under HB0.out hbw3).cell; have e0 := (box_under HB0.out hbw3).frozen; have d1 := (box_under HB1.out hbw3).cell; have e1 := (box_under HB1.out hbw3).frozen; have d2 := (box_under HB2.out hbw3).cell; have e2 := (box_under HB2.out hbw3).frozen))
        all_goals
          gi_wp2
          have q3 : Boxed _ (w.heap.size + 1 + 1 + 1) 9 (.string (S s)) := box_unset (box_under HB3.out hbw3) (.slice xao LL.length xcap) (show w.heap.size + 1 + 1 + 1 ≠ w.heap.size + 1 + 1 by omega)
          exact ⟨(KeepsOthers.of_below hbw3).trans (KeepsOthers.setCell _ _ _), Eq.trans q3 (Eq.symm HB3.out), ⟨out ++ [(nm, tv)], _, by rw [HM.out, HP1.out, HS.out]; rfl, box_unset (box_under HB0.out hbw3) _ (by omega), box_unset (box_under HB1.out hbw3) _ (by omega), Boxed.set _ (box_under HB2.out hbw3), q3, (HAL.out ▸ HX.out : ReadsF _ _ _).unset (box_under HB2.out hbw3) (fun _ h => by cases h) _⟩, (HB.out.trans (hbw3.mono (by omega))).setCell (p := ⟨w.heap.size + 1 + 1, 0, none⟩) (show w.heap.size ≤ w.heap.size + 1 + 1 by omega) _⟩
      · have hst : stepH out b = 31 := HST.out
        have HS := Lib.hid hst
        clear hst
        gi_wp2_with (gi_at_call 23; refine (calls_round (CU.out _)).mono ?_; rintro e w1 ⟨rfl, hb1⟩; have c3 := (hb1.cell (p := ⟨w.heap.size + 1 + 1, 0, none⟩) l2).trans c2; have hz1 := hb1.size)
        gi_region_with_o (first
          | (gi_at_call 25; refine (calls_round (TR.out _)).mono ?_; rintro e w2 ⟨rfl, hb2⟩; have hbw2 := Below.trans (show Below W.heap.size W _ by (repeat (first | (with_reducible exact Below.refl _ _) | (with_reducible assumption) | (with_reducible refine Below.drew ?_) | (focus ((with_reducible refine Below.setCell ?_ ?_ _); rotate_left; (first | omega | (simp <;> omega)))) | (focus ((with_reducible refine Below.alloc ?_ ?_ _); rotate_left; (first | omega | (simp <;> omega)))) | exact Below.refl _ _ | assumption | refine Below.drew ?_ | refine Below.alloc ?_ (by first | omega | (simp <;> omega)) _ | refine Below.setCell ?_ (by first | omega | (simp <;> omega)) _))) (hb2.mono (by (first | omega | (simp <;> omega)))); have c4 := (hbw2.cell (p := ⟨w.heap.size + 1 + 1, 0, none⟩) l2).trans c2; have hz2 := hbw2.size)
          | (gi_at_call 24; refine (calls_round (AD.out _ (HRD.out.below (show Below W.heap.size W _ by (repeat (first | (with_reducible exact Below.refl _ _) | (with_reducible assumption) | (with_reducible refine Below.drew ?_) | (focus ((with_reducible refine Below.setCell ?_ ?_ _); rotate_left; (first | omega | (simp <;> omega)))) | (focus ((with_reducible refine Below.alloc ?_ ?_ _); rotate_left; (first | omega | (simp <;> omega)))) | exact Below.refl _ _ | assumption | refine Below.drew ?_ | refine Below.alloc ?_ (by first | omega | (simp <;> omega)) _ | refine Below.setCell ?_ (by first | omega | (simp <;> omega)) _)))))).mono ?_; rintro e w3 ⟨xv, hown, rfl, hb3⟩; have hbw3 := Below.trans (show Below W.heap.size W _ by (repeat (first | (with_reducible exact Below.refl _ _) | (with_reducible assumption) | (with_reducible refine Below.drew ?_) | (focus ((with_reducible refine Below.setCell ?_ ?_ _); rotate_left; (first | omega | (simp <;> omega)))) | (focus ((with_reducible refine Below.alloc ?_ ?_ _); rotate_left; (first | omega | (simp <;> omega)))) | exact Below.refl _ _ | assumption | refine Below.drew ?_ | refine Below.alloc ?_ (by first | omega | (simp <;> omega)) _ | refine Below.setCell ?_ (by first | omega | (simp <;> omega)) _))) (hb3.mono (by (first | omega | (simp <;> omega)))); have HX := Lib.hid hown.reads; obtain ⟨xao, xcap, rfl, _⟩ := hown.reads; clear hown; have d0 := (box_under HB0.out hbw3).cell; have e0 := (box_under HB0.out hbw3).frozen; have d1 := (box_under HB1.out hbw3).cell; have e1 := (box_under HB1.out hbw3).frozen; have d2 := (box_under HB2.out hbw3).cell; have e2 := (box_under HB2.out hbw3).frozen))
        all_goals
          gi_wp2
          exact ⟨((KeepsOthers.of_below hbw3).trans (KeepsOthers.setCell _ _ _)).trans (KeepsOthers.setCell _ _ _), ⟨rfl, 31, by rw [HM.out, HP1.out, HS.out]; rfl, by decide, box_unset (Boxed.set _ (box_under HB0.out hbw3)) _ (by omega), Boxed.set _ (box_unset (box_under HB1.out hbw3) _ (by omega))⟩, ((HB.out.trans (hbw3.mono (by omega))).setCell (p := ⟨w.heap.size, 0, none⟩) (Nat.le_refl _) _).setCell (p := ⟨w.heap.size + 1, 0, none⟩) (show w.heap.size ≤ w.heap.size + 1 by omega) _⟩
      · have hst : stepH out b = 4 := HST.out
        have HS := Lib.hid hst
        clear hst
        gi_wp2_with (gi_at_call 23; refine (calls_round (CU.out _)).mono ?_; rintro e w1 ⟨rfl, hb1⟩; have c3 := (hb1.cell (p := ⟨w.heap.size + 1 + 1, 0, none⟩) l2).trans c2; have hz1 := hb1.size)
        gi_region_with_o (first
          | (gi_at_call 25; refine (calls_round (TR.out _)).mono ?_; rintro e w2 ⟨rfl, hb2⟩; have hbw2 := Below.trans (show Below W.heap.size W _ by (repeat (first | (with_reducible exact Below.refl _ _) | (with_reducible assumption) | (with_reducible refine Below.drew ?_) | (focus ((with_reducible refine Below.setCell ?_ ?_ _); rotate_left; (first | omega | (simp <;> omega)))) | (focus ((with_reducible refine Below.alloc ?_ ?_ _); rotate_left; (first | omega | (simp <;> omega)))) | exact Below.refl _ _ | assumption | refine Below.drew ?_ | refine Below.alloc ?_ (by first | omega | (simp <;> omega)) _ | refine Below.setCell ?_ (by first | omega | (simp <;> omega)) _))) (hb2.mono (by (first | omega | (simp <;> omega)))); have c4 := (hbw2.cell (p := ⟨w.heap.size + 1 + 1, 0, none⟩) l2).trans c2; have hz2 := hbw2.size)
          | (gi_at_call 24; refine (calls_round (AD.out _ (HRD.out.below (show Below W.heap.size W _ by (repeat (first | (with_reducible exact Below.refl _ _) | (with_reducible assumption) | (with_reducible refine Below.drew ?_) | (focus ((with_reducible refine Below.setCell ?_ ?_ _); rotate_left; (first | omega | (simp <;> omega)))) | (focus ((with_reducible refine Below.alloc ?_ ?_ _); rotate_left; (first | omega | (simp <;> omega)))) | exact Below.refl _ _ | assumption | refine Below.drew ?_ | refine Below.alloc ?_ (by first | omega | (simp <;> omega)) _ | refine Below.setCell ?_ (by first | omega | (simp <;> omega)) _)))))).mono ?_; rintro e w3 ⟨xv, hown, rfl, hb3⟩; have hbw3 := Below.trans (show Below W.heap.size W _ by (repeat (first | (with_reducible exact Below.refl _ _) | (with_reducible assumption) | (with_reducible refine Below.drew ?_) | (focus ((with_reducible refine Below.setCell ?_ ?_ _); rotate_left; (first | omega | (simp <;> omega)))) | (focus ((with_reducible refine Below.alloc ?_ ?_ _); rotate_left; (first | omega | (simp <;> omega)))) | exact Below.refl _ _ | assumption | refine Below.drew ?_ | refine Below.alloc ?_ (by first | omega | (simp <;> omega)) _ | refine Below.setCell ?_ (by first | omega | (simp <;> omega)) _))) (hb3.mono (by (first | omega | (simp <;> omega)))); have HX := Lib.hid hown.reads; obtain ⟨xao, xcap, rfl, _⟩ := hown.reads; clear hown; have d0 := (box_under HB0.out hbw3).cell; have e0 := (box_under HB0.out hbw3).frozen; have d1 := (box_under HB1.out hbw3).cell; have e1 := (box_under HB1.out hbw3).frozen; have d2 := (box_under HB2.out hbw3).cell; have e2 := (box_under HB2.out hbw3).frozen))
        all_goals
          gi_wp2
          exact ⟨((KeepsOthers.of_below hbw3).trans (KeepsOthers.setCell _ _ _)).trans (KeepsOthers.setCell _ _ _), ⟨rfl, 4, by rw [HM.out, HP1.out, HS.out]; rfl, by decide, box_unset (Boxed.set _ (box_under HB0.out hbw3)) _ (by omega), Boxed.set _ (box_unset (box_under HB1.out hbw3) _ (by omega))⟩, ((HB.out.trans (hbw3.mono (by omega))).setCell (p := ⟨w.heap.size, 0, none⟩) (Nat.le_refl _) _).setCell (p := ⟨w.heap.size + 1, 0, none⟩) (show w.heap.size ≤ w.heap.size + 1 by omega) _⟩
  case done =>
    rintro D ys W hD hS ⟨⟨out, v, hpa, b0, b1, b2, b3, hrd⟩, hB⟩ hK
    rw [hS] at hpa
    have HPA := Lib.hid hpa
    have HRD := Lib.hid hrd
    have HB0 := Lib.hid b0
    have HB1 := Lib.hid b1
    obtain ⟨ao, cap, rfl, _⟩ := hrd
    have c2 := b2.cell
    have d0 := b0.cell
    have e0 := b0.frozen
    have d1 := b1.cell
    have e1 := b1.frozen
    clear hpa b0 b1 b2 b3
    gi_wp2
    have hK' := ((KeepsOthers.setCell W ⟨w.heap.size, 0, none⟩ (.slice ao out.length cap)).trans (KeepsOthers.setCell _ ⟨w.heap.size + 1, 0, none⟩ (.int .i64 0))).same D _ hK rfl
    refine ⟨by simp, .inl ⟨_, _, rfl, run_takeDeferred hK', ?_⟩⟩
    have q0 := cell_kept (box_unset (Boxed.set (.slice ao out.length cap) HB0.out) (.int .i64 0) (show w.heap.size ≠ w.heap.size + 1 by omega)).cell (grownBy_putObj' _ D (.deferred none)) (fun r e => by cases e; exact ⟨_, hK', rfl⟩)
    have q1 := cell_kept (Boxed.set (.int .i64 0) (box_unset HB1.out (.slice ao out.length cap) (show w.heap.size + 1 ≠ w.heap.size by omega))).cell (grownBy_putObj' _ D (.deferred none)) (fun r e => by cases e; exact ⟨_, hK', rfl⟩)
    rw [HPA.out]
    refine ⟨.tuple #[.slice ao out.length cap, .int .i64 0], ?_, _, rfl, ?_, ?_⟩
    · simp [results, Tryd.f10, go_sem, q0, q1]
    · exact ((HRD.out.unset HB0.out (fun _ h => by cases h) _).unset (box_unset HB1.out _ (show w.heap.size + 1 ≠ w.heap.size by omega)) (fun _ h => by cases h) _).turn (grownBy_putObj' _ D (.deferred none)) (fun r e => by cases e; exact ⟨_, hK', rfl⟩)
    · exact ((hB.setCell (p := ⟨w.heap.size, 0, none⟩) (Nat.le_refl _) _).setCell (p := ⟨w.heap.size + 1, 0, none⟩) (show w.heap.size ≤ w.heap.size + 1 by omega) _).trans (belowK_b (w := w) (Nat.le_refl _) _ D _ _ (by omega) hK' rfl rfl)
  case stop =>
    rintro D c pre W hD hpre ⟨⟨rfl, e, hpa, hne, b0, b1⟩, hB⟩ hK
    obtain ⟨r, hr⟩ := hpre
    have HPA := Lib.hid (show parseH [] ((linesG 0 [] s).map Prod.fst) = ([], e) by rw [← hr, List.map_append, parseH_stop _ _ _ (by rw [hpa]; exact hne), hpa])
    clear hpa hr
    gi_wp2
    refine ⟨by simp, .inl ⟨_, _, rfl, run_takeDeferred hK, ?_⟩⟩
    rw [HPA.out]
    have q0 := cell_kept b0.cell (grownBy_putObj' _ D (.deferred none)) (fun r e => by cases e; exact ⟨_, hK, rfl⟩)
    have q1 := cell_kept b1.cell (grownBy_putObj' _ D (.deferred none)) (fun r e => by cases e; exact ⟨_, hK, rfl⟩)
    refine ⟨.tuple #[.slice none 0 0, .int .i64 e], ?_, _, rfl, ReadsF.nil _, hB.trans (belowK_b (w := w) (Nat.le_refl _) W D _ _ (by omega) hK rfl rfl)⟩
    simp [results, Tryd.f10, go_sem, q0, q1]

theorem headParse_c (s : List UInt8) (hs : s.length ≤ 4611686018427387903) (w : World) :
    Calls Tryd.prog 10 #[.string (S s)] w fun e w' => ∃ v, e = .returned (.tuple #[v, .int .i64 (headParse s).2]) ∧ ReadsF w' v (headParse s).1 ∧ Below w.heap.size w w' := by
  unfold headParse
  by_cases h1 : 4000 < s.length
  · rw [if_pos h1]
    exact (headParse_long s hs h1 w).mono fun e w' ⟨a, b⟩ => ⟨_, a, ReadsF.nil _, b⟩
  · rw [if_neg h1]
    by_cases h2 : s ≠ [] ∧ s.getLast? ≠ some 10
    · rw [if_pos h2]
      exact (headParse_end s (by omega) h2.1 h2.2 w).mono fun e w' ⟨a, b⟩ => ⟨_, a, ReadsF.nil _, b⟩
    · rw [if_neg h2]
      rcases headParse_test h2 with h | ⟨a, b, c⟩
      · exact headParse_empty s (by omega) (by simp [h]) w
      · exact headParse_some s (by omega) a b (by rw [show ((s.length : Int) - 1).toNat = s.length - 1 by omega]; exact b) c w
end Go.Proofs.YtpklbelhdfkjpaaDoor
