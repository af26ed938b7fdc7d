/- Languages: the closure that pairs.Languages hands to parts; pairs.Languages; the document's: the walks. -/
import Derived.Test.YtpapefegfghakaaDoorAgentMath
import Derived.Test.YtpapefegfghakaaDoorTextSame
namespace Go.Proofs.YtpapefegfghakaaDoor
open Go.RowKit Go.Sort Go.Shelf
set_option linter.unusedVariables false

def langN (p : List UInt8) : List UInt8 := lower (trim (cut1 p 59).1)
/-- One more part. -/
def langStep (out : List (List UInt8)) (p : List UInt8) : List (List UInt8) := if (langN p).isEmpty = true ∨ langN p ∈ out then out else out ++ [langN p]
def langsL (s : List UInt8) : List (List UInt8) := (Lib.split s [44]).foldl langStep []
theorem langStep_empty (out : List (List UInt8)) : langStep out [] = out := by
  unfold langStep
  rw [if_pos (.inl rfl)]
theorem foldl_some (L : List (List UInt8)) : ∀ out, (someL L).foldl langStep out = L.foldl langStep out := by
  induction L with
  | nil => intro out; rfl
  | cons p L ih =>
    intro out
    unfold someL
    cases he : p.isEmpty with
    | true =>
      rw [List.filter_cons_of_neg (by simp [he])]
      obtain rfl : p = [] := by simpa using he
      rw [List.foldl_cons, langStep_empty]
      exact ih out
    | false =>
      rw [List.filter_cons_of_pos (by simp [he]), List.foldl_cons, List.foldl_cons]
      exact ih _
theorem langStep_len (out : List (List UInt8)) (p : List UInt8) : (langStep out p).length ≤ out.length + 1 := by
  unfold langStep
  split
  · omega
  · simp
theorem langs_len (L : List (List UInt8)) : ∀ out : List (List UInt8), (L.foldl langStep out).length ≤ out.length + L.length := by
  induction L with
  | nil => intro out; simp
  | cons p L ih => intro out; rw [List.foldl_cons, List.length_cons]; have := ih (langStep out p); have := langStep_len out p; omega

/-- The box bx holds a row of these texts, its block base or later. -/
def TextBox (base bx : Nat) (L : List (List UInt8)) (W : World) : Prop := ∃ v, Boxed W bx 39 v ∧ Owns W base v L

theorem containsS_S {W : World} {B : Nat} {v : Value} {L : List (List UInt8)} (h : Owns W B v L) (x : List UInt8) {b : Bool} (hb : decide (x ∈ L) = b) : Calls Tryd.prog 38 #[v, .string (S x)] W fun e w' => e = .returned (.bool b) ∧ w' = W := by
  cases L with
  | nil =>
    obtain ⟨ao, cap, rfl, _⟩ := h.shape
    refine (Tryd.slices_Contains_string_empty ao cap (S x) W).mono fun e w' ⟨h1, h2⟩ => ⟨?_, h2⟩
    rw [h1, ← hb]; simp
  | cons a t =>
    obtain ⟨g, cap, rfl, hc1, hc2, hg, hcells⟩ := h.at 0 (by simp)
    refine (Tryd.slices_Contains_string g 0 (a :: t).length cap ((a :: t).map S) (S x) W (by simp) (by have : maxLen = 9223372036854775807 := rfl; omega) (fun j hj => ?_)).mono fun e w' ⟨h1, h2⟩ => ⟨?_, h2⟩
    · rw [List.length_map] at hj
      rw [Nat.zero_add, hcells j hj, List.getD_eq_getElem?_getD, List.getElem?_map, List.getElem?_eq_getElem hj]
      rfl
    · rw [h1, List.take_of_length_le (by simp), ← hb]
      refine ret_bool ?_
      rw [Bool.eq_iff_iff, Lib.containsS_iff, decide_eq_true_eq, List.mem_map]
      constructor
      · rintro ⟨y, hy, e⟩
        have : y = x := by have := congrArg (fun b : ByteArray => b.data.toList) e; simpa [S_data] using this
        exact this ▸ hy
      · exact fun h => ⟨x, h, rfl⟩

set_option maxHeartbeats 3200000 in
set_option maxRecDepth 100000 in
theorem langClo (bx base : Nat) (hbb : bx < base) (L : List (List UInt8)) (p : List UInt8) (hp : p.length ≤ 1000000) (w : World) (hbase : base ≤ w.heap.size) (h : TextBox base bx L w) (hl : L.length ≤ 1099511627776) :
    Calls Tryd.prog 36 #[.string (S p), .pointer (some ⟨bx, 0, none⟩)] w fun e w' => (∃ r, e = .returned r) ∧ TextBox base bx (langStep L p) w' ∧ Below bx w w' ∧ ∀ k, bx < k → k < base → w'.heap[k]? = w.heap[k]? := by
  obtain ⟨v, hbox, hown⟩ := h
  have hL : langStep L p = if (lower (trim (cut1 p 59).1)).isEmpty = true ∨ lower (trim (cut1 p 59).1) ∈ L then L else L ++ [lower (trim (cut1 p 59).1)] := rfl
  obtain ⟨K, hK⟩ : ∃ K, langStep L p = K := ⟨_, rfl⟩
  rw [hK] at hL ⊢
  obtain ⟨h1, h2⟩ := cut1_len p 59
  obtain ⟨⟨a, b, t⟩, hc⟩ : ∃ x, cut1 p 59 = x := ⟨_, rfl⟩
  rw [hc] at h1 h2 hL
  simp only at h1 h2 hL
  have CU := Lib.hid (fun W => cut1_S hc (by omega) W)
  have T1 := Lib.hid (fun W => textTrim a (by omega) W)
  have lt := trim_len a
  obtain ⟨ta, hta⟩ : ∃ x, trim a = x := ⟨_, rfl⟩
  rw [hta] at T1 hL lt
  have LO := Lib.hid (fun W => textLower ta (by omega) W)
  obtain ⟨n, hn⟩ : ∃ x, lower ta = x := ⟨_, rfl⟩
  rw [hn] at LO hL
  have HL0 := Lib.hid hL
  have HO := Lib.hid hown
  have HX := Lib.hid hbox
  have c0 := hbox.cell
  have f0 := hbox.frozen
  have l0 := hbox.lt
  have CN := Lib.hid (fun (W : World) (hb : Below w.heap.size w W) (b : Bool) (hb2 : decide (n ∈ L) = b) => containsS_S (hown.below hb) n hb2)
  obtain ⟨ao, cap, rfl, _⟩ := hown.shape
  clear hK hc hta hn hL hown hbox
  have hcase : n.isEmpty = true ∨ (n.isEmpty = false ∧ decide (n ∈ L) = true) ∨ (n.isEmpty = false ∧ decide (n ∈ L) = false) := by
    cases n.isEmpty
    · cases decide (n ∈ L)
      · exact .inr (.inr ⟨rfl, rfl⟩)
      · exact .inr (.inl ⟨rfl, rfl⟩)
    · exact .inl rfl
  rcases hcase with hne | ⟨hne, hmem⟩ | ⟨hne, hmem⟩
  · have HL := Lib.hid (show K = L by rw [HL0.out, if_pos (.inl hne)])
    go_enter Tryd.func36, Tryd.ntmps36
    go_wp2_with (first
      | (go_at_call 27; with_reducible refine Calls.mono (CU.out _) ?_; rintro e w1 ⟨rfl, hq1⟩; have hb1 := Below.trans (show Below w.heap.size w _ by (repeat (first | (with_reducible exact Below.refl _ _) | (with_reducible assumption) | (with_reducible refine Below.drew ?_) | (focus ((with_reducible refine Below.setCell ?_ ?_ _); rotate_left; (first | omega | (simp <;> omega)))) | (focus ((with_reducible refine Below.alloc ?_ ?_ _); rotate_left; (first | omega | (simp <;> omega)))) | exact Below.refl _ _ | assumption | refine Below.drew ?_ | refine Below.alloc ?_ (by first | omega | (simp <;> omega)) _ | refine Below.setCell ?_ (by first | omega | (simp <;> omega)) _))) (hq1.mono (by (first | omega | (simp <;> omega)))); have hz1 := hb1.size; have c1 := (hb1.cell (p := ⟨bx, 0, none⟩) l0).trans c0; have fr1 := far (show bx < w1.heap.size by omega))
      | (go_at_call 30; with_reducible refine Calls.mono (T1.out _) ?_; rintro e w2 ⟨rfl, hq2⟩; have hb2 := Below.trans (show Below w.heap.size w _ by (repeat (first | (with_reducible exact Below.refl _ _) | (with_reducible assumption) | (with_reducible refine Below.drew ?_) | (focus ((with_reducible refine Below.setCell ?_ ?_ _); rotate_left; (first | omega | (simp <;> omega)))) | (focus ((with_reducible refine Below.alloc ?_ ?_ _); rotate_left; (first | omega | (simp <;> omega)))) | exact Below.refl _ _ | assumption | refine Below.drew ?_ | refine Below.alloc ?_ (by first | omega | (simp <;> omega)) _ | refine Below.setCell ?_ (by first | omega | (simp <;> omega)) _))) (hq2.mono (by (first | omega | (simp <;> omega)))); have hz2 := hb2.size; have c2 := (hb2.cell (p := ⟨bx, 0, none⟩) l0).trans c0; have fr2 := far (show bx < w2.heap.size by omega))
      | (go_at_call 37; with_reducible refine Calls.mono (LO.out _) ?_; rintro e w3 ⟨rfl, hq3⟩; have hb3 := Below.trans (show Below w.heap.size w _ by (repeat (first | (with_reducible exact Below.refl _ _) | (with_reducible assumption) | (with_reducible refine Below.drew ?_) | (focus ((with_reducible refine Below.setCell ?_ ?_ _); rotate_left; (first | omega | (simp <;> omega)))) | (focus ((with_reducible refine Below.alloc ?_ ?_ _); rotate_left; (first | omega | (simp <;> omega)))) | exact Below.refl _ _ | assumption | refine Below.drew ?_ | refine Below.alloc ?_ (by first | omega | (simp <;> omega)) _ | refine Below.setCell ?_ (by first | omega | (simp <;> omega)) _))) (hq3.mono (by (first | omega | (simp <;> omega)))); have hz3 := hb3.size; have c3 := (hb3.cell (p := ⟨bx, 0, none⟩) l0).trans c0; have fr3 := far (show bx < w3.heap.size by omega))
      | fail)
    go_end0
    rw [HL.out]
    exact ⟨⟨_, rfl⟩, ⟨_, box_under HX.out hb3, HO.out.below hb3⟩, hb3.mono (by omega), fun k hk1 hk2 => hb3.block k (by omega)⟩
  · have HL := Lib.hid (show K = L by rw [HL0.out, if_pos (.inr (of_decide_eq_true hmem))])
    go_enter Tryd.func36, Tryd.ntmps36
    go_wp2_with (first
      | (go_at_call 27; with_reducible refine Calls.mono (CU.out _) ?_; rintro e w1 ⟨rfl, hq1⟩; have hb1 := Below.trans (show Below w.heap.size w _ by (repeat (first | (with_reducible exact Below.refl _ _) | (with_reducible assumption) | (with_reducible refine Below.drew ?_) | (focus ((with_reducible refine Below.setCell ?_ ?_ _); rotate_left; (first | omega | (simp <;> omega)))) | (focus ((with_reducible refine Below.alloc ?_ ?_ _); rotate_left; (first | omega | (simp <;> omega)))) | exact Below.refl _ _ | assumption | refine Below.drew ?_ | refine Below.alloc ?_ (by first | omega | (simp <;> omega)) _ | refine Below.setCell ?_ (by first | omega | (simp <;> omega)) _))) (hq1.mono (by (first | omega | (simp <;> omega)))); have hz1 := hb1.size; have c1 := (hb1.cell (p := ⟨bx, 0, none⟩) l0).trans c0; have fr1 := far (show bx < w1.heap.size by omega))
      | (go_at_call 30; with_reducible refine Calls.mono (T1.out _) ?_; rintro e w2 ⟨rfl, hq2⟩; have hb2 := Below.trans (show Below w.heap.size w _ by (repeat (first | (with_reducible exact Below.refl _ _) | (with_reducible assumption) | (with_reducible refine Below.drew ?_) | (focus ((with_reducible refine Below.setCell ?_ ?_ _); rotate_left; (first | omega | (simp <;> omega)))) | (focus ((with_reducible refine Below.alloc ?_ ?_ _); rotate_left; (first | omega | (simp <;> omega)))) | exact Below.refl _ _ | assumption | refine Below.drew ?_ | refine Below.alloc ?_ (by first | omega | (simp <;> omega)) _ | refine Below.setCell ?_ (by first | omega | (simp <;> omega)) _))) (hq2.mono (by (first | omega | (simp <;> omega)))); have hz2 := hb2.size; have c2 := (hb2.cell (p := ⟨bx, 0, none⟩) l0).trans c0; have fr2 := far (show bx < w2.heap.size by omega))
      | (go_at_call 37; with_reducible refine Calls.mono (LO.out _) ?_; rintro e w3 ⟨rfl, hq3⟩; have hb3 := Below.trans (show Below w.heap.size w _ by (repeat (first | (with_reducible exact Below.refl _ _) | (with_reducible assumption) | (with_reducible refine Below.drew ?_) | (focus ((with_reducible refine Below.setCell ?_ ?_ _); rotate_left; (first | omega | (simp <;> omega)))) | (focus ((with_reducible refine Below.alloc ?_ ?_ _); rotate_left; (first | omega | (simp <;> omega)))) | exact Below.refl _ _ | assumption | refine Below.drew ?_ | refine Below.alloc ?_ (by first | omega | (simp <;> omega)) _ | refine Below.setCell ?_ (by first | omega | (simp <;> omega)) _))) (hq3.mono (by (first | omega | (simp <;> omega)))); have hz3 := hb3.size; have c3 := (hb3.cell (p := ⟨bx, 0, none⟩) l0).trans c0; have fr3 := far (show bx < w3.heap.size by omega))
      | (go_at_call 38; refine Calls.mono (CN.out _ hb3 _ hmem) ?_; rintro e w' ⟨rfl, hw'⟩; obtain rfl := hw'.symm)
      | fail)
    go_end0
    rw [HL.out]
    exact ⟨⟨_, rfl⟩, ⟨_, box_under HX.out hb3, HO.out.below hb3⟩, hb3.mono (by omega), fun k hk1 hk2 => hb3.block k (by omega)⟩
  · have HL := Lib.hid (show K = L ++ [n] by rw [HL0.out, if_neg (by rw [hne]; simp; exact of_decide_eq_false hmem)])
    go_enter Tryd.func36, Tryd.ntmps36
    go_wp2_with (first
      | (go_at_call 27; with_reducible refine Calls.mono (CU.out _) ?_; rintro e w1 ⟨rfl, hq1⟩; have hb1 := Below.trans (show Below w.heap.size w _ by (repeat (first | (with_reducible exact Below.refl _ _) | (with_reducible assumption) | (with_reducible refine Below.drew ?_) | (focus ((with_reducible refine Below.setCell ?_ ?_ _); rotate_left; (first | omega | (simp <;> omega)))) | (focus ((with_reducible refine Below.alloc ?_ ?_ _); rotate_left; (first | omega | (simp <;> omega)))) | exact Below.refl _ _ | assumption | refine Below.drew ?_ | refine Below.alloc ?_ (by first | omega | (simp <;> omega)) _ | refine Below.setCell ?_ (by first | omega | (simp <;> omega)) _))) (hq1.mono (by (first | omega | (simp <;> omega)))); have hz1 := hb1.size; have c1 := (hb1.cell (p := ⟨bx, 0, none⟩) l0).trans c0; have fr1 := far (show bx < w1.heap.size by omega))
      | (go_at_call 30; with_reducible refine Calls.mono (T1.out _) ?_; rintro e w2 ⟨rfl, hq2⟩; have hb2 := Below.trans (show Below w.heap.size w _ by (repeat (first | (with_reducible exact Below.refl _ _) | (with_reducible assumption) | (with_reducible refine Below.drew ?_) | (focus ((with_reducible refine Below.setCell ?_ ?_ _); rotate_left; (first | omega | (simp <;> omega)))) | (focus ((with_reducible refine Below.alloc ?_ ?_ _); rotate_left; (first | omega | (simp <;> omega)))) | exact Below.refl _ _ | assumption | refine Below.drew ?_ | refine Below.alloc ?_ (by first | omega | (simp <;> omega)) _ | refine Below.setCell ?_ (by first | omega | (simp <;> omega)) _))) (hq2.mono (by (first | omega | (simp <;> omega)))); have hz2 := hb2.size; have c2 := (hb2.cell (p := ⟨bx, 0, none⟩) l0).trans c0; have fr2 := far (show bx < w2.heap.size by omega))
      | (go_at_call 37; with_reducible refine Calls.mono (LO.out _) ?_; rintro e w3 ⟨rfl, hq3⟩; have hb3 := Below.trans (show Below w.heap.size w _ by (repeat (first | (with_reducible exact Below.refl _ _) | (with_reducible assumption) | (with_reducible refine Below.drew ?_) | (focus ((with_reducible refine Below.setCell ?_ ?_ _); rotate_left; (first | omega | (simp <;> omega)))) | (focus ((with_reducible refine Below.alloc ?_ ?_ _); rotate_left; (first | omega | (simp <;> omega)))) | exact Below.refl _ _ | assumption | refine Below.drew ?_ | refine Below.alloc ?_ (by first | omega | (simp <;> omega)) _ | refine Below.setCell ?_ (by first | omega | (simp <;> omega)) _))) (hq3.mono (by (first | omega | (simp <;> omega)))); have hz3 := hb3.size; have c3 := (hb3.cell (p := ⟨bx, 0, none⟩) l0).trans c0; have f3 := (hb3.frozen (p := ⟨bx, 0, none⟩) l0).trans f0; have fr3 := far (show bx < w3.heap.size by omega))
      | (go_at_call 38; refine Calls.mono (CN.out _ hb3 _ hmem) ?_; rintro e w' ⟨rfl, hw'⟩; obtain rfl := hw'.symm)
      | (at_builtin; refine wp_append_text_at rfl _ _ rfl _ base _ L n (HO.out.below hb3) rfl _ rfl rfl (by omega) (by (first | omega | (simp <;> omega))) ?_; intro v6 w6 hown6 hb6 hk6; have HO6 := Lib.hid hown6; have hkb := hk6 bx (by omega) (fun e => by have := (World.ownsRow.lt HO.out bx e).1; omega); have B6 : Boxed w6 bx _ _ := hkb.1.trans (box_under HX.out hb3); have c6 := B6.cell; have f6 := B6.frozen; have HB6 := Lib.hid ((show Below base w _ from hb3.mono hbase).trans hb6); have HX6 := Lib.hid B6; obtain ⟨ao6, cap6, rfl, _⟩ := hown6.shape; clear hown6 hb6 hk6 hkb B6)
      | fail)
    go_end0
    have hown7 : Owns w6 base (.slice ao6 (L.length + 1) cap6) (L ++ [n]) := by simpa using HO6.out
    rw [HL.out]
    refine ⟨⟨_, rfl⟩, ⟨_, Boxed.set _ HX6.out, World.ownsRow.kept hown7 (grownBy_setCell' w6 bx _) (.inr fun e => by have := (World.ownsRow.lt hown7 bx e).1; omega)⟩, (HB6.out.mono (show bx ≤ base by omega)).setCell (p := ⟨bx, 0, none⟩) (Nat.le_refl bx) _, fun k hk1 hk2 => (Below.heap_setCell _ _ _ k (show k ≠ bx by omega)).trans (HB6.out.block k hk2)⟩

set_option maxHeartbeats 1600000 in
set_option maxRecDepth 100000 in
theorem pairsLanguages (s : List UInt8) (hs : s.length ≤ 1000000) (w : World) (hM : ∃ m, w.cell? ⟨0, 0, none⟩ = some (.int .i64 m)) :
    Calls Tryd.prog 19 #[.string (S s)] w fun e w' => ∃ v, e = .returned v ∧ Owns w' w.heap.size v (langsL s) ∧ Below w.heap.size w w' := by
  have hw0 : 0 < w.heap.size := by
    obtain ⟨m, hm⟩ := hM
    exact block_lt_of_cell hm
  have B0 := Boxed.new w 39 (.slice none 0 0)
  have hb0 : Below w.heap.size w (w.alloc (.cells #[.slice none 0 0] 39)) := by (repeat (first | (with_reducible exact Below.refl _ _) | (with_reducible assumption) | (with_reducible refine Below.drew ?_) | (focus ((with_reducible refine Below.setCell ?_ ?_ _); rotate_left; (first | omega | (simp <;> omega)))) | (focus ((with_reducible refine Below.alloc ?_ ?_ _); rotate_left; (first | omega | (simp <;> omega)))) | exact Below.refl _ _ | assumption | refine Below.drew ?_ | refine Below.alloc ?_ (by first | omega | (simp <;> omega)) _ | refine Below.setCell ?_ (by first | omega | (simp <;> omega)) _))
  have PP := Lib.hid (pairsParts 36 #[.pointer (some ⟨w.heap.size, 0, none⟩)] (enters_of Tryd.func36 (by kernel_rfl) rfl) s 44 hs (w.alloc (.cells #[.slice none 0 0] 39))
    (by obtain ⟨m, hm⟩ := hM; exact ⟨m, (hb0.cell (p := ⟨0, 0, none⟩) hw0).trans hm⟩)
    (fun pre W => TextBox (w.heap.size + 2) w.heap.size (pre.foldl langStep []) W ∧ Below w.heap.size w W)
    (fun W hb hlt => ⟨⟨_, box_under B0 hb, Owns.nil _ _⟩, hb0.trans (hb.mono (by simp))⟩)
    (fun pre p W hj hp hpl hpre hlt => by
      refine (langClo w.heap.size (w.heap.size + 2) (by omega) (pre.foldl langStep []) p (by omega) W (by rw [World.size_alloc] at hlt; omega) hj.1 (by have := langs_len pre []; simp only [List.length_nil] at this; omega)).mono ?_
      rintro e W' ⟨h1, h2, h3, h4⟩
      refine ⟨h1, ⟨by rw [List.foldl_append, List.foldl_cons, List.foldl_nil]; exact h2, hj.2.trans h3⟩, h3.size, ?_⟩
      exact h4 _ (by simp) (by simp)))
  clear B0 hb0 hM
  rw [show langsL s = (someL (Lib.split s [44])).foldl langStep [] from (foldl_some _ _).symm]
  obtain ⟨L, hL⟩ : ∃ L, (someL (Lib.split s [44])).foldl langStep [] = L := ⟨_, rfl⟩
  rw [hL] at PP ⊢
  clear hL
  go_enter Tryd.func19, Tryd.ntmps19
  go_wp2_with (go_at_call 25; refine Calls.mono PP.out ?_; rintro e w1 ⟨⟨r, rfl⟩, ⟨v, hbx, hown⟩, hB⟩; have HO := Lib.hid hown; have HB := Lib.hid hB; have c0 := hbx.cell; obtain ⟨ao, cap, rfl, _⟩ := hown.shape; clear hown hB hbx)
  go_ret
  have hfin : Owns w1 w.heap.size (.slice ao L.length cap) L := by
    obtain ⟨h1, h2⟩ := HO.out
    refine ⟨h1, ?_⟩
    rcases h2 with h2 | ⟨g, cap', cur, h3, h4, h5⟩
    · exact .inl h2
    · exact .inr ⟨g, cap', cur, h3, by omega, h5⟩
  exact ⟨.slice ao L.length cap, rfl, hfin, HB.out⟩
end Go.Proofs.YtpapefegfghakaaDoor
