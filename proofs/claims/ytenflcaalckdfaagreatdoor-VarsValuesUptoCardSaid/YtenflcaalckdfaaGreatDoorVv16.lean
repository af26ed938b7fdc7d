/- Languages: the closure that pairs.Languages hands to parts; pairs.Languages; the document's: the walks. Variables in plain words: a variable's value, the reference that a text begins with, a text with its references' values. -/
import Derived.Test.YtenflcaalckdfaaGreatDoorVv15
import Derived.Test.YtenflcaalckdfaaGreatDoorVv13
import Derived.Test.YtenflcaalckdfaaGreatDoorVv14
namespace Go.Proofs.YtenflcaalckdfaaGreatDoor
open Go.RowKit Go.Sort Go.Shelf
set_option linter.unusedVariables false

def langN (p : List UInt8) : List UInt8 := lower (trim (cut1 p 59).1)
def langStep (out : List (List UInt8)) (p : List UInt8) : List (List UInt8) := if (langN p).isEmpty = true ∨ langN p ∈ out then out else out ++ [langN p]
def langsL (s : List UInt8) : List (List UInt8) := (Lib.split s [44]).foldl langStep []
theorem langStep_empty (out : List (List UInt8)) : langStep out [] = out := by
  unfold langStep
  rw [if_pos (.inl rfl)]
theorem foldl_some (L : List (List UInt8)) : ∀ out, (someL L).foldl langStep out = L.foldl langStep out := by
  induction L with
  | nil => intro out; rfl
  | cons p L ih =>
    intro out
    unfold someL
    cases he : p.isEmpty with
    | true =>
      rw [List.filter_cons_of_neg (by simp [he])]
      obtain rfl : p = [] := by simpa using he
      rw [List.foldl_cons, langStep_empty]
      exact ih out
    | false =>
      rw [List.filter_cons_of_pos (by simp [he]), List.foldl_cons, List.foldl_cons]
      exact ih _
theorem langStep_len (out : List (List UInt8)) (p : List UInt8) : (langStep out p).length ≤ out.length + 1 := by
  unfold langStep
  split
  · omega
  · simp
theorem langs_len (L : List (List UInt8)) : ∀ out : List (List UInt8), (L.foldl langStep out).length ≤ out.length + L.length := by
  induction L with
  | nil => intro out; simp
  | cons p L ih => intro out; rw [List.foldl_cons, List.length_cons]; have := ih (langStep out p); have := langStep_len out p; omega

def TextBox (base bx : Nat) (L : List (List UInt8)) (W : World) : Prop := ∃ v, Boxed W bx 68 v ∧ Owns W base v L

theorem containsS_S {W : World} {B : Nat} {v : Value} {L : List (List UInt8)} (h : Owns W B v L) (x : List UInt8) {b : Bool} (hb : decide (x ∈ L) = b) : Calls Tryz.prog 67 #[v, .string (S x)] W fun e w' => e = .returned (.bool b) ∧ w' = W := by
  cases L with
  | nil =>
    obtain ⟨ao, cap, rfl, _⟩ := h.shape
    refine (Tryz.slices_Contains_string_empty ao cap (S x) W).mono fun e w' ⟨h1, h2⟩ => ⟨?_, h2⟩
    rw [h1, ← hb]; simp
  | cons a t =>
    obtain ⟨g, cap, rfl, hc1, hc2, hg, hcells⟩ := h.at 0 (by simp)
    refine (Tryz.slices_Contains_string g 0 (a :: t).length cap ((a :: t).map S) (S x) W (by simp) (by have : maxLen = 9223372036854775807 := rfl; omega) (fun j hj => ?_)).mono fun e w' ⟨h1, h2⟩ => ⟨?_, h2⟩
    · rw [List.length_map] at hj
      rw [Nat.zero_add, hcells j hj, List.getD_eq_getElem?_getD, List.getElem?_map, List.getElem?_eq_getElem hj]
      rfl
    · rw [h1, List.take_of_length_le (by simp), ← hb]
      refine ret_bool ?_
      rw [Bool.eq_iff_iff, Lib.containsS_iff, decide_eq_true_eq, List.mem_map]
      constructor
      · rintro ⟨y, hy, e⟩
        have : y = x := by have := congrArg (fun b : ByteArray => b.data.toList) e; simpa [S_data] using this
        exact this ▸ hy
      · exact fun h => ⟨x, h, rfl⟩

set_option maxHeartbeats 3200000 in
set_option maxRecDepth 100000 in
theorem langClo (bx base : Nat) (hbb : bx < base) (L : List (List UInt8)) (p : List UInt8) (hp : p.length ≤ 1000000) (w : World) (hbase : base ≤ w.heap.size) (h : TextBox base bx L w) (hl : L.length ≤ 1099511627776) :
    Calls Tryz.prog 105 #[.string (S p), .pointer (some ⟨bx, 0, none⟩)] w fun e w' => (∃ r, e = .returned r) ∧ TextBox base bx (langStep L p) w' ∧ Below bx w w' ∧ ∀ k, bx < k → k < base → w'.heap[k]? = w.heap[k]? := by
  obtain ⟨v, hbox, hown⟩ := h
  have hL : langStep L p = if (lower (trim (cut1 p 59).1)).isEmpty = true ∨ lower (trim (cut1 p 59).1) ∈ L then L else L ++ [lower (trim (cut1 p 59).1)] := rfl
  obtain ⟨K, hK⟩ : ∃ K, langStep L p = K := ⟨_, rfl⟩
  rw [hK] at hL ⊢
  obtain ⟨h1, h2⟩ := cut1_len p 59
  obtain ⟨⟨a, b, t⟩, hc⟩ : ∃ x, cut1 p 59 = x := ⟨_, rfl⟩
  rw [hc] at h1 h2 hL
  simp only at h1 h2 hL
  have CU := Lib.hid (fun W => cut1_S hc (by omega) W)
  have T1 := Lib.hid (fun W => textTrim a (by omega) W)
  have lt := trim_len a
  obtain ⟨ta, hta⟩ : ∃ x, trim a = x := ⟨_, rfl⟩
  rw [hta] at T1 hL lt
  have LO := Lib.hid (fun W => textLower ta (by omega) W)
  obtain ⟨n, hn⟩ : ∃ x, lower ta = x := ⟨_, rfl⟩
  rw [hn] at LO hL
  have HL0 := Lib.hid hL
  have HO := Lib.hid hown
  have HX := Lib.hid hbox
  have c0 := hbox.cell
  have f0 := hbox.frozen
  have l0 := hbox.lt
  have CN := Lib.hid (fun (W : World) (hb : Below w.heap.size w W) (b : Bool) (hb2 : decide (n ∈ L) = b) => containsS_S (hown.below hb) n hb2)
  obtain ⟨ao, cap, rfl, _⟩ := hown.shape
  clear hK hc hta hn hL hown hbox
  have hcase : n.isEmpty = true ∨ (n.isEmpty = false ∧ decide (n ∈ L) = true) ∨ (n.isEmpty = false ∧ decide (n ∈ L) = false) := by
    cases n.isEmpty
    · cases decide (n ∈ L)
      · exact .inr (.inr ⟨rfl, rfl⟩)
      · exact .inr (.inl ⟨rfl, rfl⟩)
    · exact .inl rfl
  rcases hcase with hne | ⟨hne, hmem⟩ | ⟨hne, hmem⟩
  · have HL := Lib.hid (show K = L by rw [HL0.out, if_pos (.inl hne)])
    go_enter Tryz.func105, Tryz.ntmps105
    go_wp2_with (first
      | (go_at_call 25; with_reducible refine Calls.mono (CU.out _) ?_; rintro e w1 ⟨rfl, hq1⟩; have hb1 := Below.trans (show Below w.heap.size w _ by (repeat (first | with_reducible exact Below.refl _ _ | with_reducible assumption | with_reducible refine Below.drew ?_ | (with_reducible refine Below.setCell ?_ ?_ _; rotate_left; (first | omega | (simp <;> omega))) | (with_reducible refine Below.alloc ?_ ?_ _; rotate_left; (first | omega | (simp <;> omega))) | exact Below.refl _ _ | assumption))) (hq1.mono (by (first | omega | (simp <;> omega)))); have hz1 := hb1.size; have c1 := (hb1.cell (p := ⟨bx, 0, none⟩) l0).trans c0; have fr1 := far (show bx < w1.heap.size by omega))
      | (go_at_call 100; with_reducible refine Calls.mono (T1.out _) ?_; rintro e w2 ⟨rfl, hq2⟩; have hb2 := Below.trans (show Below w.heap.size w _ by (repeat (first | with_reducible exact Below.refl _ _ | with_reducible assumption | with_reducible refine Below.drew ?_ | (with_reducible refine Below.setCell ?_ ?_ _; rotate_left; (first | omega | (simp <;> omega))) | (with_reducible refine Below.alloc ?_ ?_ _; rotate_left; (first | omega | (simp <;> omega))) | exact Below.refl _ _ | assumption))) (hq2.mono (by (first | omega | (simp <;> omega)))); have hz2 := hb2.size; have c2 := (hb2.cell (p := ⟨bx, 0, none⟩) l0).trans c0; have fr2 := far (show bx < w2.heap.size by omega))
      | (go_at_call 69; with_reducible refine Calls.mono (LO.out _) ?_; rintro e w3 ⟨rfl, hq3⟩; have hb3 := Below.trans (show Below w.heap.size w _ by (repeat (first | with_reducible exact Below.refl _ _ | with_reducible assumption | with_reducible refine Below.drew ?_ | (with_reducible refine Below.setCell ?_ ?_ _; rotate_left; (first | omega | (simp <;> omega))) | (with_reducible refine Below.alloc ?_ ?_ _; rotate_left; (first | omega | (simp <;> omega))) | exact Below.refl _ _ | assumption))) (hq3.mono (by (first | omega | (simp <;> omega)))); have hz3 := hb3.size; have c3 := (hb3.cell (p := ⟨bx, 0, none⟩) l0).trans c0; have fr3 := far (show bx < w3.heap.size by omega))
      | fail)
    go_end0
    rw [HL.out]
    exact ⟨⟨_, rfl⟩, ⟨_, box_under HX.out hb3, HO.out.below hb3⟩, hb3.mono (by omega), fun k hk1 hk2 => hb3.block k (by omega)⟩
  · have HL := Lib.hid (show K = L by rw [HL0.out, if_pos (.inr (of_decide_eq_true hmem))])
    go_enter Tryz.func105, Tryz.ntmps105
    go_wp2_with (first
      | (go_at_call 25; with_reducible refine Calls.mono (CU.out _) ?_; rintro e w1 ⟨rfl, hq1⟩; have hb1 := Below.trans (show Below w.heap.size w _ by (repeat (first | with_reducible exact Below.refl _ _ | with_reducible assumption | with_reducible refine Below.drew ?_ | (with_reducible refine Below.setCell ?_ ?_ _; rotate_left; (first | omega | (simp <;> omega))) | (with_reducible refine Below.alloc ?_ ?_ _; rotate_left; (first | omega | (simp <;> omega))) | exact Below.refl _ _ | assumption))) (hq1.mono (by (first | omega | (simp <;> omega)))); have hz1 := hb1.size; have c1 := (hb1.cell (p := ⟨bx, 0, none⟩) l0).trans c0; have fr1 := far (show bx < w1.heap.size by omega))
      | (go_at_call 100; with_reducible refine Calls.mono (T1.out _) ?_; rintro e w2 ⟨rfl, hq2⟩; have hb2 := Below.trans (show Below w.heap.size w _ by (repeat (first | with_reducible exact Below.refl _ _ | with_reducible assumption | with_reducible refine Below.drew ?_ | (with_reducible refine Below.setCell ?_ ?_ _; rotate_left; (first | omega | (simp <;> omega))) | (with_reducible refine Below.alloc ?_ ?_ _; rotate_left; (first | omega | (simp <;> omega))) | exact Below.refl _ _ | assumption))) (hq2.mono (by (first | omega | (simp <;> omega)))); have hz2 := hb2.size; have c2 := (hb2.cell (p := ⟨bx, 0, none⟩) l0).trans c0; have fr2 := far (show bx < w2.heap.size by omega))
      | (go_at_call 69; with_reducible refine Calls.mono (LO.out _) ?_; rintro e w3 ⟨rfl, hq3⟩; have hb3 := Below.trans (show Below w.heap.size w _ by (repeat (first | with_reducible exact Below.refl _ _ | with_reducible assumption | with_reducible refine Below.drew ?_ | (with_reducible refine Below.setCell ?_ ?_ _; rotate_left; (first | omega | (simp <;> omega))) | (with_reducible refine Below.alloc ?_ ?_ _; rotate_left; (first | omega | (simp <;> omega))) | exact Below.refl _ _ | assumption))) (hq3.mono (by (first | omega | (simp <;> omega)))); have hz3 := hb3.size; have c3 := (hb3.cell (p := ⟨bx, 0, none⟩) l0).trans c0; have fr3 := far (show bx < w3.heap.size by omega))
      | (go_at_call 67; refine Calls.mono (CN.out _ hb3 _ hmem) ?_; rintro e w' ⟨rfl, hw'⟩; obtain rfl := hw'.symm)
      | fail)
    go_end0
    rw [HL.out]
    exact ⟨⟨_, rfl⟩, ⟨_, box_under HX.out hb3, HO.out.below hb3⟩, hb3.mono (by omega), fun k hk1 hk2 => hb3.block k (by omega)⟩
  · have HL := Lib.hid (show K = L ++ [n] by rw [HL0.out, if_neg (by rw [hne]; simp; exact of_decide_eq_false hmem)])
    go_enter Tryz.func105, Tryz.ntmps105
    go_wp2_with (first
      | (go_at_call 25; with_reducible refine Calls.mono (CU.out _) ?_; rintro e w1 ⟨rfl, hq1⟩; have hb1 := Below.trans (show Below w.heap.size w _ by (repeat (first | with_reducible exact Below.refl _ _ | with_reducible assumption | with_reducible refine Below.drew ?_ | (with_reducible refine Below.setCell ?_ ?_ _; rotate_left; (first | omega | (simp <;> omega))) | (with_reducible refine Below.alloc ?_ ?_ _; rotate_left; (first | omega | (simp <;> omega))) | exact Below.refl _ _ | assumption))) (hq1.mono (by (first | omega | (simp <;> omega)))); have hz1 := hb1.size; have c1 := (hb1.cell (p := ⟨bx, 0, none⟩) l0).trans c0; have fr1 := far (show bx < w1.heap.size by omega))
      | (go_at_call 100; with_reducible refine Calls.mono (T1.out _) ?_; rintro e w2 ⟨rfl, hq2⟩; have hb2 := Below.trans (show Below w.heap.size w _ by (repeat (first | with_reducible exact Below.refl _ _ | with_reducible assumption | with_reducible refine Below.drew ?_ | (with_reducible refine Below.setCell ?_ ?_ _; rotate_left; (first | omega | (simp <;> omega))) | (with_reducible refine Below.alloc ?_ ?_ _; rotate_left; (first | omega | (simp <;> omega))) | exact Below.refl _ _ | assumption))) (hq2.mono (by (first | omega | (simp <;> omega)))); have hz2 := hb2.size; have c2 := (hb2.cell (p := ⟨bx, 0, none⟩) l0).trans c0; have fr2 := far (show bx < w2.heap.size by omega))
      | (go_at_call 69; with_reducible refine Calls.mono (LO.out _) ?_; rintro e w3 ⟨rfl, hq3⟩; have hb3 := Below.trans (show Below w.heap.size w _ by (repeat (first | with_reducible exact Below.refl _ _ | with_reducible assumption | with_reducible refine Below.drew ?_ | (with_reducible refine Below.setCell ?_ ?_ _; rotate_left; (first | omega | (simp <;> omega))) | (with_reducible refine Below.alloc ?_ ?_ _; rotate_left; (first | omega | (simp <;> omega))) | exact Below.refl _ _ | assumption))) (hq3.mono (by (first | omega | (simp <;> omega)))); have hz3 := hb3.size; have c3 := (hb3.cell (p := ⟨bx, 0, none⟩) l0).trans c0; have f3 := (hb3.frozen (p := ⟨bx, 0, none⟩) l0).trans f0; have fr3 := far (show bx < w3.heap.size by omega))
      | (go_at_call 67; refine Calls.mono (CN.out _ hb3 _ hmem) ?_; rintro e w' ⟨rfl, hw'⟩; obtain rfl := hw'.symm)
      | (at_builtin; refine wp_append_text_at rfl _ _ rfl _ base _ L n (HO.out.below hb3) rfl _ rfl rfl (by omega) (by (first | omega | (simp <;> omega))) ?_; intro v6 w6 hown6 hb6 hk6; have HO6 := Lib.hid hown6; have hkb := hk6 bx (by omega) (fun e => by have := (World.ownsRow.lt HO.out bx e).1; omega); have B6 : Boxed w6 bx _ _ := hkb.1.trans (box_under HX.out hb3); have c6 := B6.cell; have f6 := B6.frozen; have HB6 := Lib.hid ((show Below base w _ from hb3.mono hbase).trans hb6); have HX6 := Lib.hid B6; obtain ⟨ao6, cap6, rfl, _⟩ := hown6.shape; clear hown6 hb6 hk6 hkb B6)
      | fail)
    go_end0
    have hown7 : Owns w6 base (.slice ao6 (L.length + 1) cap6) (L ++ [n]) := by simpa using HO6.out
    rw [HL.out]
    refine ⟨⟨_, rfl⟩, ⟨_, Boxed.set _ HX6.out, World.ownsRow.kept hown7 (grownBy_setCell' w6 bx _) (.inr fun e => by have := (World.ownsRow.lt hown7 bx e).1; omega)⟩, (HB6.out.mono (show bx ≤ base by omega)).setCell (p := ⟨bx, 0, none⟩) (Nat.le_refl bx) _, fun k hk1 hk2 => (Below.heap_setCell _ _ _ k (show k ≠ bx by omega)).trans (HB6.out.block k hk2)⟩

set_option maxHeartbeats 1600000 in
set_option maxRecDepth 100000 in
theorem pairsLanguages (s : List UInt8) (hs : s.length ≤ 1000000) (w : World) (hM : ∃ m, w.cell? ⟨0, 0, none⟩ = some (.int .i64 m)) :
    Calls Tryz.prog 68 #[.string (S s)] w fun e w' => ∃ v, e = .returned v ∧ Owns w' w.heap.size v (langsL s) ∧ Below w.heap.size w w' := by
  have hw0 : 0 < w.heap.size := by
    obtain ⟨m, hm⟩ := hM
    exact block_lt_of_cell hm
  have B0 := Boxed.new w 68 (.slice none 0 0)
  have hb0 : Below w.heap.size w (w.alloc (.cells #[.slice none 0 0] 68)) := by (repeat (first | with_reducible exact Below.refl _ _ | with_reducible assumption | with_reducible refine Below.drew ?_ | (with_reducible refine Below.setCell ?_ ?_ _; rotate_left; (first | omega | (simp <;> omega))) | (with_reducible refine Below.alloc ?_ ?_ _; rotate_left; (first | omega | (simp <;> omega))) | exact Below.refl _ _ | assumption))
  have PP := Lib.hid (pairsParts 105 #[.pointer (some ⟨w.heap.size, 0, none⟩)] (enters_of Tryz.func105 (by kernel_rfl) rfl) s 44 hs (w.alloc (.cells #[.slice none 0 0] 68))
    (by obtain ⟨m, hm⟩ := hM; exact ⟨m, (hb0.cell (p := ⟨0, 0, none⟩) hw0).trans hm⟩)
    (fun pre W => TextBox (w.heap.size + 2) w.heap.size (pre.foldl langStep []) W ∧ Below w.heap.size w W)
    (fun W hb hlt => ⟨⟨_, box_under B0 hb, Owns.nil _ _⟩, hb0.trans (hb.mono (by simp))⟩)
    (fun pre p W hj hp hpl hpre hlt => by
      refine (langClo w.heap.size (w.heap.size + 2) (by omega) (pre.foldl langStep []) p (by omega) W (by rw [World.size_alloc] at hlt; omega) hj.1 (by have := langs_len pre []; simp only [List.length_nil] at this; omega)).mono ?_
      rintro e W' ⟨h1, h2, h3, h4⟩
      refine ⟨h1, ⟨by rw [List.foldl_append, List.foldl_cons, List.foldl_nil]; exact h2, hj.2.trans h3⟩, h3.size, ?_⟩
      exact h4 _ (by simp) (by simp)))
  clear B0 hb0 hM
  rw [show langsL s = (someL (Lib.split s [44])).foldl langStep [] from (foldl_some _ _).symm]
  obtain ⟨L, hL⟩ : ∃ L, (someL (Lib.split s [44])).foldl langStep [] = L := ⟨_, rfl⟩
  rw [hL] at PP ⊢
  clear hL
  go_enter Tryz.func68, Tryz.ntmps68
  go_wp2_with (go_at_call 98; refine Calls.mono PP.out ?_; rintro e w1 ⟨⟨r, rfl⟩, ⟨v, hbx, hown⟩, hB⟩; have HO := Lib.hid hown; have HB := Lib.hid hB; have c0 := hbx.cell; obtain ⟨ao, cap, rfl, _⟩ := hown.shape; clear hown hB hbx)
  go_ret
  have hfin : Owns w1 w.heap.size (.slice ao L.length cap) L := by
    obtain ⟨h1, h2⟩ := HO.out
    refine ⟨h1, ?_⟩
    rcases h2 with h2 | ⟨g, cap', cur, h3, h4, h5⟩
    · exact .inl h2
    · exact .inr ⟨g, cap', cur, h3, by omega, h5⟩
  exact ⟨.slice ao L.length cap, rfl, hfin, HB.out⟩
end Go.Proofs.YtenflcaalckdfaaGreatDoor
namespace Go.Proofs.YtenflcaalckdfaaGreatDoor
open Go.RowKit Go.Sort Go.Shelf
set_option linter.unusedVariables false

structure En where
  host : List UInt8
  ref : List UInt8
  agent : List UInt8
  cookie : List UInt8
  lang : List UInt8
  query : List UInt8
abbrev En.v (e : En) : Value := .agg #[.string (S e.host), .string (S e.ref), .string (S e.agent), .string (S e.cookie), .string (S e.lang), .string (S e.query)]
def En.few (e : En) : Prop := e.host.length ≤ 300 ∧ e.ref.length ≤ 300 ∧ e.agent.length ≤ 300 ∧ e.cookie.length ≤ 300 ∧ e.lang.length ≤ 300 ∧ e.query.length ≤ 300
def hostN : List UInt8 := [72, 84, 84, 80, 95, 72, 79, 83, 84]
def refN : List UInt8 := [72, 84, 84, 80, 95, 82, 69, 70, 69, 82, 69, 82]
def agentN : List UInt8 := [72, 84, 84, 80, 95, 85, 83, 69, 82, 95, 65, 71, 69, 78, 84]
def cookieN : List UInt8 := [72, 84, 84, 80, 95, 67, 79, 79, 75, 73, 69]
def queryN : List UInt8 := [81, 85, 69, 82, 89, 95, 83, 84, 82, 73, 78, 71]
def langN' : List UInt8 := [72, 84, 84, 80, 95, 65, 67, 67, 69, 80, 84, 95, 76, 65, 78, 71, 85, 65, 71, 69]
def someV (s : List UInt8) : List UInt8 × Bool := (s, !s.isEmpty)
def onlyV (s key : List UInt8) : List UInt8 × Bool := if key.isEmpty then someV s else ([], false)
def keyedV (s key : List UInt8) (kv : List UInt8 × Bool) : List UInt8 × Bool := if key.isEmpty then someV s else kv
def agentK (s key : List UInt8) : List UInt8 :=
  if key = [98, 114, 111, 119, 115, 101, 114] then (agentB s).1 else if key = [118, 101, 114, 115, 105, 111, 110] then (agentB s).2 else if key = [111, 115] then agentS s else []
def langV (s key : List UInt8) : List UInt8 × Bool := if lower key ∈ langsL s then ([116, 114, 117, 101], true) else ([102, 97, 108, 115, 101], true)
def valV (e : En) (name key : List UInt8) : List UInt8 × Bool :=
  if name = hostN then onlyV e.host key else if name = refN then onlyV e.ref key else if name = agentN then keyedV e.agent key (someV (agentK e.agent key))
  else if name = cookieN then keyedV e.cookie key (findV (cookiesL e.cookie) key) else if name = queryN then keyedV e.query key (findV (queryL e.query) key)
  else if name = langN' then keyedV e.lang key (langV e.lang key) else ([], false)

def letterB (c : UInt8) : Bool := (decide (65 ≤ c.toNat) && decide (c.toNat ≤ 90)) || decide (c.toNat = 95)
def notIn (bad : List UInt8) (c : UInt8) : Bool := decide (Lib.indexByte bad c < 0)
def badK : List UInt8 := [125, 41, 124, 39, 10, 13]
def badO : List UInt8 := [39, 41, 124, 10, 13]
def keyP (r : List UInt8) : Option (List UInt8 × List UInt8) :=
  if Lib.hasPrefix r [123] then
    (if ((r.drop 1).takeWhile (notIn badK)).isEmpty || !Lib.hasPrefix (r.drop (1 + ((r.drop 1).takeWhile (notIn badK)).length)) [125] then none
     else some ((r.drop 1).takeWhile (notIn badK), r.drop (2 + ((r.drop 1).takeWhile (notIn badK)).length)))
  else some ([], r)
def otherP (r : List UInt8) : Option (List UInt8 × List UInt8) :=
  if Lib.hasPrefix r [124, 39] then (if (cut1 (r.drop 2) 39).2.2 then some ((cut1 (r.drop 2) 39).1, (cut1 (r.drop 2) 39).2.1) else none)
  else if Lib.hasPrefix r [124] then some ((r.drop 1).takeWhile (notIn badO), r.drop (1 + ((r.drop 1).takeWhile (notIn badO)).length))
  else some ([], r)
def refP (s : List UInt8) : Option (List UInt8 × List UInt8 × List UInt8 × List UInt8) :=
  if Lib.hasPrefix s [36, 40] && !((s.drop 2).takeWhile letterB).isEmpty then
    (keyP ((s.drop 2).drop ((s.drop 2).takeWhile letterB).length)).bind fun k => (otherP k.2).bind fun o => if Lib.hasPrefix o.2 [41] then some ((s.drop 2).takeWhile letterB, k.1, o.1, o.2) else none
  else none
def refV (e : En) (s : List UInt8) : List UInt8 × Nat :=
  match refP s with
  | none => ([], 0)
  | some (name, key, other, rest) => ((if (valV e name key).2 then (valV e name key).1 else other), s.length - rest.length + 1)

theorem takeWhile_len (p : UInt8 → Bool) (l : List UInt8) : (l.takeWhile p).length ≤ l.length := (List.takeWhile_prefix p).length_le
theorem keyP_len {r k t : List UInt8} (h : keyP r = some (k, t)) : t.length + k.length ≤ r.length ∧ k.length ≤ r.length := by
  unfold keyP at h
  split at h
  · split at h
    · cases h
    · obtain ⟨rfl, rfl⟩ := Prod.mk.inj (Option.some.inj h)
      have := takeWhile_len (notIn badK) (r.drop 1)
      rename_i h1 h2
      have h3 : 0 < r.length := by
        cases r with
        | nil => simp [Lib.hasPrefix, List.isPrefixOf] at h1
        | cons a b => simp
      simp only [List.length_drop] at this ⊢
      omega
  · obtain ⟨rfl, rfl⟩ := Prod.mk.inj (Option.some.inj h)
    simp
theorem cut1_rest (l : List UInt8) (c : UInt8) : (cut1 l c).2.1.length ≤ l.length ∧ (cut1 l c).1.length ≤ l.length ∧ ((cut1 l c).2.2 = true → (cut1 l c).1.length + (cut1 l c).2.1.length + 1 ≤ l.length) := by
  unfold cut1
  split
  · rename_i h
    obtain ⟨o, ho⟩ : ∃ o : Nat, Lib.indexByte l c = o := ⟨(Lib.indexByte l c).toNat, by omega⟩
    have := (Lib.indexByte_some ho).1
    have hlt : o < l.length := by
      rcases Nat.lt_or_ge o l.length with h' | h'
      · exact h'
      · rw [List.getElem?_eq_none h'] at this; cases this
    rw [ho]
    simp only [Int.toNat_natCast, List.length_take, List.length_drop]
    refine ⟨by omega, by omega, fun _ => by omega⟩
  · simp
theorem otherP_len {r o t : List UInt8} (h : otherP r = some (o, t)) : t.length + o.length ≤ r.length := by
  unfold otherP at h
  split at h
  · split at h
    · obtain ⟨rfl, rfl⟩ := Prod.mk.inj (Option.some.inj h)
      rename_i h2
      have := (cut1_rest (r.drop 2) 39).2.2 h2
      simp only [List.length_drop] at this
      omega
    · cases h
  · split at h
    · obtain ⟨rfl, rfl⟩ := Prod.mk.inj (Option.some.inj h)
      have := takeWhile_len (notIn badO) (r.drop 1)
      rename_i h1
      have h3 : 0 < r.length := by
        cases r with
        | nil => simp [Lib.hasPrefix, List.isPrefixOf] at h1
        | cons a b => simp
      simp only [List.length_drop] at this ⊢
      omega
    · obtain ⟨rfl, rfl⟩ := Prod.mk.inj (Option.some.inj h)
      simp
theorem refP_len {s name key other rest : List UInt8} (h : refP s = some (name, key, other, rest)) : 0 < name.length ∧ 0 < rest.length ∧ 2 + name.length + key.length + other.length + rest.length ≤ s.length := by
  unfold refP at h
  split at h
  · rename_i hc
    rw [Bool.and_eq_true] at hc
    have hs : 2 ≤ s.length := by
      match s, hc.1 with
      | [], h => simp [Lib.hasPrefix, List.isPrefixOf] at h
      | [a], h => simp [Lib.hasPrefix, List.isPrefixOf] at h
      | a :: b :: r, _ => simp
    rw [Option.bind_eq_some_iff] at h
    obtain ⟨⟨k, t⟩, h1, h⟩ := h
    rw [Option.bind_eq_some_iff] at h
    obtain ⟨⟨o, u⟩, h2, h⟩ := h
    split at h
    · rename_i h3
      simp only [Option.some.injEq, Prod.mk.injEq] at h
      obtain ⟨rfl, rfl, rfl, rfl⟩ := h
      have a1 := keyP_len h1
      have a2 := otherP_len h2
      have a3 := takeWhile_len letterB (s.drop 2)
      have a4 : 0 < ((s.drop 2).takeWhile letterB).length := by
        have := hc.2
        cases hh : (s.drop 2).takeWhile letterB with
        | nil => rw [hh] at this; simp at this
        | cons a b => simp
      have a5 : 0 < u.length := by
        cases u with
        | nil => simp [Lib.hasPrefix, List.isPrefixOf] at h3
        | cons a b => simp
      simp only [List.length_drop] at a1 a3
      refine ⟨a4, a5, ?_⟩
      simp only at a2
      omega
    · cases h
  · cases h
theorem refV_len (e : En) (s : List UInt8) : (refV e s).2 ≤ s.length ∧ ((refV e s).2 = 0 ↔ refP s = none) := by
  unfold refV
  cases h : refP s with
  | none => simp
  | some x =>
    obtain ⟨n, k, o, r⟩ := x
    have := refP_len h
    refine ⟨by simp only; omega, ⟨fun h => by simp only at h; omega, fun h => by cases h⟩⟩

def subF (e : En) : Nat → List UInt8 → List UInt8
  | 0, _ => []
  | _ + 1, [] => []
  | n + 1, c :: t => if (refV e (c :: t)).2 = 0 then c :: subF e n t else (refV e (c :: t)).1 ++ subF e n ((c :: t).drop (refV e (c :: t)).2)
def subV (e : En) (s : List UInt8) : List UInt8 := subF e s.length s
theorem subF_more (e : En) : ∀ (n m : Nat) (s : List UInt8), s.length ≤ n → s.length ≤ m → subF e n s = subF e m s
  | 0, 0, _, _, _ => rfl
  | 0, m + 1, s, h, _ => by obtain rfl : s = [] := List.length_eq_zero_iff.1 (by omega); rfl
  | n + 1, 0, s, _, h => by obtain rfl : s = [] := List.length_eq_zero_iff.1 (by omega); rfl
  | n + 1, m + 1, [], _, _ => rfl
  | n + 1, m + 1, c :: t, h1, h2 => by
    simp only [List.length_cons] at h1 h2
    have hl := refV_len e (c :: t)
    unfold subF
    split
    · rw [subF_more e n m t (by omega) (by omega)]
    · rw [subF_more e n m _ (by rw [List.length_drop, List.length_cons]; omega) (by rw [List.length_drop, List.length_cons]; omega)]
theorem subV_nil (e : En) : subV e [] = [] := rfl
theorem subV_one (e : En) (c : UInt8) (t : List UInt8) (h : (refV e (c :: t)).2 = 0) : subV e (c :: t) = c :: subV e t := by
  unfold subV
  rw [List.length_cons]
  conv => lhs; unfold subF
  rw [if_pos h]
theorem subV_ref (e : En) (s : List UInt8) (h : (refV e s).2 ≠ 0) : subV e s = (refV e s).1 ++ subV e (s.drop (refV e s).2) := by
  have hl := (refV_len e s).1
  cases s with
  | nil => simp at hl; exact absurd hl h
  | cons c t =>
    unfold subV
    rw [List.length_cons]
    conv => lhs; unfold subF
    rw [if_neg h, subF_more e t.length _ _ (by rw [List.length_drop, List.length_cons]; omega) (Nat.le_refl _)]
theorem ref_begins {s : List UInt8} (h : refP s ≠ none) : Lib.hasPrefix s [36, 40] = true := by
  unfold refP at h
  split at h
  · rename_i hc
    rw [Bool.and_eq_true] at hc
    exact hc.1
  · exact absurd rfl h
theorem subV_skip (e : En) : ∀ (a t : List UInt8), (∀ i (h : i < a.length), Lib.hasPrefix ((a ++ t).drop i) [36, 40] = false) → subV e (a ++ t) = a ++ subV e t
  | [], t, _ => rfl
  | c :: a, t, h => by
    have h0 := h 0 (by simp)
    rw [List.drop_zero] at h0
    have hz : (refV e (c :: a ++ t)).2 = 0 := (refV_len e _).2.2 (by
      cases hr : refP (c :: a ++ t) with
      | none => rfl
      | some x => rw [ref_begins (by rw [hr]; simp)] at h0; cases h0)
    show subV e (c :: (a ++ t)) = c :: (a ++ subV e t)
    rw [subV_one e c (a ++ t) hz, subV_skip e a t (fun i hi => by
      have := h (i + 1) (by simp; omega)
      simpa using this)]
end Go.Proofs.YtenflcaalckdfaaGreatDoor
