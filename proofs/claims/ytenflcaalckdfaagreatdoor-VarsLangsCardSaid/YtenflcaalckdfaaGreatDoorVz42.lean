/- The law VarsLangs: its walk. -/
import Derived.Test.YtenflcaalckdfaaGreatDoorVz28
import Derived.Test.YtenflcaalckdfaaGreatDoorVz41
import Derived.Shelf.Strings.CaseAny
namespace Go.Proofs.YtenflcaalckdfaaGreatDoor
open Go Go.RowKit Go.Sort Go.Shelf
set_option linter.unusedVariables false
set_option linter.unusedSimpArgs false

theorem mapGoD_len (f : Int → Int) : ∀ (n : Nat) (l : List UInt8), (Lib.mapGoD f n l).length ≤ 4 * n
  | 0, l => by simp [Lib.mapGoD]
  | n + 1, l => by
    have ih := mapGoD_len f n (l.drop (Lib.decodeL l).2)
    have he : ∀ r, (Lib.encodeRune r).length ≤ 4 := fun r => by
      have := (Lib.encodeRuneZ_length r).2
      simpa [Lib.encodeRune] using this
    unfold Lib.mapGoD
    split
    · simp
    · rw [List.length_append]
      split
      · have := he (f (Lib.decodeL l).1); omega
      · simp; omega
theorem upper_len (l : List UInt8) : (Lib.toUpperD l).length ≤ 4 * l.length := mapGoD_len _ _ _
theorem low_up (c : UInt8) : lowB (Lib.upperB c) = lowB c := by
  have h : ∀ n : Fin 256, lowB (Lib.upperB (UInt8.ofNat n.val)) = lowB (UInt8.ofNat n.val) := by decide +kernel
  have := h ⟨c.toNat, c.toNat_lt⟩
  simpa using this
theorem lower_upper {l : List UInt8} (h : ∀ b ∈ l, b.toNat < 128) : lower (Lib.toUpperD l) = lower l ∧ (l ≠ [] → Lib.toUpperD l ≠ []) := by
  rw [Lib.toUpperD_ascii l h]
  unfold Lib.toUpperA lower
  refine ⟨by rw [List.map_map]; exact List.map_congr_left (fun c _ => low_up c), fun hne he => hne ?_⟩
  exact List.map_eq_nil_iff.1 he
theorem toUpper_S {s r : List UInt8} (hs : s.length ≤ 100000) (h : Lib.toUpperD s = r) (W : World) (hC : CaseTabs W) : Calls Tryz.prog 17 #[.string (S s)] W fun e w' => e = .returned (.string (S r)) ∧ Below W.heap.size W w' := by
  refine (Tryz.strings_ToUpper_any (S s) W (by rw [S_size]; omega) hC.1 hC.2).mono fun e w' ⟨h1, h2⟩ => ⟨?_, h2⟩
  rw [h1, S_data, h]
  rfl
theorem val_agent (e : En) (key : List UInt8) : valV e agentN key = keyedV e.agent key (someV (agentK e.agent key)) := (if_neg (by decide)).trans ((if_neg (by decide)).trans (if_pos rfl))
theorem val_lang (e : En) (key : List UInt8) : valV e langN' key = keyedV e.lang key (langV e.lang key) := (if_neg (by decide)).trans ((if_neg (by decide)).trans ((if_neg (by decide)).trans ((if_neg (by decide)).trans ((if_neg (by decide)).trans (if_pos rfl)))))
def kB : List UInt8 := [98, 114, 111, 119, 115, 101, 114]
def kV : List UInt8 := [118, 101, 114, 115, 105, 111, 110]
def kO : List UInt8 := [111, 115]
/-- A browser's part under a key that is none of the three: none. -/
theorem agent_other {s key : List UInt8} (h1 : key ≠ kB) (h2 : key ≠ kV) (h3 : key ≠ kO) : agentK s key = [] := by
  unfold agentK kB kV kO at *
  rw [if_neg h1, if_neg h2, if_neg h3]
/-- What is said of a browser's part, of a language: all that the law asks. -/
theorem langs_agent (e : En) (key : List UInt8) : ∃ C, valV e agentN key = (C, !C.isEmpty) ∧ (key ≠ [] → key ≠ kB → key ≠ kV → key ≠ kO → C = []) := by
  rw [val_agent]
  by_cases hk : key = []
  · subst hk
    exact ⟨e.agent, rfl, fun h => absurd rfl h⟩
  · refine ⟨agentK e.agent key, ?_, fun _ h1 h2 h3 => agent_other h1 h2 h3⟩
    unfold keyedV
    rw [if_neg (by simpa using hk)]
    rfl
theorem langs_lang (e : En) (key : List UInt8) (h : ∀ b ∈ key, b.toNat < 128) (hk : key ≠ []) : ∃ a, (a = [116, 114, 117, 101] ∨ a = [102, 97, 108, 115, 101]) ∧ valV e langN' key = (a, true) ∧ valV e langN' (Lib.toUpperD key) = (a, true) := by
  obtain ⟨h1, h2⟩ := lower_upper h
  have hl : ∀ k : List UInt8, k ≠ [] → valV e langN' k = langV e.lang k := fun k hk => by
    rw [val_lang]
    unfold keyedV
    rw [if_neg (by simpa using hk)]
  rw [hl _ hk, hl _ (h2 hk)]
  unfold langV
  rw [h1]
  split
  · exact ⟨_, .inl rfl, rfl, rfl⟩
  · exact ⟨_, .inr rfl, rfl, rfl⟩

set_option maxHeartbeats 3200000 in
set_option maxRecDepth 100000 in
theorem varsLangs_any (a0 a1 a2 a3 a4 a5 b : ByteArray) (w : World) (h0 : a0.size ≤ maxLen) (h1 : a1.size ≤ maxLen) (h2 : a2.size ≤ maxLen) (h3 : a3.size ≤ maxLen) (h4 : a4.size ≤ maxLen) (h5 : a5.size ≤ maxLen) (hb : b.size ≤ maxLen) (hC : CaseTabs w) (hM : ∃ m, w.cell? ⟨0, 0, none⟩ = some (.int .i64 m)) :
    Calls Tryz.prog 5 #[.agg #[.string a0, .string a1, .string a2, .string a3, .string a4, .string a5], .string b] w fun x w' => x = .returned (.bool true) ∧ Below w.heap.size w w' := by
  obtain ⟨l0, rfl⟩ := S_of a0
  obtain ⟨l1, rfl⟩ := S_of a1
  obtain ⟨l2, rfl⟩ := S_of a2
  obtain ⟨l3, rfl⟩ := S_of a3
  obtain ⟨l4, rfl⟩ := S_of a4
  obtain ⟨l5, rfl⟩ := S_of a5
  obtain ⟨s0, rfl⟩ := S_of b
  simp only [S_size] at h0 h1 h2 h3 h4 h5 hb
  have hm : maxLen = 9223372036854775807 := rfl
  rw [hm] at h0 h1 h2 h3 h4 h5 hb
  clear hm
  have FE := Lib.hid (fun W => vars_few ⟨l0, l1, l2, l3, l4, l5⟩ ⟨h0, h1, h2, h3, h4, h5⟩ W)
  have hcf := En.cut_few ⟨l0, l1, l2, l3, l4, l5⟩
  obtain ⟨e, he⟩ : ∃ e, En.cut ⟨l0, l1, l2, l3, l4, l5⟩ = e := ⟨_, rfl⟩
  rw [he] at FE hcf
  have SH := Lib.hid (fun W => vars_short s0 hb W)
  obtain ⟨s, hs⟩ : ∃ s, s0.take 600 = s := ⟨_, rfl⟩
  have hsl : s.length ≤ 600 := by rw [← hs, List.length_take]; omega
  rw [hs] at SH
  have hul := upper_len s
  obtain ⟨C, hCv, hCk⟩ := langs_agent e s
  have HLL := Lib.hid (langs_lang e s)
  obtain ⟨u, hu⟩ : ∃ u, Lib.toUpperD s = u := ⟨_, rfl⟩
  rw [hu] at hul HLL
  obtain ⟨⟨a, x⟩, hax⟩ : ∃ z, valV e langN' s = z := ⟨_, rfl⟩
  obtain ⟨⟨b, y⟩, hby⟩ : ∃ z, valV e langN' u = z := ⟨_, rfl⟩
  have V1 := Lib.hid (fun W (hb : Below w.heap.size w W) => varsValue e hcf langN' s (by decide) (by omega) W (ML.later hM (GG.of_below hb)))
  have V2 := Lib.hid (fun W (hb : Below w.heap.size w W) => varsValue e hcf langN' u (by decide) (by omega) W (ML.later hM (GG.of_below hb)))
  have V3 := Lib.hid (fun W (hb : Below w.heap.size w W) => varsValue e hcf agentN s (by decide) (by omega) W (ML.later hM (GG.of_below hb)))
  have AL := Lib.hid (fun W (hb : Below w.heap.size w W) => vars_alive W (ML.later hM (GG.of_below hb)))
  have TU := Lib.hid (fun W (hb : Below w.heap.size w W) => toUpper_S (s := s) (by omega) hu W ⟨Lib.CaseVar_below hC.1 hb, Utf8Tabs_below hC.2 hb⟩)
  rw [hax] at V1
  rw [hby] at V2
  rw [hCv] at V3
  rw [hax, hby] at HLL
  have HCK := Lib.hid hCk
  unfold pairV at V1 V2 V3
  unfold langN' at V1 V2
  unfold agentN at V3
  obtain ⟨f0, f1, f2, f3, f4, f5⟩ := e
  unfold En.v at *
  simp only at FE V1 V2 V3
  have hsi : (s.length : Int) ≤ 600 := by omega
  clear he hcf hM hC h0 h1 h2 h3 h4 h5 hs hb hu hax hby hCv hCk
  have HA := Lib.hid (show ∀ (h : (s.all fun c => decide (c.toNat < 128)) = true), ∀ b ∈ s, b.toNat < 128 from fun h b hb => by simpa using List.all_eq_true.1 h b hb)
  by_cases k0 : s = []
  · have q0 : (s == []) = true := by rw [k0]; rfl
    have pt : (s.all fun c => decide (c.toNat < 128)) = true := by rw [k0]; rfl
    have HP := Lib.hid pt
    clear k0 pt
    go_enter Tryz.func5, Tryz.ntmps5
    go_wp2_with fail
    refine Calls.mono (FE.out _) ?_
    rintro e w1 ⟨rfl, hb_w1⟩
    have hz_w1 := hb_w1.size
    try simp at hz_w1
    obtain ⟨c_w1_w_0, f_w1_w_0⟩ := bk hb_w1 (w.heap.size) (by first | omega | (simp <;> omega))
    have c_w1_w_0_0 := c_w1_w_0 0
    conv at c_w1_w_0_0 => rhs; simp [go_sem, *]
    have f_w1_w_0_0 := f_w1_w_0 0
    conv at f_w1_w_0_0 => rhs; simp [go_sem, *]
    have c_w1_w_0_1 := c_w1_w_0 1
    conv at c_w1_w_0_1 => rhs; simp [go_sem, *]
    have f_w1_w_0_1 := f_w1_w_0 1
    conv at f_w1_w_0_1 => rhs; simp [go_sem, *]
    have c_w1_w_0_2 := c_w1_w_0 2
    conv at c_w1_w_0_2 => rhs; simp [go_sem, *]
    have f_w1_w_0_2 := f_w1_w_0 2
    conv at f_w1_w_0_2 => rhs; simp [go_sem, *]
    have c_w1_w_0_3 := c_w1_w_0 3
    conv at c_w1_w_0_3 => rhs; simp [go_sem, *]
    have f_w1_w_0_3 := f_w1_w_0 3
    conv at f_w1_w_0_3 => rhs; simp [go_sem, *]
    have c_w1_w_0_4 := c_w1_w_0 4
    conv at c_w1_w_0_4 => rhs; simp [go_sem, *]
    have f_w1_w_0_4 := f_w1_w_0 4
    conv at f_w1_w_0_4 => rhs; simp [go_sem, *]
    have c_w1_w_0_5 := c_w1_w_0 5
    conv at c_w1_w_0_5 => rhs; simp [go_sem, *]
    have f_w1_w_0_5 := f_w1_w_0 5
    conv at f_w1_w_0_5 => rhs; simp [go_sem, *]
    have HH_w1 := Lib.hid hb_w1
    have hB_w1 : Below w.heap.size w w1 := Below.trans (by (repeat (first | (with_reducible exact Below.refl _ _) | (with_reducible assumption) | (with_reducible refine Below.drew ?_) | (focus ((with_reducible refine Below.setCell ?_ ?_ _); rotate_left; (first | omega | (simp <;> omega)))) | (focus ((with_reducible refine Below.alloc ?_ ?_ _); rotate_left; (first | omega | (simp <;> omega)))) | exact Below.refl _ _ | assumption | refine Below.drew ?_ | refine Below.alloc ?_ (by first | omega | (simp <;> omega)) _ | refine Below.setCell ?_ (by first | omega | (simp <;> omega)) _))) (hb_w1.mono (by first | omega | (simp <;> omega)))
    clear hb_w1 c_w1_w_0 f_w1_w_0
    have far_w1_w_0 := far (show w.heap.size < w1.heap.size by omega)
    go_wp2_with (first | (go_at_call 7; refine Calls.mono (SH.out _) ?_; rintro x wq ⟨rfl, hwq⟩; obtain rfl := hwq.symm) | fail)
    go_wp2_with fail
    refine Calls.mono (TU.out _ (by (repeat (first | (with_reducible exact Below.refl _ _) | (with_reducible assumption) | (with_reducible refine Below.drew ?_) | (focus ((with_reducible refine Below.setCell ?_ ?_ _); rotate_left; (first | omega | (simp <;> omega)))) | (focus ((with_reducible refine Below.alloc ?_ ?_ _); rotate_left; (first | omega | (simp <;> omega)))) | exact Below.refl _ _ | assumption | refine Below.drew ?_ | refine Below.alloc ?_ (by first | omega | (simp <;> omega)) _ | refine Below.setCell ?_ (by first | omega | (simp <;> omega)) _)))) ?_
    rintro e w2 ⟨rfl, hb_w2⟩
    have hz_w2 := hb_w2.size
    try simp at hz_w2
    obtain ⟨c_w2_w_0, f_w2_w_0⟩ := bk hb_w2 (w.heap.size) (by first | omega | (simp <;> omega))
    have c_w2_w_0_0 := c_w2_w_0 0
    conv at c_w2_w_0_0 => rhs; simp [go_sem, *]
    have f_w2_w_0_0 := f_w2_w_0 0
    conv at f_w2_w_0_0 => rhs; simp [go_sem, *]
    have c_w2_w_0_1 := c_w2_w_0 1
    conv at c_w2_w_0_1 => rhs; simp [go_sem, *]
    have f_w2_w_0_1 := f_w2_w_0 1
    conv at f_w2_w_0_1 => rhs; simp [go_sem, *]
    have c_w2_w_0_2 := c_w2_w_0 2
    conv at c_w2_w_0_2 => rhs; simp [go_sem, *]
    have f_w2_w_0_2 := f_w2_w_0 2
    conv at f_w2_w_0_2 => rhs; simp [go_sem, *]
    have c_w2_w_0_3 := c_w2_w_0 3
    conv at c_w2_w_0_3 => rhs; simp [go_sem, *]
    have f_w2_w_0_3 := f_w2_w_0 3
    conv at f_w2_w_0_3 => rhs; simp [go_sem, *]
    have c_w2_w_0_4 := c_w2_w_0 4
    conv at c_w2_w_0_4 => rhs; simp [go_sem, *]
    have f_w2_w_0_4 := f_w2_w_0 4
    conv at f_w2_w_0_4 => rhs; simp [go_sem, *]
    have c_w2_w_0_5 := c_w2_w_0 5
    conv at c_w2_w_0_5 => rhs; simp [go_sem, *]
    have f_w2_w_0_5 := f_w2_w_0 5
    conv at f_w2_w_0_5 => rhs; simp [go_sem, *]
    have HH_w2 := Lib.hid hb_w2
    have hB_w2 : Below w.heap.size w w2 := Below.trans (by (repeat (first | (with_reducible exact Below.refl _ _) | (with_reducible assumption) | (with_reducible refine Below.drew ?_) | (focus ((with_reducible refine Below.setCell ?_ ?_ _); rotate_left; (first | omega | (simp <;> omega)))) | (focus ((with_reducible refine Below.alloc ?_ ?_ _); rotate_left; (first | omega | (simp <;> omega)))) | exact Below.refl _ _ | assumption | refine Below.drew ?_ | refine Below.alloc ?_ (by first | omega | (simp <;> omega)) _ | refine Below.setCell ?_ (by first | omega | (simp <;> omega)) _))) (hb_w2.mono (by first | omega | (simp <;> omega)))
    clear hb_w2 c_w2_w_0 f_w2_w_0
    try clear c_w1_w_0_0
    try clear f_w1_w_0_0
    try clear c_w1_w_0_1
    try clear f_w1_w_0_1
    try clear c_w1_w_0_2
    try clear f_w1_w_0_2
    try clear c_w1_w_0_3
    try clear f_w1_w_0_3
    try clear c_w1_w_0_4
    try clear f_w1_w_0_4
    try clear c_w1_w_0_5
    try clear f_w1_w_0_5
    try clear far_w1_w_0
    try clear hB_w1
    have far_w2_w_0 := far (show w.heap.size < w2.heap.size by omega)
    go_wp2_with fail
    refine Calls.mono (V1.out _ (by (repeat (first | (with_reducible exact Below.refl _ _) | (with_reducible assumption) | (with_reducible refine Below.drew ?_) | (focus ((with_reducible refine Below.setCell ?_ ?_ _); rotate_left; (first | omega | (simp <;> omega)))) | (focus ((with_reducible refine Below.alloc ?_ ?_ _); rotate_left; (first | omega | (simp <;> omega)))) | exact Below.refl _ _ | assumption | refine Below.drew ?_ | refine Below.alloc ?_ (by first | omega | (simp <;> omega)) _ | refine Below.setCell ?_ (by first | omega | (simp <;> omega)) _)))) ?_
    rintro e w3 ⟨rfl, hb_w3⟩
    have hz_w3 := hb_w3.size
    try simp at hz_w3
    obtain ⟨c_w3_w_0, f_w3_w_0⟩ := bk hb_w3 (w.heap.size) (by first | omega | (simp <;> omega))
    have c_w3_w_0_0 := c_w3_w_0 0
    conv at c_w3_w_0_0 => rhs; simp [go_sem, *]
    have f_w3_w_0_0 := f_w3_w_0 0
    conv at f_w3_w_0_0 => rhs; simp [go_sem, *]
    have c_w3_w_0_1 := c_w3_w_0 1
    conv at c_w3_w_0_1 => rhs; simp [go_sem, *]
    have f_w3_w_0_1 := f_w3_w_0 1
    conv at f_w3_w_0_1 => rhs; simp [go_sem, *]
    have c_w3_w_0_2 := c_w3_w_0 2
    conv at c_w3_w_0_2 => rhs; simp [go_sem, *]
    have f_w3_w_0_2 := f_w3_w_0 2
    conv at f_w3_w_0_2 => rhs; simp [go_sem, *]
    have c_w3_w_0_3 := c_w3_w_0 3
    conv at c_w3_w_0_3 => rhs; simp [go_sem, *]
    have f_w3_w_0_3 := f_w3_w_0 3
    conv at f_w3_w_0_3 => rhs; simp [go_sem, *]
    have c_w3_w_0_4 := c_w3_w_0 4
    conv at c_w3_w_0_4 => rhs; simp [go_sem, *]
    have f_w3_w_0_4 := f_w3_w_0 4
    conv at f_w3_w_0_4 => rhs; simp [go_sem, *]
    have c_w3_w_0_5 := c_w3_w_0 5
    conv at c_w3_w_0_5 => rhs; simp [go_sem, *]
    have f_w3_w_0_5 := f_w3_w_0 5
    conv at f_w3_w_0_5 => rhs; simp [go_sem, *]
    have HH_w3 := Lib.hid hb_w3
    have hB_w3 : Below w.heap.size w w3 := Below.trans (by (repeat (first | (with_reducible exact Below.refl _ _) | (with_reducible assumption) | (with_reducible refine Below.drew ?_) | (focus ((with_reducible refine Below.setCell ?_ ?_ _); rotate_left; (first | omega | (simp <;> omega)))) | (focus ((with_reducible refine Below.alloc ?_ ?_ _); rotate_left; (first | omega | (simp <;> omega)))) | exact Below.refl _ _ | assumption | refine Below.drew ?_ | refine Below.alloc ?_ (by first | omega | (simp <;> omega)) _ | refine Below.setCell ?_ (by first | omega | (simp <;> omega)) _))) (hb_w3.mono (by first | omega | (simp <;> omega)))
    clear hb_w3 c_w3_w_0 f_w3_w_0
    try clear c_w2_w_0_0
    try clear f_w2_w_0_0
    try clear c_w2_w_0_1
    try clear f_w2_w_0_1
    try clear c_w2_w_0_2
    try clear f_w2_w_0_2
    try clear c_w2_w_0_3
    try clear f_w2_w_0_3
    try clear c_w2_w_0_4
    try clear f_w2_w_0_4
    try clear c_w2_w_0_5
    try clear f_w2_w_0_5
    try clear far_w2_w_0
    try clear hB_w2
    have far_w3_w_0 := far (show w.heap.size < w3.heap.size by omega)
    go_wp2_with fail
    refine Calls.mono (V2.out _ (by (repeat (first | (with_reducible exact Below.refl _ _) | (with_reducible assumption) | (with_reducible refine Below.drew ?_) | (focus ((with_reducible refine Below.setCell ?_ ?_ _); rotate_left; (first | omega | (simp <;> omega)))) | (focus ((with_reducible refine Below.alloc ?_ ?_ _); rotate_left; (first | omega | (simp <;> omega)))) | exact Below.refl _ _ | assumption | refine Below.drew ?_ | refine Below.alloc ?_ (by first | omega | (simp <;> omega)) _ | refine Below.setCell ?_ (by first | omega | (simp <;> omega)) _)))) ?_
    rintro e w4 ⟨rfl, hb_w4⟩
    have hz_w4 := hb_w4.size
    try simp at hz_w4
    obtain ⟨c_w4_w_0, f_w4_w_0⟩ := bk hb_w4 (w.heap.size) (by first | omega | (simp <;> omega))
    have c_w4_w_0_0 := c_w4_w_0 0
    conv at c_w4_w_0_0 => rhs; simp [go_sem, *]
    have f_w4_w_0_0 := f_w4_w_0 0
    conv at f_w4_w_0_0 => rhs; simp [go_sem, *]
    have c_w4_w_0_1 := c_w4_w_0 1
    conv at c_w4_w_0_1 => rhs; simp [go_sem, *]
    have f_w4_w_0_1 := f_w4_w_0 1
    conv at f_w4_w_0_1 => rhs; simp [go_sem, *]
    have c_w4_w_0_2 := c_w4_w_0 2
    conv at c_w4_w_0_2 => rhs; simp [go_sem, *]
    have f_w4_w_0_2 := f_w4_w_0 2
    conv at f_w4_w_0_2 => rhs; simp [go_sem, *]
    have c_w4_w_0_3 := c_w4_w_0 3
    conv at c_w4_w_0_3 => rhs; simp [go_sem, *]
    have f_w4_w_0_3 := f_w4_w_0 3
    conv at f_w4_w_0_3 => rhs; simp [go_sem, *]
    have c_w4_w_0_4 := c_w4_w_0 4
    conv at c_w4_w_0_4 => rhs; simp [go_sem, *]
    have f_w4_w_0_4 := f_w4_w_0 4
    conv at f_w4_w_0_4 => rhs; simp [go_sem, *]
    have c_w4_w_0_5 := c_w4_w_0 5
    conv at c_w4_w_0_5 => rhs; simp [go_sem, *]
    have f_w4_w_0_5 := f_w4_w_0 5
    conv at f_w4_w_0_5 => rhs; simp [go_sem, *]
    have HH_w4 := Lib.hid hb_w4
    have hB_w4 : Below w.heap.size w w4 := Below.trans (by (repeat (first | (with_reducible exact Below.refl _ _) | (with_reducible assumption) | (with_reducible refine Below.drew ?_) | (focus ((with_reducible refine Below.setCell ?_ ?_ _); rotate_left; (first | omega | (simp <;> omega)))) | (focus ((with_reducible refine Below.alloc ?_ ?_ _); rotate_left; (first | omega | (simp <;> omega)))) | exact Below.refl _ _ | assumption | refine Below.drew ?_ | refine Below.alloc ?_ (by first | omega | (simp <;> omega)) _ | refine Below.setCell ?_ (by first | omega | (simp <;> omega)) _))) (hb_w4.mono (by first | omega | (simp <;> omega)))
    clear hb_w4 c_w4_w_0 f_w4_w_0
    try clear c_w3_w_0_0
    try clear f_w3_w_0_0
    try clear c_w3_w_0_1
    try clear f_w3_w_0_1
    try clear c_w3_w_0_2
    try clear f_w3_w_0_2
    try clear c_w3_w_0_3
    try clear f_w3_w_0_3
    try clear c_w3_w_0_4
    try clear f_w3_w_0_4
    try clear c_w3_w_0_5
    try clear f_w3_w_0_5
    try clear far_w3_w_0
    try clear hB_w3
    have far_w4_w_0 := far (show w.heap.size < w4.heap.size by omega)
    go_wp2_with fail
    refine Calls.mono (V3.out _ (by (repeat (first | (with_reducible exact Below.refl _ _) | (with_reducible assumption) | (with_reducible refine Below.drew ?_) | (focus ((with_reducible refine Below.setCell ?_ ?_ _); rotate_left; (first | omega | (simp <;> omega)))) | (focus ((with_reducible refine Below.alloc ?_ ?_ _); rotate_left; (first | omega | (simp <;> omega)))) | exact Below.refl _ _ | assumption | refine Below.drew ?_ | refine Below.alloc ?_ (by first | omega | (simp <;> omega)) _ | refine Below.setCell ?_ (by first | omega | (simp <;> omega)) _)))) ?_
    rintro e w5 ⟨rfl, hb_w5⟩
    have hz_w5 := hb_w5.size
    try simp at hz_w5
    obtain ⟨c_w5_w_0, f_w5_w_0⟩ := bk hb_w5 (w.heap.size) (by first | omega | (simp <;> omega))
    have c_w5_w_0_0 := c_w5_w_0 0
    conv at c_w5_w_0_0 => rhs; simp [go_sem, *]
    have f_w5_w_0_0 := f_w5_w_0 0
    conv at f_w5_w_0_0 => rhs; simp [go_sem, *]
    have c_w5_w_0_1 := c_w5_w_0 1
    conv at c_w5_w_0_1 => rhs; simp [go_sem, *]
    have f_w5_w_0_1 := f_w5_w_0 1
    conv at f_w5_w_0_1 => rhs; simp [go_sem, *]
    have c_w5_w_0_2 := c_w5_w_0 2
    conv at c_w5_w_0_2 => rhs; simp [go_sem, *]
    have f_w5_w_0_2 := f_w5_w_0 2
    conv at f_w5_w_0_2 => rhs; simp [go_sem, *]
    have c_w5_w_0_3 := c_w5_w_0 3
    conv at c_w5_w_0_3 => rhs; simp [go_sem, *]
    have f_w5_w_0_3 := f_w5_w_0 3
    conv at f_w5_w_0_3 => rhs; simp [go_sem, *]
    have c_w5_w_0_4 := c_w5_w_0 4
    conv at c_w5_w_0_4 => rhs; simp [go_sem, *]
    have f_w5_w_0_4 := f_w5_w_0 4
    conv at f_w5_w_0_4 => rhs; simp [go_sem, *]
    have c_w5_w_0_5 := c_w5_w_0 5
    conv at c_w5_w_0_5 => rhs; simp [go_sem, *]
    have f_w5_w_0_5 := f_w5_w_0 5
    conv at f_w5_w_0_5 => rhs; simp [go_sem, *]
    have HH_w5 := Lib.hid hb_w5
    have hB_w5 : Below w.heap.size w w5 := Below.trans (by (repeat (first | (with_reducible exact Below.refl _ _) | (with_reducible assumption) | (with_reducible refine Below.drew ?_) | (focus ((with_reducible refine Below.setCell ?_ ?_ _); rotate_left; (first | omega | (simp <;> omega)))) | (focus ((with_reducible refine Below.alloc ?_ ?_ _); rotate_left; (first | omega | (simp <;> omega)))) | exact Below.refl _ _ | assumption | refine Below.drew ?_ | refine Below.alloc ?_ (by first | omega | (simp <;> omega)) _ | refine Below.setCell ?_ (by first | omega | (simp <;> omega)) _))) (hb_w5.mono (by first | omega | (simp <;> omega)))
    clear hb_w5 c_w5_w_0 f_w5_w_0
    try clear c_w4_w_0_0
    try clear f_w4_w_0_0
    try clear c_w4_w_0_1
    try clear f_w4_w_0_1
    try clear c_w4_w_0_2
    try clear f_w4_w_0_2
    try clear c_w4_w_0_3
    try clear f_w4_w_0_3
    try clear c_w4_w_0_4
    try clear f_w4_w_0_4
    try clear c_w4_w_0_5
    try clear f_w4_w_0_5
    try clear far_w4_w_0
    try clear hB_w4
    have far_w5_w_0 := far (show w.heap.size < w5.heap.size by omega)
    go_wp2
    go_loop [13, 55] (fun pv iv => ∃ i : Nat, iv = .int .i64 i ∧ i ≤ s.length ∧ pv = .bool ((s.take i).all fun c => decide (c.toNat < 128))) (fun _ iv => s.length - (intOf iv).toNat)
    case atStart => exact ⟨0, rfl, Nat.zero_le _, rfl⟩
    case round =>
      obtain ⟨i, rfl, hi, rfl⟩ := hrel
      by_cases hil : i < s.length
      · have hbat := bAt_eq hil
        have HTK := Lib.hid (show ((s.take (i + 1)).all fun c => decide (c.toNat < 128)) = (((s.take i).all fun c => decide (c.toNat < 128)) && decide (s[i].toNat < 128)) by rw [List.take_succ_eq_append_getElem hil, List.all_append]; simp)
        obtain ⟨c, hc⟩ : ∃ c, s[i] = c := ⟨_, rfl⟩
        rw [hc] at hbat HTK
        clear hc
        obtain ⟨cur, hcur⟩ : ∃ q, ((s.take i).all fun c => decide (c.toNat < 128)) = q := ⟨_, rfl⟩
        rw [hcur] at HTK ⊢
        clear hcur
        cases cur with
        | false =>
          clear hbat
          go_wp2_with fail
          go_round
          case rel => exact ⟨i + 1, by go_num, by omega, by rw [HTK.out]; rfl⟩
          case measure => simp [intOf]; omega
        | true =>
          by_cases h128 : c.toNat < 128
          · have g1 : bAt s i < 128 := by omega
            have HT2 := Lib.hid (show ((s.take (i + 1)).all fun c => decide (c.toNat < 128)) = true by rw [HTK.out]; simp [h128])
            clear hbat h128
            go_wp2_with fail
            go_round
            case rel => exact ⟨i + 1, by go_num, by omega, by rw [HT2.out]⟩
            case measure => simp [intOf]; omega
          · have g1 : ¬ bAt s i < 128 := by omega
            have HT2 := Lib.hid (show ((s.take (i + 1)).all fun c => decide (c.toNat < 128)) = false by rw [HTK.out]; simp [h128])
            clear hbat h128
            go_wp2_with fail
            go_round
            case rel => exact ⟨i + 1, by go_num, by omega, by rw [HT2.out]⟩
            case measure => simp [intOf]; omega
      · obtain rfl : i = s.length := by omega
        rw [List.take_length]
        rw [HP.out]
        cases hCe : C.isEmpty with
        | true =>
          obtain rfl : C = [] := by simpa using hCe
          go_wp2_with (first | (go_at_call 10; refine Calls.mono (AL.out _ (by (repeat (first | (with_reducible exact Below.refl _ _) | (with_reducible assumption) | (with_reducible refine Below.drew ?_) | (focus ((with_reducible refine Below.setCell ?_ ?_ _); rotate_left; (first | omega | (simp <;> omega)))) | (focus ((with_reducible refine Below.alloc ?_ ?_ _); rotate_left; (first | omega | (simp <;> omega)))) | exact Below.refl _ _ | assumption | refine Below.drew ?_ | refine Below.alloc ?_ (by first | omega | (simp <;> omega)) _ | refine Below.setCell ?_ (by first | omega | (simp <;> omega)) _)))) ?_; rintro x w9 ⟨rfl, hb9⟩; have HB9 := Lib.hid hb9; clear hb9) | fail)
          go_ret
          exact ⟨ret_bool (by simp), Below.trans (show Below w.heap.size w w5 by (repeat (first | (with_reducible exact Below.refl _ _) | (with_reducible assumption) | (with_reducible refine Below.drew ?_) | (focus ((with_reducible refine Below.setCell ?_ ?_ _); rotate_left; (first | omega | (simp <;> omega)))) | (focus ((with_reducible refine Below.alloc ?_ ?_ _); rotate_left; (first | omega | (simp <;> omega)))) | exact Below.refl _ _ | assumption | refine Below.drew ?_ | refine Below.alloc ?_ (by first | omega | (simp <;> omega)) _ | refine Below.setCell ?_ (by first | omega | (simp <;> omega)) _))) (HB9.out.mono (by omega))⟩
        | false =>
          have hCb : (C == []) = false := by cases C with | nil => simp at hCe | cons p q => rfl
          go_wp2_with (first | (go_at_call 10; refine Calls.mono (AL.out _ (by (repeat (first | (with_reducible exact Below.refl _ _) | (with_reducible assumption) | (with_reducible refine Below.drew ?_) | (focus ((with_reducible refine Below.setCell ?_ ?_ _); rotate_left; (first | omega | (simp <;> omega)))) | (focus ((with_reducible refine Below.alloc ?_ ?_ _); rotate_left; (first | omega | (simp <;> omega)))) | exact Below.refl _ _ | assumption | refine Below.drew ?_ | refine Below.alloc ?_ (by first | omega | (simp <;> omega)) _ | refine Below.setCell ?_ (by first | omega | (simp <;> omega)) _)))) ?_; rintro x w9 ⟨rfl, hb9⟩; have HB9 := Lib.hid hb9; clear hb9) | fail)
          go_ret
          exact ⟨ret_bool (by simp), Below.trans (show Below w.heap.size w w5 by (repeat (first | (with_reducible exact Below.refl _ _) | (with_reducible assumption) | (with_reducible refine Below.drew ?_) | (focus ((with_reducible refine Below.setCell ?_ ?_ _); rotate_left; (first | omega | (simp <;> omega)))) | (focus ((with_reducible refine Below.alloc ?_ ?_ _); rotate_left; (first | omega | (simp <;> omega)))) | exact Below.refl _ _ | assumption | refine Below.drew ?_ | refine Below.alloc ?_ (by first | omega | (simp <;> omega)) _ | refine Below.setCell ?_ (by first | omega | (simp <;> omega)) _))) (HB9.out.mono (by omega))⟩
  · have q0 : (s == []) = false := by simpa using k0
    have hne := k0
    have HNE := Lib.hid hne
    by_cases k1 : s = [98, 114, 111, 119, 115, 101, 114]
    · have q1 : (s == [98, 114, 111, 119, 115, 101, 114]) = true := by rw [k1]; rfl
      have HP := Lib.hid (show (s.all fun c => decide (c.toNat < 128)) = true by rw [k1]; rfl)
      clear k0 hne k1
      go_enter Tryz.func5, Tryz.ntmps5
      go_wp2_with fail
      refine Calls.mono (FE.out _) ?_
      rintro e w1 ⟨rfl, hb_w1⟩
      have hz_w1 := hb_w1.size
      try simp at hz_w1
      obtain ⟨c_w1_w_0, f_w1_w_0⟩ := bk hb_w1 (w.heap.size) (by first | omega | (simp <;> omega))
      have c_w1_w_0_0 := c_w1_w_0 0
      conv at c_w1_w_0_0 => rhs; simp [go_sem, *]
      have f_w1_w_0_0 := f_w1_w_0 0
      conv at f_w1_w_0_0 => rhs; simp [go_sem, *]
      have c_w1_w_0_1 := c_w1_w_0 1
      conv at c_w1_w_0_1 => rhs; simp [go_sem, *]
      have f_w1_w_0_1 := f_w1_w_0 1
      conv at f_w1_w_0_1 => rhs; simp [go_sem, *]
      have c_w1_w_0_2 := c_w1_w_0 2
      conv at c_w1_w_0_2 => rhs; simp [go_sem, *]
      have f_w1_w_0_2 := f_w1_w_0 2
      conv at f_w1_w_0_2 => rhs; simp [go_sem, *]
      have c_w1_w_0_3 := c_w1_w_0 3
      conv at c_w1_w_0_3 => rhs; simp [go_sem, *]
      have f_w1_w_0_3 := f_w1_w_0 3
      conv at f_w1_w_0_3 => rhs; simp [go_sem, *]
      have c_w1_w_0_4 := c_w1_w_0 4
      conv at c_w1_w_0_4 => rhs; simp [go_sem, *]
      have f_w1_w_0_4 := f_w1_w_0 4
      conv at f_w1_w_0_4 => rhs; simp [go_sem, *]
      have c_w1_w_0_5 := c_w1_w_0 5
      conv at c_w1_w_0_5 => rhs; simp [go_sem, *]
      have f_w1_w_0_5 := f_w1_w_0 5
      conv at f_w1_w_0_5 => rhs; simp [go_sem, *]
      have HH_w1 := Lib.hid hb_w1
      have hB_w1 : Below w.heap.size w w1 := Below.trans (by (repeat (first | (with_reducible exact Below.refl _ _) | (with_reducible assumption) | (with_reducible refine Below.drew ?_) | (focus ((with_reducible refine Below.setCell ?_ ?_ _); rotate_left; (first | omega | (simp <;> omega)))) | (focus ((with_reducible refine Below.alloc ?_ ?_ _); rotate_left; (first | omega | (simp <;> omega)))) | exact Below.refl _ _ | assumption | refine Below.drew ?_ | refine Below.alloc ?_ (by first | omega | (simp <;> omega)) _ | refine Below.setCell ?_ (by first | omega | (simp <;> omega)) _))) (hb_w1.mono (by first | omega | (simp <;> omega)))
      clear hb_w1 c_w1_w_0 f_w1_w_0
      try clear c_w5_w_0_0
      try clear f_w5_w_0_0
      try clear c_w5_w_0_1
      try clear f_w5_w_0_1
      try clear c_w5_w_0_2
      try clear f_w5_w_0_2
      try clear c_w5_w_0_3
      try clear f_w5_w_0_3
      try clear c_w5_w_0_4
      try clear f_w5_w_0_4
      try clear c_w5_w_0_5
      try clear f_w5_w_0_5
      try clear far_w5_w_0
      try clear hB_w5
      have far_w1_w_0 := far (show w.heap.size < w1.heap.size by omega)
      go_wp2_with (first | (go_at_call 7; refine Calls.mono (SH.out _) ?_; rintro x wq ⟨rfl, hwq⟩; obtain rfl := hwq.symm) | fail)
      go_wp2_with fail
      refine Calls.mono (TU.out _ (by (repeat (first | (with_reducible exact Below.refl _ _) | (with_reducible assumption) | (with_reducible refine Below.drew ?_) | (focus ((with_reducible refine Below.setCell ?_ ?_ _); rotate_left; (first | omega | (simp <;> omega)))) | (focus ((with_reducible refine Below.alloc ?_ ?_ _); rotate_left; (first | omega | (simp <;> omega)))) | exact Below.refl _ _ | assumption | refine Below.drew ?_ | refine Below.alloc ?_ (by first | omega | (simp <;> omega)) _ | refine Below.setCell ?_ (by first | omega | (simp <;> omega)) _)))) ?_
      rintro e w2 ⟨rfl, hb_w2⟩
      have hz_w2 := hb_w2.size
      try simp at hz_w2
      obtain ⟨c_w2_w_0, f_w2_w_0⟩ := bk hb_w2 (w.heap.size) (by first | omega | (simp <;> omega))
      have c_w2_w_0_0 := c_w2_w_0 0
      conv at c_w2_w_0_0 => rhs; simp [go_sem, *]
      have f_w2_w_0_0 := f_w2_w_0 0
      conv at f_w2_w_0_0 => rhs; simp [go_sem, *]
      have c_w2_w_0_1 := c_w2_w_0 1
      conv at c_w2_w_0_1 => rhs; simp [go_sem, *]
      have f_w2_w_0_1 := f_w2_w_0 1
      conv at f_w2_w_0_1 => rhs; simp [go_sem, *]
      have c_w2_w_0_2 := c_w2_w_0 2
      conv at c_w2_w_0_2 => rhs; simp [go_sem, *]
      have f_w2_w_0_2 := f_w2_w_0 2
      conv at f_w2_w_0_2 => rhs; simp [go_sem, *]
      have c_w2_w_0_3 := c_w2_w_0 3
      conv at c_w2_w_0_3 => rhs; simp [go_sem, *]
      have f_w2_w_0_3 := f_w2_w_0 3
      conv at f_w2_w_0_3 => rhs; simp [go_sem, *]
      have c_w2_w_0_4 := c_w2_w_0 4
      conv at c_w2_w_0_4 => rhs; simp [go_sem, *]
      have f_w2_w_0_4 := f_w2_w_0 4
      conv at f_w2_w_0_4 => rhs; simp [go_sem, *]
      have c_w2_w_0_5 := c_w2_w_0 5
      conv at c_w2_w_0_5 => rhs; simp [go_sem, *]
      have f_w2_w_0_5 := f_w2_w_0 5
      conv at f_w2_w_0_5 => rhs; simp [go_sem, *]
      have HH_w2 := Lib.hid hb_w2
      have hB_w2 : Below w.heap.size w w2 := Below.trans (by (repeat (first | (with_reducible exact Below.refl _ _) | (with_reducible assumption) | (with_reducible refine Below.drew ?_) | (focus ((with_reducible refine Below.setCell ?_ ?_ _); rotate_left; (first | omega | (simp <;> omega)))) | (focus ((with_reducible refine Below.alloc ?_ ?_ _); rotate_left; (first | omega | (simp <;> omega)))) | exact Below.refl _ _ | assumption | refine Below.drew ?_ | refine Below.alloc ?_ (by first | omega | (simp <;> omega)) _ | refine Below.setCell ?_ (by first | omega | (simp <;> omega)) _))) (hb_w2.mono (by first | omega | (simp <;> omega)))
      clear hb_w2 c_w2_w_0 f_w2_w_0
      try clear c_w1_w_0_0
      try clear f_w1_w_0_0
      try clear c_w1_w_0_1
      try clear f_w1_w_0_1
      try clear c_w1_w_0_2
      try clear f_w1_w_0_2
      try clear c_w1_w_0_3
      try clear f_w1_w_0_3
      try clear c_w1_w_0_4
      try clear f_w1_w_0_4
      try clear c_w1_w_0_5
      try clear f_w1_w_0_5
      try clear far_w1_w_0
      try clear hB_w1
      have far_w2_w_0 := far (show w.heap.size < w2.heap.size by omega)
      go_wp2_with fail
      refine Calls.mono (V1.out _ (by (repeat (first | (with_reducible exact Below.refl _ _) | (with_reducible assumption) | (with_reducible refine Below.drew ?_) | (focus ((with_reducible refine Below.setCell ?_ ?_ _); rotate_left; (first | omega | (simp <;> omega)))) | (focus ((with_reducible refine Below.alloc ?_ ?_ _); rotate_left; (first | omega | (simp <;> omega)))) | exact Below.refl _ _ | assumption | refine Below.drew ?_ | refine Below.alloc ?_ (by first | omega | (simp <;> omega)) _ | refine Below.setCell ?_ (by first | omega | (simp <;> omega)) _)))) ?_
      rintro e w3 ⟨rfl, hb_w3⟩
      have hz_w3 := hb_w3.size
      try simp at hz_w3
      obtain ⟨c_w3_w_0, f_w3_w_0⟩ := bk hb_w3 (w.heap.size) (by first | omega | (simp <;> omega))
      have c_w3_w_0_0 := c_w3_w_0 0
      conv at c_w3_w_0_0 => rhs; simp [go_sem, *]
      have f_w3_w_0_0 := f_w3_w_0 0
      conv at f_w3_w_0_0 => rhs; simp [go_sem, *]
      have c_w3_w_0_1 := c_w3_w_0 1
      conv at c_w3_w_0_1 => rhs; simp [go_sem, *]
      have f_w3_w_0_1 := f_w3_w_0 1
      conv at f_w3_w_0_1 => rhs; simp [go_sem, *]
      have c_w3_w_0_2 := c_w3_w_0 2
      conv at c_w3_w_0_2 => rhs; simp [go_sem, *]
      have f_w3_w_0_2 := f_w3_w_0 2
      conv at f_w3_w_0_2 => rhs; simp [go_sem, *]
      have c_w3_w_0_3 := c_w3_w_0 3
      conv at c_w3_w_0_3 => rhs; simp [go_sem, *]
      have f_w3_w_0_3 := f_w3_w_0 3
      conv at f_w3_w_0_3 => rhs; simp [go_sem, *]
      have c_w3_w_0_4 := c_w3_w_0 4
      conv at c_w3_w_0_4 => rhs; simp [go_sem, *]
      have f_w3_w_0_4 := f_w3_w_0 4
      conv at f_w3_w_0_4 => rhs; simp [go_sem, *]
      have c_w3_w_0_5 := c_w3_w_0 5
      conv at c_w3_w_0_5 => rhs; simp [go_sem, *]
      have f_w3_w_0_5 := f_w3_w_0 5
      conv at f_w3_w_0_5 => rhs; simp [go_sem, *]
      have HH_w3 := Lib.hid hb_w3
      have hB_w3 : Below w.heap.size w w3 := Below.trans (by (repeat (first | (with_reducible exact Below.refl _ _) | (with_reducible assumption) | (with_reducible refine Below.drew ?_) | (focus ((with_reducible refine Below.setCell ?_ ?_ _); rotate_left; (first | omega | (simp <;> omega)))) | (focus ((with_reducible refine Below.alloc ?_ ?_ _); rotate_left; (first | omega | (simp <;> omega)))) | exact Below.refl _ _ | assumption | refine Below.drew ?_ | refine Below.alloc ?_ (by first | omega | (simp <;> omega)) _ | refine Below.setCell ?_ (by first | omega | (simp <;> omega)) _))) (hb_w3.mono (by first | omega | (simp <;> omega)))
      clear hb_w3 c_w3_w_0 f_w3_w_0
      try clear c_w2_w_0_0
      try clear f_w2_w_0_0
      try clear c_w2_w_0_1
      try clear f_w2_w_0_1
      try clear c_w2_w_0_2
      try clear f_w2_w_0_2
      try clear c_w2_w_0_3
      try clear f_w2_w_0_3
      try clear c_w2_w_0_4
      try clear f_w2_w_0_4
      try clear c_w2_w_0_5
      try clear f_w2_w_0_5
      try clear far_w2_w_0
      try clear hB_w2
      have far_w3_w_0 := far (show w.heap.size < w3.heap.size by omega)
      go_wp2_with fail
      refine Calls.mono (V2.out _ (by (repeat (first | (with_reducible exact Below.refl _ _) | (with_reducible assumption) | (with_reducible refine Below.drew ?_) | (focus ((with_reducible refine Below.setCell ?_ ?_ _); rotate_left; (first | omega | (simp <;> omega)))) | (focus ((with_reducible refine Below.alloc ?_ ?_ _); rotate_left; (first | omega | (simp <;> omega)))) | exact Below.refl _ _ | assumption | refine Below.drew ?_ | refine Below.alloc ?_ (by first | omega | (simp <;> omega)) _ | refine Below.setCell ?_ (by first | omega | (simp <;> omega)) _)))) ?_
      rintro e w4 ⟨rfl, hb_w4⟩
      have hz_w4 := hb_w4.size
      try simp at hz_w4
      obtain ⟨c_w4_w_0, f_w4_w_0⟩ := bk hb_w4 (w.heap.size) (by first | omega | (simp <;> omega))
      have c_w4_w_0_0 := c_w4_w_0 0
      conv at c_w4_w_0_0 => rhs; simp [go_sem, *]
      have f_w4_w_0_0 := f_w4_w_0 0
      conv at f_w4_w_0_0 => rhs; simp [go_sem, *]
      have c_w4_w_0_1 := c_w4_w_0 1
      conv at c_w4_w_0_1 => rhs; simp [go_sem, *]
      have f_w4_w_0_1 := f_w4_w_0 1
      conv at f_w4_w_0_1 => rhs; simp [go_sem, *]
      have c_w4_w_0_2 := c_w4_w_0 2
      conv at c_w4_w_0_2 => rhs; simp [go_sem, *]
      have f_w4_w_0_2 := f_w4_w_0 2
      conv at f_w4_w_0_2 => rhs; simp [go_sem, *]
      have c_w4_w_0_3 := c_w4_w_0 3
      conv at c_w4_w_0_3 => rhs; simp [go_sem, *]
      have f_w4_w_0_3 := f_w4_w_0 3
      conv at f_w4_w_0_3 => rhs; simp [go_sem, *]
      have c_w4_w_0_4 := c_w4_w_0 4
      conv at c_w4_w_0_4 => rhs; simp [go_sem, *]
      have f_w4_w_0_4 := f_w4_w_0 4
      conv at f_w4_w_0_4 => rhs; simp [go_sem, *]
      have c_w4_w_0_5 := c_w4_w_0 5
      conv at c_w4_w_0_5 => rhs; simp [go_sem, *]
      have f_w4_w_0_5 := f_w4_w_0 5
      conv at f_w4_w_0_5 => rhs; simp [go_sem, *]
      have HH_w4 := Lib.hid hb_w4
      have hB_w4 : Below w.heap.size w w4 := Below.trans (by (repeat (first | (with_reducible exact Below.refl _ _) | (with_reducible assumption) | (with_reducible refine Below.drew ?_) | (focus ((with_reducible refine Below.setCell ?_ ?_ _); rotate_left; (first | omega | (simp <;> omega)))) | (focus ((with_reducible refine Below.alloc ?_ ?_ _); rotate_left; (first | omega | (simp <;> omega)))) | exact Below.refl _ _ | assumption | refine Below.drew ?_ | refine Below.alloc ?_ (by first | omega | (simp <;> omega)) _ | refine Below.setCell ?_ (by first | omega | (simp <;> omega)) _))) (hb_w4.mono (by first | omega | (simp <;> omega)))
      clear hb_w4 c_w4_w_0 f_w4_w_0
      try clear c_w3_w_0_0
      try clear f_w3_w_0_0
      try clear c_w3_w_0_1
      try clear f_w3_w_0_1
      try clear c_w3_w_0_2
      try clear f_w3_w_0_2
      try clear c_w3_w_0_3
      try clear f_w3_w_0_3
      try clear c_w3_w_0_4
      try clear f_w3_w_0_4
      try clear c_w3_w_0_5
      try clear f_w3_w_0_5
      try clear far_w3_w_0
      try clear hB_w3
      have far_w4_w_0 := far (show w.heap.size < w4.heap.size by omega)
      go_wp2_with fail
      refine Calls.mono (V3.out _ (by (repeat (first | (with_reducible exact Below.refl _ _) | (with_reducible assumption) | (with_reducible refine Below.drew ?_) | (focus ((with_reducible refine Below.setCell ?_ ?_ _); rotate_left; (first | omega | (simp <;> omega)))) | (focus ((with_reducible refine Below.alloc ?_ ?_ _); rotate_left; (first | omega | (simp <;> omega)))) | exact Below.refl _ _ | assumption | refine Below.drew ?_ | refine Below.alloc ?_ (by first | omega | (simp <;> omega)) _ | refine Below.setCell ?_ (by first | omega | (simp <;> omega)) _)))) ?_
      rintro e w5 ⟨rfl, hb_w5⟩
      have hz_w5 := hb_w5.size
      try simp at hz_w5
      obtain ⟨c_w5_w_0, f_w5_w_0⟩ := bk hb_w5 (w.heap.size) (by first | omega | (simp <;> omega))
      have c_w5_w_0_0 := c_w5_w_0 0
      conv at c_w5_w_0_0 => rhs; simp [go_sem, *]
      have f_w5_w_0_0 := f_w5_w_0 0
      conv at f_w5_w_0_0 => rhs; simp [go_sem, *]
      have c_w5_w_0_1 := c_w5_w_0 1
      conv at c_w5_w_0_1 => rhs; simp [go_sem, *]
      have f_w5_w_0_1 := f_w5_w_0 1
      conv at f_w5_w_0_1 => rhs; simp [go_sem, *]
      have c_w5_w_0_2 := c_w5_w_0 2
      conv at c_w5_w_0_2 => rhs; simp [go_sem, *]
      have f_w5_w_0_2 := f_w5_w_0 2
      conv at f_w5_w_0_2 => rhs; simp [go_sem, *]
      have c_w5_w_0_3 := c_w5_w_0 3
      conv at c_w5_w_0_3 => rhs; simp [go_sem, *]
      have f_w5_w_0_3 := f_w5_w_0 3
      conv at f_w5_w_0_3 => rhs; simp [go_sem, *]
      have c_w5_w_0_4 := c_w5_w_0 4
      conv at c_w5_w_0_4 => rhs; simp [go_sem, *]
      have f_w5_w_0_4 := f_w5_w_0 4
      conv at f_w5_w_0_4 => rhs; simp [go_sem, *]
      have c_w5_w_0_5 := c_w5_w_0 5
      conv at c_w5_w_0_5 => rhs; simp [go_sem, *]
      have f_w5_w_0_5 := f_w5_w_0 5
      conv at f_w5_w_0_5 => rhs; simp [go_sem, *]
      have HH_w5 := Lib.hid hb_w5
      have hB_w5 : Below w.heap.size w w5 := Below.trans (by (repeat (first | (with_reducible exact Below.refl _ _) | (with_reducible assumption) | (with_reducible refine Below.drew ?_) | (focus ((with_reducible refine Below.setCell ?_ ?_ _); rotate_left; (first | omega | (simp <;> omega)))) | (focus ((with_reducible refine Below.alloc ?_ ?_ _); rotate_left; (first | omega | (simp <;> omega)))) | exact Below.refl _ _ | assumption | refine Below.drew ?_ | refine Below.alloc ?_ (by first | omega | (simp <;> omega)) _ | refine Below.setCell ?_ (by first | omega | (simp <;> omega)) _))) (hb_w5.mono (by first | omega | (simp <;> omega)))
      clear hb_w5 c_w5_w_0 f_w5_w_0
      try clear c_w4_w_0_0
      try clear f_w4_w_0_0
      try clear c_w4_w_0_1
      try clear f_w4_w_0_1
      try clear c_w4_w_0_2
      try clear f_w4_w_0_2
      try clear c_w4_w_0_3
      try clear f_w4_w_0_3
      try clear c_w4_w_0_4
      try clear f_w4_w_0_4
      try clear c_w4_w_0_5
      try clear f_w4_w_0_5
      try clear far_w4_w_0
      try clear hB_w4
      have far_w5_w_0 := far (show w.heap.size < w5.heap.size by omega)
      go_wp2
      go_loop [13, 55] (fun pv iv => ∃ i : Nat, iv = .int .i64 i ∧ i ≤ s.length ∧ pv = .bool ((s.take i).all fun c => decide (c.toNat < 128))) (fun _ iv => s.length - (intOf iv).toNat)
      case atStart => exact ⟨0, rfl, Nat.zero_le _, rfl⟩
      case round =>
        obtain ⟨i, rfl, hi, rfl⟩ := hrel
        by_cases hil : i < s.length
        · have hbat := bAt_eq hil
          have HTK := Lib.hid (show ((s.take (i + 1)).all fun c => decide (c.toNat < 128)) = (((s.take i).all fun c => decide (c.toNat < 128)) && decide (s[i].toNat < 128)) by rw [List.take_succ_eq_append_getElem hil, List.all_append]; simp)
          obtain ⟨c, hc⟩ : ∃ c, s[i] = c := ⟨_, rfl⟩
          rw [hc] at hbat HTK
          clear hc
          obtain ⟨cur, hcur⟩ : ∃ q, ((s.take i).all fun c => decide (c.toNat < 128)) = q := ⟨_, rfl⟩
          rw [hcur] at HTK ⊢
          clear hcur
          cases cur with
          | false =>
            clear hbat
            go_wp2_with fail
            go_round
            case rel => exact ⟨i + 1, by go_num, by omega, by rw [HTK.out]; rfl⟩
            case measure => simp [intOf]; omega
          | true =>
            by_cases h128 : c.toNat < 128
            · have g1 : bAt s i < 128 := by omega
              have HT2 := Lib.hid (show ((s.take (i + 1)).all fun c => decide (c.toNat < 128)) = true by rw [HTK.out]; simp [h128])
              clear hbat h128
              go_wp2_with fail
              go_round
              case rel => exact ⟨i + 1, by go_num, by omega, by rw [HT2.out]⟩
              case measure => simp [intOf]; omega
            · have g1 : ¬ bAt s i < 128 := by omega
              have HT2 := Lib.hid (show ((s.take (i + 1)).all fun c => decide (c.toNat < 128)) = false by rw [HTK.out]; simp [h128])
              clear hbat h128
              go_wp2_with fail
              go_round
              case rel => exact ⟨i + 1, by go_num, by omega, by rw [HT2.out]⟩
              case measure => simp [intOf]; omega
        · obtain rfl : i = s.length := by omega
          rw [List.take_length]
          rw [HP.out]
          obtain ⟨a', ha', e1, e2⟩ := HLL.out (HA.out HP.out) HNE.out
          obtain ⟨rfl, rfl⟩ := Prod.mk.inj e1
          obtain ⟨rfl, rfl⟩ := Prod.mk.inj e2
          rcases ha' with rfl | rfl
          all_goals
            cases hCe : C.isEmpty with
            | true =>
              obtain rfl : C = [] := by simpa using hCe
              go_wp2_with (first | (go_at_call 10; refine Calls.mono (AL.out _ (by (repeat (first | (with_reducible exact Below.refl _ _) | (with_reducible assumption) | (with_reducible refine Below.drew ?_) | (focus ((with_reducible refine Below.setCell ?_ ?_ _); rotate_left; (first | omega | (simp <;> omega)))) | (focus ((with_reducible refine Below.alloc ?_ ?_ _); rotate_left; (first | omega | (simp <;> omega)))) | exact Below.refl _ _ | assumption | refine Below.drew ?_ | refine Below.alloc ?_ (by first | omega | (simp <;> omega)) _ | refine Below.setCell ?_ (by first | omega | (simp <;> omega)) _)))) ?_; rintro x w9 ⟨rfl, hb9⟩; have HB9 := Lib.hid hb9; clear hb9) | fail)
              go_ret
              exact ⟨ret_bool (by simp), Below.trans (show Below w.heap.size w w5 by (repeat (first | (with_reducible exact Below.refl _ _) | (with_reducible assumption) | (with_reducible refine Below.drew ?_) | (focus ((with_reducible refine Below.setCell ?_ ?_ _); rotate_left; (first | omega | (simp <;> omega)))) | (focus ((with_reducible refine Below.alloc ?_ ?_ _); rotate_left; (first | omega | (simp <;> omega)))) | exact Below.refl _ _ | assumption | refine Below.drew ?_ | refine Below.alloc ?_ (by first | omega | (simp <;> omega)) _ | refine Below.setCell ?_ (by first | omega | (simp <;> omega)) _))) (HB9.out.mono (by omega))⟩
            | false =>
              have hCb : (C == []) = false := by cases C with | nil => simp at hCe | cons p q => rfl
              go_wp2_with (first | (go_at_call 10; refine Calls.mono (AL.out _ (by (repeat (first | (with_reducible exact Below.refl _ _) | (with_reducible assumption) | (with_reducible refine Below.drew ?_) | (focus ((with_reducible refine Below.setCell ?_ ?_ _); rotate_left; (first | omega | (simp <;> omega)))) | (focus ((with_reducible refine Below.alloc ?_ ?_ _); rotate_left; (first | omega | (simp <;> omega)))) | exact Below.refl _ _ | assumption | refine Below.drew ?_ | refine Below.alloc ?_ (by first | omega | (simp <;> omega)) _ | refine Below.setCell ?_ (by first | omega | (simp <;> omega)) _)))) ?_; rintro x w9 ⟨rfl, hb9⟩; have HB9 := Lib.hid hb9; clear hb9) | fail)
              go_ret
              exact ⟨ret_bool (by simp), Below.trans (show Below w.heap.size w w5 by (repeat (first | (with_reducible exact Below.refl _ _) | (with_reducible assumption) | (with_reducible refine Below.drew ?_) | (focus ((with_reducible refine Below.setCell ?_ ?_ _); rotate_left; (first | omega | (simp <;> omega)))) | (focus ((with_reducible refine Below.alloc ?_ ?_ _); rotate_left; (first | omega | (simp <;> omega)))) | exact Below.refl _ _ | assumption | refine Below.drew ?_ | refine Below.alloc ?_ (by first | omega | (simp <;> omega)) _ | refine Below.setCell ?_ (by first | omega | (simp <;> omega)) _))) (HB9.out.mono (by omega))⟩
    · have q1 : (s == [98, 114, 111, 119, 115, 101, 114]) = false := by simpa using k1
      by_cases k2 : s = [118, 101, 114, 115, 105, 111, 110]
      · have q2 : (s == [118, 101, 114, 115, 105, 111, 110]) = true := by rw [k2]; rfl
        have HP := Lib.hid (show (s.all fun c => decide (c.toNat < 128)) = true by rw [k2]; rfl)
        clear k0 hne k2 k1
        go_enter Tryz.func5, Tryz.ntmps5
        go_wp2_with fail
        refine Calls.mono (FE.out _) ?_
        rintro e w1 ⟨rfl, hb_w1⟩
        have hz_w1 := hb_w1.size
        try simp at hz_w1
        obtain ⟨c_w1_w_0, f_w1_w_0⟩ := bk hb_w1 (w.heap.size) (by first | omega | (simp <;> omega))
        have c_w1_w_0_0 := c_w1_w_0 0
        conv at c_w1_w_0_0 => rhs; simp [go_sem, *]
        have f_w1_w_0_0 := f_w1_w_0 0
        conv at f_w1_w_0_0 => rhs; simp [go_sem, *]
        have c_w1_w_0_1 := c_w1_w_0 1
        conv at c_w1_w_0_1 => rhs; simp [go_sem, *]
        have f_w1_w_0_1 := f_w1_w_0 1
        conv at f_w1_w_0_1 => rhs; simp [go_sem, *]
        have c_w1_w_0_2 := c_w1_w_0 2
        conv at c_w1_w_0_2 => rhs; simp [go_sem, *]
        have f_w1_w_0_2 := f_w1_w_0 2
        conv at f_w1_w_0_2 => rhs; simp [go_sem, *]
        have c_w1_w_0_3 := c_w1_w_0 3
        conv at c_w1_w_0_3 => rhs; simp [go_sem, *]
        have f_w1_w_0_3 := f_w1_w_0 3
        conv at f_w1_w_0_3 => rhs; simp [go_sem, *]
        have c_w1_w_0_4 := c_w1_w_0 4
        conv at c_w1_w_0_4 => rhs; simp [go_sem, *]
        have f_w1_w_0_4 := f_w1_w_0 4
        conv at f_w1_w_0_4 => rhs; simp [go_sem, *]
        have c_w1_w_0_5 := c_w1_w_0 5
        conv at c_w1_w_0_5 => rhs; simp [go_sem, *]
        have f_w1_w_0_5 := f_w1_w_0 5
        conv at f_w1_w_0_5 => rhs; simp [go_sem, *]
        have HH_w1 := Lib.hid hb_w1
        have hB_w1 : Below w.heap.size w w1 := Below.trans (by (repeat (first | (with_reducible exact Below.refl _ _) | (with_reducible assumption) | (with_reducible refine Below.drew ?_) | (focus ((with_reducible refine Below.setCell ?_ ?_ _); rotate_left; (first | omega | (simp <;> omega)))) | (focus ((with_reducible refine Below.alloc ?_ ?_ _); rotate_left; (first | omega | (simp <;> omega)))) | exact Below.refl _ _ | assumption | refine Below.drew ?_ | refine Below.alloc ?_ (by first | omega | (simp <;> omega)) _ | refine Below.setCell ?_ (by first | omega | (simp <;> omega)) _))) (hb_w1.mono (by first | omega | (simp <;> omega)))
        clear hb_w1 c_w1_w_0 f_w1_w_0
        try clear c_w5_w_0_0
        try clear f_w5_w_0_0
        try clear c_w5_w_0_1
        try clear f_w5_w_0_1
        try clear c_w5_w_0_2
        try clear f_w5_w_0_2
        try clear c_w5_w_0_3
        try clear f_w5_w_0_3
        try clear c_w5_w_0_4
        try clear f_w5_w_0_4
        try clear c_w5_w_0_5
        try clear f_w5_w_0_5
        try clear far_w5_w_0
        try clear hB_w5
        have far_w1_w_0 := far (show w.heap.size < w1.heap.size by omega)
        go_wp2_with (first | (go_at_call 7; refine Calls.mono (SH.out _) ?_; rintro x wq ⟨rfl, hwq⟩; obtain rfl := hwq.symm) | fail)
        go_wp2_with fail
        refine Calls.mono (TU.out _ (by (repeat (first | (with_reducible exact Below.refl _ _) | (with_reducible assumption) | (with_reducible refine Below.drew ?_) | (focus ((with_reducible refine Below.setCell ?_ ?_ _); rotate_left; (first | omega | (simp <;> omega)))) | (focus ((with_reducible refine Below.alloc ?_ ?_ _); rotate_left; (first | omega | (simp <;> omega)))) | exact Below.refl _ _ | assumption | refine Below.drew ?_ | refine Below.alloc ?_ (by first | omega | (simp <;> omega)) _ | refine Below.setCell ?_ (by first | omega | (simp <;> omega)) _)))) ?_
        rintro e w2 ⟨rfl, hb_w2⟩
        have hz_w2 := hb_w2.size
        try simp at hz_w2
        obtain ⟨c_w2_w_0, f_w2_w_0⟩ := bk hb_w2 (w.heap.size) (by first | omega | (simp <;> omega))
        have c_w2_w_0_0 := c_w2_w_0 0
        conv at c_w2_w_0_0 => rhs; simp [go_sem, *]
        have f_w2_w_0_0 := f_w2_w_0 0
        conv at f_w2_w_0_0 => rhs; simp [go_sem, *]
        have c_w2_w_0_1 := c_w2_w_0 1
        conv at c_w2_w_0_1 => rhs; simp [go_sem, *]
        have f_w2_w_0_1 := f_w2_w_0 1
        conv at f_w2_w_0_1 => rhs; simp [go_sem, *]
        have c_w2_w_0_2 := c_w2_w_0 2
        conv at c_w2_w_0_2 => rhs; simp [go_sem, *]
        have f_w2_w_0_2 := f_w2_w_0 2
        conv at f_w2_w_0_2 => rhs; simp [go_sem, *]
        have c_w2_w_0_3 := c_w2_w_0 3
        conv at c_w2_w_0_3 => rhs; simp [go_sem, *]
        have f_w2_w_0_3 := f_w2_w_0 3
        conv at f_w2_w_0_3 => rhs; simp [go_sem, *]
        have c_w2_w_0_4 := c_w2_w_0 4
        conv at c_w2_w_0_4 => rhs; simp [go_sem, *]
        have f_w2_w_0_4 := f_w2_w_0 4
        conv at f_w2_w_0_4 => rhs; simp [go_sem, *]
        have c_w2_w_0_5 := c_w2_w_0 5
        conv at c_w2_w_0_5 => rhs; simp [go_sem, *]
        have f_w2_w_0_5 := f_w2_w_0 5
        conv at f_w2_w_0_5 => rhs; simp [go_sem, *]
        have HH_w2 := Lib.hid hb_w2
        have hB_w2 : Below w.heap.size w w2 := Below.trans (by (repeat (first | (with_reducible exact Below.refl _ _) | (with_reducible assumption) | (with_reducible refine Below.drew ?_) | (focus ((with_reducible refine Below.setCell ?_ ?_ _); rotate_left; (first | omega | (simp <;> omega)))) | (focus ((with_reducible refine Below.alloc ?_ ?_ _); rotate_left; (first | omega | (simp <;> omega)))) | exact Below.refl _ _ | assumption | refine Below.drew ?_ | refine Below.alloc ?_ (by first | omega | (simp <;> omega)) _ | refine Below.setCell ?_ (by first | omega | (simp <;> omega)) _))) (hb_w2.mono (by first | omega | (simp <;> omega)))
        clear hb_w2 c_w2_w_0 f_w2_w_0
        try clear c_w1_w_0_0
        try clear f_w1_w_0_0
        try clear c_w1_w_0_1
        try clear f_w1_w_0_1
        try clear c_w1_w_0_2
        try clear f_w1_w_0_2
        try clear c_w1_w_0_3
        try clear f_w1_w_0_3
        try clear c_w1_w_0_4
        try clear f_w1_w_0_4
        try clear c_w1_w_0_5
        try clear f_w1_w_0_5
        try clear far_w1_w_0
        try clear hB_w1
        have far_w2_w_0 := far (show w.heap.size < w2.heap.size by omega)
        go_wp2_with fail
        refine Calls.mono (V1.out _ (by (repeat (first | (with_reducible exact Below.refl _ _) | (with_reducible assumption) | (with_reducible refine Below.drew ?_) | (focus ((with_reducible refine Below.setCell ?_ ?_ _); rotate_left; (first | omega | (simp <;> omega)))) | (focus ((with_reducible refine Below.alloc ?_ ?_ _); rotate_left; (first | omega | (simp <;> omega)))) | exact Below.refl _ _ | assumption | refine Below.drew ?_ | refine Below.alloc ?_ (by first | omega | (simp <;> omega)) _ | refine Below.setCell ?_ (by first | omega | (simp <;> omega)) _)))) ?_
        rintro e w3 ⟨rfl, hb_w3⟩
        have hz_w3 := hb_w3.size
        try simp at hz_w3
        obtain ⟨c_w3_w_0, f_w3_w_0⟩ := bk hb_w3 (w.heap.size) (by first | omega | (simp <;> omega))
        have c_w3_w_0_0 := c_w3_w_0 0
        conv at c_w3_w_0_0 => rhs; simp [go_sem, *]
        have f_w3_w_0_0 := f_w3_w_0 0
        conv at f_w3_w_0_0 => rhs; simp [go_sem, *]
        have c_w3_w_0_1 := c_w3_w_0 1
        conv at c_w3_w_0_1 => rhs; simp [go_sem, *]
        have f_w3_w_0_1 := f_w3_w_0 1
        conv at f_w3_w_0_1 => rhs; simp [go_sem, *]
        have c_w3_w_0_2 := c_w3_w_0 2
        conv at c_w3_w_0_2 => rhs; simp [go_sem, *]
        have f_w3_w_0_2 := f_w3_w_0 2
        conv at f_w3_w_0_2 => rhs; simp [go_sem, *]
        have c_w3_w_0_3 := c_w3_w_0 3
        conv at c_w3_w_0_3 => rhs; simp [go_sem, *]
        have f_w3_w_0_3 := f_w3_w_0 3
        conv at f_w3_w_0_3 => rhs; simp [go_sem, *]
        have c_w3_w_0_4 := c_w3_w_0 4
        conv at c_w3_w_0_4 => rhs; simp [go_sem, *]
        have f_w3_w_0_4 := f_w3_w_0 4
        conv at f_w3_w_0_4 => rhs; simp [go_sem, *]
        have c_w3_w_0_5 := c_w3_w_0 5
        conv at c_w3_w_0_5 => rhs; simp [go_sem, *]
        have f_w3_w_0_5 := f_w3_w_0 5
        conv at f_w3_w_0_5 => rhs; simp [go_sem, *]
        have HH_w3 := Lib.hid hb_w3
        have hB_w3 : Below w.heap.size w w3 := Below.trans (by (repeat (first | (with_reducible exact Below.refl _ _) | (with_reducible assumption) | (with_reducible refine Below.drew ?_) | (focus ((with_reducible refine Below.setCell ?_ ?_ _); rotate_left; (first | omega | (simp <;> omega)))) | (focus ((with_reducible refine Below.alloc ?_ ?_ _); rotate_left; (first | omega | (simp <;> omega)))) | exact Below.refl _ _ | assumption | refine Below.drew ?_ | refine Below.alloc ?_ (by first | omega | (simp <;> omega)) _ | refine Below.setCell ?_ (by first | omega | (simp <;> omega)) _))) (hb_w3.mono (by first | omega | (simp <;> omega)))
        clear hb_w3 c_w3_w_0 f_w3_w_0
        try clear c_w2_w_0_0
        try clear f_w2_w_0_0
        try clear c_w2_w_0_1
        try clear f_w2_w_0_1
        try clear c_w2_w_0_2
        try clear f_w2_w_0_2
        try clear c_w2_w_0_3
        try clear f_w2_w_0_3
        try clear c_w2_w_0_4
        try clear f_w2_w_0_4
        try clear c_w2_w_0_5
        try clear f_w2_w_0_5
        try clear far_w2_w_0
        try clear hB_w2
        have far_w3_w_0 := far (show w.heap.size < w3.heap.size by omega)
        go_wp2_with fail
        refine Calls.mono (V2.out _ (by (repeat (first | (with_reducible exact Below.refl _ _) | (with_reducible assumption) | (with_reducible refine Below.drew ?_) | (focus ((with_reducible refine Below.setCell ?_ ?_ _); rotate_left; (first | omega | (simp <;> omega)))) | (focus ((with_reducible refine Below.alloc ?_ ?_ _); rotate_left; (first | omega | (simp <;> omega)))) | exact Below.refl _ _ | assumption | refine Below.drew ?_ | refine Below.alloc ?_ (by first | omega | (simp <;> omega)) _ | refine Below.setCell ?_ (by first | omega | (simp <;> omega)) _)))) ?_
        rintro e w4 ⟨rfl, hb_w4⟩
        have hz_w4 := hb_w4.size
        try simp at hz_w4
        obtain ⟨c_w4_w_0, f_w4_w_0⟩ := bk hb_w4 (w.heap.size) (by first | omega | (simp <;> omega))
        have c_w4_w_0_0 := c_w4_w_0 0
        conv at c_w4_w_0_0 => rhs; simp [go_sem, *]
        have f_w4_w_0_0 := f_w4_w_0 0
        conv at f_w4_w_0_0 => rhs; simp [go_sem, *]
        have c_w4_w_0_1 := c_w4_w_0 1
        conv at c_w4_w_0_1 => rhs; simp [go_sem, *]
        have f_w4_w_0_1 := f_w4_w_0 1
        conv at f_w4_w_0_1 => rhs; simp [go_sem, *]
        have c_w4_w_0_2 := c_w4_w_0 2
        conv at c_w4_w_0_2 => rhs; simp [go_sem, *]
        have f_w4_w_0_2 := f_w4_w_0 2
        conv at f_w4_w_0_2 => rhs; simp [go_sem, *]
        have c_w4_w_0_3 := c_w4_w_0 3
        conv at c_w4_w_0_3 => rhs; simp [go_sem, *]
        have f_w4_w_0_3 := f_w4_w_0 3
        conv at f_w4_w_0_3 => rhs; simp [go_sem, *]
        have c_w4_w_0_4 := c_w4_w_0 4
        conv at c_w4_w_0_4 => rhs; simp [go_sem, *]
        have f_w4_w_0_4 := f_w4_w_0 4
        conv at f_w4_w_0_4 => rhs; simp [go_sem, *]
        have c_w4_w_0_5 := c_w4_w_0 5
        conv at c_w4_w_0_5 => rhs; simp [go_sem, *]
        have f_w4_w_0_5 := f_w4_w_0 5
        conv at f_w4_w_0_5 => rhs; simp [go_sem, *]
        have HH_w4 := Lib.hid hb_w4
        have hB_w4 : Below w.heap.size w w4 := Below.trans (by (repeat (first | (with_reducible exact Below.refl _ _) | (with_reducible assumption) | (with_reducible refine Below.drew ?_) | (focus ((with_reducible refine Below.setCell ?_ ?_ _); rotate_left; (first | omega | (simp <;> omega)))) | (focus ((with_reducible refine Below.alloc ?_ ?_ _); rotate_left; (first | omega | (simp <;> omega)))) | exact Below.refl _ _ | assumption | refine Below.drew ?_ | refine Below.alloc ?_ (by first | omega | (simp <;> omega)) _ | refine Below.setCell ?_ (by first | omega | (simp <;> omega)) _))) (hb_w4.mono (by first | omega | (simp <;> omega)))
        clear hb_w4 c_w4_w_0 f_w4_w_0
        try clear c_w3_w_0_0
        try clear f_w3_w_0_0
        try clear c_w3_w_0_1
        try clear f_w3_w_0_1
        try clear c_w3_w_0_2
        try clear f_w3_w_0_2
        try clear c_w3_w_0_3
        try clear f_w3_w_0_3
        try clear c_w3_w_0_4
        try clear f_w3_w_0_4
        try clear c_w3_w_0_5
        try clear f_w3_w_0_5
        try clear far_w3_w_0
        try clear hB_w3
        have far_w4_w_0 := far (show w.heap.size < w4.heap.size by omega)
        go_wp2_with fail
        refine Calls.mono (V3.out _ (by (repeat (first | (with_reducible exact Below.refl _ _) | (with_reducible assumption) | (with_reducible refine Below.drew ?_) | (focus ((with_reducible refine Below.setCell ?_ ?_ _); rotate_left; (first | omega | (simp <;> omega)))) | (focus ((with_reducible refine Below.alloc ?_ ?_ _); rotate_left; (first | omega | (simp <;> omega)))) | exact Below.refl _ _ | assumption | refine Below.drew ?_ | refine Below.alloc ?_ (by first | omega | (simp <;> omega)) _ | refine Below.setCell ?_ (by first | omega | (simp <;> omega)) _)))) ?_
        rintro e w5 ⟨rfl, hb_w5⟩
        have hz_w5 := hb_w5.size
        try simp at hz_w5
        obtain ⟨c_w5_w_0, f_w5_w_0⟩ := bk hb_w5 (w.heap.size) (by first | omega | (simp <;> omega))
        have c_w5_w_0_0 := c_w5_w_0 0
        conv at c_w5_w_0_0 => rhs; simp [go_sem, *]
        have f_w5_w_0_0 := f_w5_w_0 0
        conv at f_w5_w_0_0 => rhs; simp [go_sem, *]
        have c_w5_w_0_1 := c_w5_w_0 1
        conv at c_w5_w_0_1 => rhs; simp [go_sem, *]
        have f_w5_w_0_1 := f_w5_w_0 1
        conv at f_w5_w_0_1 => rhs; simp [go_sem, *]
        have c_w5_w_0_2 := c_w5_w_0 2
        conv at c_w5_w_0_2 => rhs; simp [go_sem, *]
        have f_w5_w_0_2 := f_w5_w_0 2
        conv at f_w5_w_0_2 => rhs; simp [go_sem, *]
        have c_w5_w_0_3 := c_w5_w_0 3
        conv at c_w5_w_0_3 => rhs; simp [go_sem, *]
        have f_w5_w_0_3 := f_w5_w_0 3
        conv at f_w5_w_0_3 => rhs; simp [go_sem, *]
        have c_w5_w_0_4 := c_w5_w_0 4
        conv at c_w5_w_0_4 => rhs; simp [go_sem, *]
        have f_w5_w_0_4 := f_w5_w_0 4
        conv at f_w5_w_0_4 => rhs; simp [go_sem, *]
        have c_w5_w_0_5 := c_w5_w_0 5
        conv at c_w5_w_0_5 => rhs; simp [go_sem, *]
        have f_w5_w_0_5 := f_w5_w_0 5
        conv at f_w5_w_0_5 => rhs; simp [go_sem, *]
        have HH_w5 := Lib.hid hb_w5
        have hB_w5 : Below w.heap.size w w5 := Below.trans (by (repeat (first | (with_reducible exact Below.refl _ _) | (with_reducible assumption) | (with_reducible refine Below.drew ?_) | (focus ((with_reducible refine Below.setCell ?_ ?_ _); rotate_left; (first | omega | (simp <;> omega)))) | (focus ((with_reducible refine Below.alloc ?_ ?_ _); rotate_left; (first | omega | (simp <;> omega)))) | exact Below.refl _ _ | assumption | refine Below.drew ?_ | refine Below.alloc ?_ (by first | omega | (simp <;> omega)) _ | refine Below.setCell ?_ (by first | omega | (simp <;> omega)) _))) (hb_w5.mono (by first | omega | (simp <;> omega)))
        clear hb_w5 c_w5_w_0 f_w5_w_0
        try clear c_w4_w_0_0
        try clear f_w4_w_0_0
        try clear c_w4_w_0_1
        try clear f_w4_w_0_1
        try clear c_w4_w_0_2
        try clear f_w4_w_0_2
        try clear c_w4_w_0_3
        try clear f_w4_w_0_3
        try clear c_w4_w_0_4
        try clear f_w4_w_0_4
        try clear c_w4_w_0_5
        try clear f_w4_w_0_5
        try clear far_w4_w_0
        try clear hB_w4
        have far_w5_w_0 := far (show w.heap.size < w5.heap.size by omega)
        go_wp2
        go_loop [13, 55] (fun pv iv => ∃ i : Nat, iv = .int .i64 i ∧ i ≤ s.length ∧ pv = .bool ((s.take i).all fun c => decide (c.toNat < 128))) (fun _ iv => s.length - (intOf iv).toNat)
        case atStart => exact ⟨0, rfl, Nat.zero_le _, rfl⟩
        case round =>
          obtain ⟨i, rfl, hi, rfl⟩ := hrel
          by_cases hil : i < s.length
          · have hbat := bAt_eq hil
            have HTK := Lib.hid (show ((s.take (i + 1)).all fun c => decide (c.toNat < 128)) = (((s.take i).all fun c => decide (c.toNat < 128)) && decide (s[i].toNat < 128)) by rw [List.take_succ_eq_append_getElem hil, List.all_append]; simp)
            obtain ⟨c, hc⟩ : ∃ c, s[i] = c := ⟨_, rfl⟩
            rw [hc] at hbat HTK
            clear hc
            obtain ⟨cur, hcur⟩ : ∃ q, ((s.take i).all fun c => decide (c.toNat < 128)) = q := ⟨_, rfl⟩
            rw [hcur] at HTK ⊢
            clear hcur
            cases cur with
            | false =>
              clear hbat
              go_wp2_with fail
              go_round
              case rel => exact ⟨i + 1, by go_num, by omega, by rw [HTK.out]; rfl⟩
              case measure => simp [intOf]; omega
            | true =>
              by_cases h128 : c.toNat < 128
              · have g1 : bAt s i < 128 := by omega
                have HT2 := Lib.hid (show ((s.take (i + 1)).all fun c => decide (c.toNat < 128)) = true by rw [HTK.out]; simp [h128])
                clear hbat h128
                go_wp2_with fail
                go_round
                case rel => exact ⟨i + 1, by go_num, by omega, by rw [HT2.out]⟩
                case measure => simp [intOf]; omega
              · have g1 : ¬ bAt s i < 128 := by omega
                have HT2 := Lib.hid (show ((s.take (i + 1)).all fun c => decide (c.toNat < 128)) = false by rw [HTK.out]; simp [h128])
                clear hbat h128
                go_wp2_with fail
                go_round
                case rel => exact ⟨i + 1, by go_num, by omega, by rw [HT2.out]⟩
                case measure => simp [intOf]; omega
          · obtain rfl : i = s.length := by omega
            rw [List.take_length]
            rw [HP.out]
            obtain ⟨a', ha', e1, e2⟩ := HLL.out (HA.out HP.out) HNE.out
            obtain ⟨rfl, rfl⟩ := Prod.mk.inj e1
            obtain ⟨rfl, rfl⟩ := Prod.mk.inj e2
            rcases ha' with rfl | rfl
            all_goals
              cases hCe : C.isEmpty with
              | true =>
                obtain rfl : C = [] := by simpa using hCe
                go_wp2_with (first | (go_at_call 10; refine Calls.mono (AL.out _ (by (repeat (first | (with_reducible exact Below.refl _ _) | (with_reducible assumption) | (with_reducible refine Below.drew ?_) | (focus ((with_reducible refine Below.setCell ?_ ?_ _); rotate_left; (first | omega | (simp <;> omega)))) | (focus ((with_reducible refine Below.alloc ?_ ?_ _); rotate_left; (first | omega | (simp <;> omega)))) | exact Below.refl _ _ | assumption | refine Below.drew ?_ | refine Below.alloc ?_ (by first | omega | (simp <;> omega)) _ | refine Below.setCell ?_ (by first | omega | (simp <;> omega)) _)))) ?_; rintro x w9 ⟨rfl, hb9⟩; have HB9 := Lib.hid hb9; clear hb9) | fail)
                go_ret
                exact ⟨ret_bool (by simp), Below.trans (show Below w.heap.size w w5 by (repeat (first | (with_reducible exact Below.refl _ _) | (with_reducible assumption) | (with_reducible refine Below.drew ?_) | (focus ((with_reducible refine Below.setCell ?_ ?_ _); rotate_left; (first | omega | (simp <;> omega)))) | (focus ((with_reducible refine Below.alloc ?_ ?_ _); rotate_left; (first | omega | (simp <;> omega)))) | exact Below.refl _ _ | assumption | refine Below.drew ?_ | refine Below.alloc ?_ (by first | omega | (simp <;> omega)) _ | refine Below.setCell ?_ (by first | omega | (simp <;> omega)) _))) (HB9.out.mono (by omega))⟩
              | false =>
                have hCb : (C == []) = false := by cases C with | nil => simp at hCe | cons p q => rfl
                go_wp2_with (first | (go_at_call 10; refine Calls.mono (AL.out _ (by (repeat (first | (with_reducible exact Below.refl _ _) | (with_reducible assumption) | (with_reducible refine Below.drew ?_) | (focus ((with_reducible refine Below.setCell ?_ ?_ _); rotate_left; (first | omega | (simp <;> omega)))) | (focus ((with_reducible refine Below.alloc ?_ ?_ _); rotate_left; (first | omega | (simp <;> omega)))) | exact Below.refl _ _ | assumption | refine Below.drew ?_ | refine Below.alloc ?_ (by first | omega | (simp <;> omega)) _ | refine Below.setCell ?_ (by first | omega | (simp <;> omega)) _)))) ?_; rintro x w9 ⟨rfl, hb9⟩; have HB9 := Lib.hid hb9; clear hb9) | fail)
                go_ret
                exact ⟨ret_bool (by simp), Below.trans (show Below w.heap.size w w5 by (repeat (first | (with_reducible exact Below.refl _ _) | (with_reducible assumption) | (with_reducible refine Below.drew ?_) | (focus ((with_reducible refine Below.setCell ?_ ?_ _); rotate_left; (first | omega | (simp <;> omega)))) | (focus ((with_reducible refine Below.alloc ?_ ?_ _); rotate_left; (first | omega | (simp <;> omega)))) | exact Below.refl _ _ | assumption | refine Below.drew ?_ | refine Below.alloc ?_ (by first | omega | (simp <;> omega)) _ | refine Below.setCell ?_ (by first | omega | (simp <;> omega)) _))) (HB9.out.mono (by omega))⟩
      · have q2 : (s == [118, 101, 114, 115, 105, 111, 110]) = false := by simpa using k2
        by_cases k3 : s = [111, 115]
        · have q3 : (s == [111, 115]) = true := by rw [k3]; rfl
          have HP := Lib.hid (show (s.all fun c => decide (c.toNat < 128)) = true by rw [k3]; rfl)
          clear k0 hne k3 k1 k2
          go_enter Tryz.func5, Tryz.ntmps5
          go_wp2_with fail
          refine Calls.mono (FE.out _) ?_
          rintro e w1 ⟨rfl, hb_w1⟩
          have hz_w1 := hb_w1.size
          try simp at hz_w1
          obtain ⟨c_w1_w_0, f_w1_w_0⟩ := bk hb_w1 (w.heap.size) (by first | omega | (simp <;> omega))
          have c_w1_w_0_0 := c_w1_w_0 0
          conv at c_w1_w_0_0 => rhs; simp [go_sem, *]
          have f_w1_w_0_0 := f_w1_w_0 0
          conv at f_w1_w_0_0 => rhs; simp [go_sem, *]
          have c_w1_w_0_1 := c_w1_w_0 1
          conv at c_w1_w_0_1 => rhs; simp [go_sem, *]
          have f_w1_w_0_1 := f_w1_w_0 1
          conv at f_w1_w_0_1 => rhs; simp [go_sem, *]
          have c_w1_w_0_2 := c_w1_w_0 2
          conv at c_w1_w_0_2 => rhs; simp [go_sem, *]
          have f_w1_w_0_2 := f_w1_w_0 2
          conv at f_w1_w_0_2 => rhs; simp [go_sem, *]
          have c_w1_w_0_3 := c_w1_w_0 3
          conv at c_w1_w_0_3 => rhs; simp [go_sem, *]
          have f_w1_w_0_3 := f_w1_w_0 3
          conv at f_w1_w_0_3 => rhs; simp [go_sem, *]
          have c_w1_w_0_4 := c_w1_w_0 4
          conv at c_w1_w_0_4 => rhs; simp [go_sem, *]
          have f_w1_w_0_4 := f_w1_w_0 4
          conv at f_w1_w_0_4 => rhs; simp [go_sem, *]
          have c_w1_w_0_5 := c_w1_w_0 5
          conv at c_w1_w_0_5 => rhs; simp [go_sem, *]
          have f_w1_w_0_5 := f_w1_w_0 5
          conv at f_w1_w_0_5 => rhs; simp [go_sem, *]
          have HH_w1 := Lib.hid hb_w1
          have hB_w1 : Below w.heap.size w w1 := Below.trans (by (repeat (first | (with_reducible exact Below.refl _ _) | (with_reducible assumption) | (with_reducible refine Below.drew ?_) | (focus ((with_reducible refine Below.setCell ?_ ?_ _); rotate_left; (first | omega | (simp <;> omega)))) | (focus ((with_reducible refine Below.alloc ?_ ?_ _); rotate_left; (first | omega | (simp <;> omega)))) | exact Below.refl _ _ | assumption | refine Below.drew ?_ | refine Below.alloc ?_ (by first | omega | (simp <;> omega)) _ | refine Below.setCell ?_ (by first | omega | (simp <;> omega)) _))) (hb_w1.mono (by first | omega | (simp <;> omega)))
          clear hb_w1 c_w1_w_0 f_w1_w_0
          try clear c_w5_w_0_0
          try clear f_w5_w_0_0
          try clear c_w5_w_0_1
          try clear f_w5_w_0_1
          try clear c_w5_w_0_2
          try clear f_w5_w_0_2
          try clear c_w5_w_0_3
          try clear f_w5_w_0_3
          try clear c_w5_w_0_4
          try clear f_w5_w_0_4
          try clear c_w5_w_0_5
          try clear f_w5_w_0_5
          try clear far_w5_w_0
          try clear hB_w5
          have far_w1_w_0 := far (show w.heap.size < w1.heap.size by omega)
          go_wp2_with (first | (go_at_call 7; refine Calls.mono (SH.out _) ?_; rintro x wq ⟨rfl, hwq⟩; obtain rfl := hwq.symm) | fail)
          go_wp2_with fail
          refine Calls.mono (TU.out _ (by (repeat (first | (with_reducible exact Below.refl _ _) | (with_reducible assumption) | (with_reducible refine Below.drew ?_) | (focus ((with_reducible refine Below.setCell ?_ ?_ _); rotate_left; (first | omega | (simp <;> omega)))) | (focus ((with_reducible refine Below.alloc ?_ ?_ _); rotate_left; (first | omega | (simp <;> omega)))) | exact Below.refl _ _ | assumption | refine Below.drew ?_ | refine Below.alloc ?_ (by first | omega | (simp <;> omega)) _ | refine Below.setCell ?_ (by first | omega | (simp <;> omega)) _)))) ?_
          rintro e w2 ⟨rfl, hb_w2⟩
          have hz_w2 := hb_w2.size
          try simp at hz_w2
          obtain ⟨c_w2_w_0, f_w2_w_0⟩ := bk hb_w2 (w.heap.size) (by first | omega | (simp <;> omega))
          have c_w2_w_0_0 := c_w2_w_0 0
          conv at c_w2_w_0_0 => rhs; simp [go_sem, *]
          have f_w2_w_0_0 := f_w2_w_0 0
          conv at f_w2_w_0_0 => rhs; simp [go_sem, *]
          have c_w2_w_0_1 := c_w2_w_0 1
          conv at c_w2_w_0_1 => rhs; simp [go_sem, *]
          have f_w2_w_0_1 := f_w2_w_0 1
          conv at f_w2_w_0_1 => rhs; simp [go_sem, *]
          have c_w2_w_0_2 := c_w2_w_0 2
          conv at c_w2_w_0_2 => rhs; simp [go_sem, *]
          have f_w2_w_0_2 := f_w2_w_0 2
          conv at f_w2_w_0_2 => rhs; simp [go_sem, *]
          have c_w2_w_0_3 := c_w2_w_0 3
          conv at c_w2_w_0_3 => rhs; simp [go_sem, *]
          have f_w2_w_0_3 := f_w2_w_0 3
          conv at f_w2_w_0_3 => rhs; simp [go_sem, *]
          have c_w2_w_0_4 := c_w2_w_0 4
          conv at c_w2_w_0_4 => rhs; simp [go_sem, *]
          have f_w2_w_0_4 := f_w2_w_0 4
          conv at f_w2_w_0_4 => rhs; simp [go_sem, *]
          have c_w2_w_0_5 := c_w2_w_0 5
          conv at c_w2_w_0_5 => rhs; simp [go_sem, *]
          have f_w2_w_0_5 := f_w2_w_0 5
          conv at f_w2_w_0_5 => rhs; simp [go_sem, *]
          have HH_w2 := Lib.hid hb_w2
          have hB_w2 : Below w.heap.size w w2 := Below.trans (by (repeat (first | (with_reducible exact Below.refl _ _) | (with_reducible assumption) | (with_reducible refine Below.drew ?_) | (focus ((with_reducible refine Below.setCell ?_ ?_ _); rotate_left; (first | omega | (simp <;> omega)))) | (focus ((with_reducible refine Below.alloc ?_ ?_ _); rotate_left; (first | omega | (simp <;> omega)))) | exact Below.refl _ _ | assumption | refine Below.drew ?_ | refine Below.alloc ?_ (by first | omega | (simp <;> omega)) _ | refine Below.setCell ?_ (by first | omega | (simp <;> omega)) _))) (hb_w2.mono (by first | omega | (simp <;> omega)))
          clear hb_w2 c_w2_w_0 f_w2_w_0
          try clear c_w1_w_0_0
          try clear f_w1_w_0_0
          try clear c_w1_w_0_1
          try clear f_w1_w_0_1
          try clear c_w1_w_0_2
          try clear f_w1_w_0_2
          try clear c_w1_w_0_3
          try clear f_w1_w_0_3
          try clear c_w1_w_0_4
          try clear f_w1_w_0_4
          try clear c_w1_w_0_5
          try clear f_w1_w_0_5
          try clear far_w1_w_0
          try clear hB_w1
          have far_w2_w_0 := far (show w.heap.size < w2.heap.size by omega)
          go_wp2_with fail
          refine Calls.mono (V1.out _ (by (repeat (first | (with_reducible exact Below.refl _ _) | (with_reducible assumption) | (with_reducible refine Below.drew ?_) | (focus ((with_reducible refine Below.setCell ?_ ?_ _); rotate_left; (first | omega | (simp <;> omega)))) | (focus ((with_reducible refine Below.alloc ?_ ?_ _); rotate_left; (first | omega | (simp <;> omega)))) | exact Below.refl _ _ | assumption | refine Below.drew ?_ | refine Below.alloc ?_ (by first | omega | (simp <;> omega)) _ | refine Below.setCell ?_ (by first | omega | (simp <;> omega)) _)))) ?_
          rintro e w3 ⟨rfl, hb_w3⟩
          have hz_w3 := hb_w3.size
          try simp at hz_w3
          obtain ⟨c_w3_w_0, f_w3_w_0⟩ := bk hb_w3 (w.heap.size) (by first | omega | (simp <;> omega))
          have c_w3_w_0_0 := c_w3_w_0 0
          conv at c_w3_w_0_0 => rhs; simp [go_sem, *]
          have f_w3_w_0_0 := f_w3_w_0 0
          conv at f_w3_w_0_0 => rhs; simp [go_sem, *]
          have c_w3_w_0_1 := c_w3_w_0 1
          conv at c_w3_w_0_1 => rhs; simp [go_sem, *]
          have f_w3_w_0_1 := f_w3_w_0 1
          conv at f_w3_w_0_1 => rhs; simp [go_sem, *]
          have c_w3_w_0_2 := c_w3_w_0 2
          conv at c_w3_w_0_2 => rhs; simp [go_sem, *]
          have f_w3_w_0_2 := f_w3_w_0 2
          conv at f_w3_w_0_2 => rhs; simp [go_sem, *]
          have c_w3_w_0_3 := c_w3_w_0 3
          conv at c_w3_w_0_3 => rhs; simp [go_sem, *]
          have f_w3_w_0_3 := f_w3_w_0 3
          conv at f_w3_w_0_3 => rhs; simp [go_sem, *]
          have c_w3_w_0_4 := c_w3_w_0 4
          conv at c_w3_w_0_4 => rhs; simp [go_sem, *]
          have f_w3_w_0_4 := f_w3_w_0 4
          conv at f_w3_w_0_4 => rhs; simp [go_sem, *]
          have c_w3_w_0_5 := c_w3_w_0 5
          conv at c_w3_w_0_5 => rhs; simp [go_sem, *]
          have f_w3_w_0_5 := f_w3_w_0 5
          conv at f_w3_w_0_5 => rhs; simp [go_sem, *]
          have HH_w3 := Lib.hid hb_w3
          have hB_w3 : Below w.heap.size w w3 := Below.trans (by (repeat (first | (with_reducible exact Below.refl _ _) | (with_reducible assumption) | (with_reducible refine Below.drew ?_) | (focus ((with_reducible refine Below.setCell ?_ ?_ _); rotate_left; (first | omega | (simp <;> omega)))) | (focus ((with_reducible refine Below.alloc ?_ ?_ _); rotate_left; (first | omega | (simp <;> omega)))) | exact Below.refl _ _ | assumption | refine Below.drew ?_ | refine Below.alloc ?_ (by first | omega | (simp <;> omega)) _ | refine Below.setCell ?_ (by first | omega | (simp <;> omega)) _))) (hb_w3.mono (by first | omega | (simp <;> omega)))
          clear hb_w3 c_w3_w_0 f_w3_w_0
          try clear c_w2_w_0_0
          try clear f_w2_w_0_0
          try clear c_w2_w_0_1
          try clear f_w2_w_0_1
          try clear c_w2_w_0_2
          try clear f_w2_w_0_2
          try clear c_w2_w_0_3
          try clear f_w2_w_0_3
          try clear c_w2_w_0_4
          try clear f_w2_w_0_4
          try clear c_w2_w_0_5
          try clear f_w2_w_0_5
          try clear far_w2_w_0
          try clear hB_w2
          have far_w3_w_0 := far (show w.heap.size < w3.heap.size by omega)
          go_wp2_with fail
          refine Calls.mono (V2.out _ (by (repeat (first | (with_reducible exact Below.refl _ _) | (with_reducible assumption) | (with_reducible refine Below.drew ?_) | (focus ((with_reducible refine Below.setCell ?_ ?_ _); rotate_left; (first | omega | (simp <;> omega)))) | (focus ((with_reducible refine Below.alloc ?_ ?_ _); rotate_left; (first | omega | (simp <;> omega)))) | exact Below.refl _ _ | assumption | refine Below.drew ?_ | refine Below.alloc ?_ (by first | omega | (simp <;> omega)) _ | refine Below.setCell ?_ (by first | omega | (simp <;> omega)) _)))) ?_
          rintro e w4 ⟨rfl, hb_w4⟩
          have hz_w4 := hb_w4.size
          try simp at hz_w4
          obtain ⟨c_w4_w_0, f_w4_w_0⟩ := bk hb_w4 (w.heap.size) (by first | omega | (simp <;> omega))
          have c_w4_w_0_0 := c_w4_w_0 0
          conv at c_w4_w_0_0 => rhs; simp [go_sem, *]
          have f_w4_w_0_0 := f_w4_w_0 0
          conv at f_w4_w_0_0 => rhs; simp [go_sem, *]
          have c_w4_w_0_1 := c_w4_w_0 1
          conv at c_w4_w_0_1 => rhs; simp [go_sem, *]
          have f_w4_w_0_1 := f_w4_w_0 1
          conv at f_w4_w_0_1 => rhs; simp [go_sem, *]
          have c_w4_w_0_2 := c_w4_w_0 2
          conv at c_w4_w_0_2 => rhs; simp [go_sem, *]
          have f_w4_w_0_2 := f_w4_w_0 2
          conv at f_w4_w_0_2 => rhs; simp [go_sem, *]
          have c_w4_w_0_3 := c_w4_w_0 3
          conv at c_w4_w_0_3 => rhs; simp [go_sem, *]
          have f_w4_w_0_3 := f_w4_w_0 3
          conv at f_w4_w_0_3 => rhs; simp [go_sem, *]
          have c_w4_w_0_4 := c_w4_w_0 4
          conv at c_w4_w_0_4 => rhs; simp [go_sem, *]
          have f_w4_w_0_4 := f_w4_w_0 4
          conv at f_w4_w_0_4 => rhs; simp [go_sem, *]
          have c_w4_w_0_5 := c_w4_w_0 5
          conv at c_w4_w_0_5 => rhs; simp [go_sem, *]
          have f_w4_w_0_5 := f_w4_w_0 5
          conv at f_w4_w_0_5 => rhs; simp [go_sem, *]
          have HH_w4 := Lib.hid hb_w4
          have hB_w4 : Below w.heap.size w w4 := Below.trans (by (repeat (first | (with_reducible exact Below.refl _ _) | (with_reducible assumption) | (with_reducible refine Below.drew ?_) | (focus ((with_reducible refine Below.setCell ?_ ?_ _); rotate_left; (first | omega | (simp <;> omega)))) | (focus ((with_reducible refine Below.alloc ?_ ?_ _); rotate_left; (first | omega | (simp <;> omega)))) | exact Below.refl _ _ | assumption | refine Below.drew ?_ | refine Below.alloc ?_ (by first | omega | (simp <;> omega)) _ | refine Below.setCell ?_ (by first | omega | (simp <;> omega)) _))) (hb_w4.mono (by first | omega | (simp <;> omega)))
          clear hb_w4 c_w4_w_0 f_w4_w_0
          try clear c_w3_w_0_0
          try clear f_w3_w_0_0
          try clear c_w3_w_0_1
          try clear f_w3_w_0_1
          try clear c_w3_w_0_2
          try clear f_w3_w_0_2
          try clear c_w3_w_0_3
          try clear f_w3_w_0_3
          try clear c_w3_w_0_4
          try clear f_w3_w_0_4
          try clear c_w3_w_0_5
          try clear f_w3_w_0_5
          try clear far_w3_w_0
          try clear hB_w3
          have far_w4_w_0 := far (show w.heap.size < w4.heap.size by omega)
          go_wp2_with fail
          refine Calls.mono (V3.out _ (by (repeat (first | (with_reducible exact Below.refl _ _) | (with_reducible assumption) | (with_reducible refine Below.drew ?_) | (focus ((with_reducible refine Below.setCell ?_ ?_ _); rotate_left; (first | omega | (simp <;> omega)))) | (focus ((with_reducible refine Below.alloc ?_ ?_ _); rotate_left; (first | omega | (simp <;> omega)))) | exact Below.refl _ _ | assumption | refine Below.drew ?_ | refine Below.alloc ?_ (by first | omega | (simp <;> omega)) _ | refine Below.setCell ?_ (by first | omega | (simp <;> omega)) _)))) ?_
          rintro e w5 ⟨rfl, hb_w5⟩
          have hz_w5 := hb_w5.size
          try simp at hz_w5
          obtain ⟨c_w5_w_0, f_w5_w_0⟩ := bk hb_w5 (w.heap.size) (by first | omega | (simp <;> omega))
          have c_w5_w_0_0 := c_w5_w_0 0
          conv at c_w5_w_0_0 => rhs; simp [go_sem, *]
          have f_w5_w_0_0 := f_w5_w_0 0
          conv at f_w5_w_0_0 => rhs; simp [go_sem, *]
          have c_w5_w_0_1 := c_w5_w_0 1
          conv at c_w5_w_0_1 => rhs; simp [go_sem, *]
          have f_w5_w_0_1 := f_w5_w_0 1
          conv at f_w5_w_0_1 => rhs; simp [go_sem, *]
          have c_w5_w_0_2 := c_w5_w_0 2
          conv at c_w5_w_0_2 => rhs; simp [go_sem, *]
          have f_w5_w_0_2 := f_w5_w_0 2
          conv at f_w5_w_0_2 => rhs; simp [go_sem, *]
          have c_w5_w_0_3 := c_w5_w_0 3
          conv at c_w5_w_0_3 => rhs; simp [go_sem, *]
          have f_w5_w_0_3 := f_w5_w_0 3
          conv at f_w5_w_0_3 => rhs; simp [go_sem, *]
          have c_w5_w_0_4 := c_w5_w_0 4
          conv at c_w5_w_0_4 => rhs; simp [go_sem, *]
          have f_w5_w_0_4 := f_w5_w_0 4
          conv at f_w5_w_0_4 => rhs; simp [go_sem, *]
          have c_w5_w_0_5 := c_w5_w_0 5
          conv at c_w5_w_0_5 => rhs; simp [go_sem, *]
          have f_w5_w_0_5 := f_w5_w_0 5
          conv at f_w5_w_0_5 => rhs; simp [go_sem, *]
          have HH_w5 := Lib.hid hb_w5
          have hB_w5 : Below w.heap.size w w5 := Below.trans (by (repeat (first | (with_reducible exact Below.refl _ _) | (with_reducible assumption) | (with_reducible refine Below.drew ?_) | (focus ((with_reducible refine Below.setCell ?_ ?_ _); rotate_left; (first | omega | (simp <;> omega)))) | (focus ((with_reducible refine Below.alloc ?_ ?_ _); rotate_left; (first | omega | (simp <;> omega)))) | exact Below.refl _ _ | assumption | refine Below.drew ?_ | refine Below.alloc ?_ (by first | omega | (simp <;> omega)) _ | refine Below.setCell ?_ (by first | omega | (simp <;> omega)) _))) (hb_w5.mono (by first | omega | (simp <;> omega)))
          clear hb_w5 c_w5_w_0 f_w5_w_0
          try clear c_w4_w_0_0
          try clear f_w4_w_0_0
          try clear c_w4_w_0_1
          try clear f_w4_w_0_1
          try clear c_w4_w_0_2
          try clear f_w4_w_0_2
          try clear c_w4_w_0_3
          try clear f_w4_w_0_3
          try clear c_w4_w_0_4
          try clear f_w4_w_0_4
          try clear c_w4_w_0_5
          try clear f_w4_w_0_5
          try clear far_w4_w_0
          try clear hB_w4
          have far_w5_w_0 := far (show w.heap.size < w5.heap.size by omega)
          go_wp2
          go_loop [13, 55] (fun pv iv => ∃ i : Nat, iv = .int .i64 i ∧ i ≤ s.length ∧ pv = .bool ((s.take i).all fun c => decide (c.toNat < 128))) (fun _ iv => s.length - (intOf iv).toNat)
          case atStart => exact ⟨0, rfl, Nat.zero_le _, rfl⟩
          case round =>
            obtain ⟨i, rfl, hi, rfl⟩ := hrel
            by_cases hil : i < s.length
            · have hbat := bAt_eq hil
              have HTK := Lib.hid (show ((s.take (i + 1)).all fun c => decide (c.toNat < 128)) = (((s.take i).all fun c => decide (c.toNat < 128)) && decide (s[i].toNat < 128)) by rw [List.take_succ_eq_append_getElem hil, List.all_append]; simp)
              obtain ⟨c, hc⟩ : ∃ c, s[i] = c := ⟨_, rfl⟩
              rw [hc] at hbat HTK
              clear hc
              obtain ⟨cur, hcur⟩ : ∃ q, ((s.take i).all fun c => decide (c.toNat < 128)) = q := ⟨_, rfl⟩
              rw [hcur] at HTK ⊢
              clear hcur
              cases cur with
              | false =>
                clear hbat
                go_wp2_with fail
                go_round
                case rel => exact ⟨i + 1, by go_num, by omega, by rw [HTK.out]; rfl⟩
                case measure => simp [intOf]; omega
              | true =>
                by_cases h128 : c.toNat < 128
                · have g1 : bAt s i < 128 := by omega
                  have HT2 := Lib.hid (show ((s.take (i + 1)).all fun c => decide (c.toNat < 128)) = true by rw [HTK.out]; simp [h128])
                  clear hbat h128
                  go_wp2_with fail
                  go_round
                  case rel => exact ⟨i + 1, by go_num, by omega, by rw [HT2.out]⟩
                  case measure => simp [intOf]; omega
                · have g1 : ¬ bAt s i < 128 := by omega
                  have HT2 := Lib.hid (show ((s.take (i + 1)).all fun c => decide (c.toNat < 128)) = false by rw [HTK.out]; simp [h128])
                  clear hbat h128
                  go_wp2_with fail
                  go_round
                  case rel => exact ⟨i + 1, by go_num, by omega, by rw [HT2.out]⟩
                  case measure => simp [intOf]; omega
            · obtain rfl : i = s.length := by omega
              rw [List.take_length]
              rw [HP.out]
              obtain ⟨a', ha', e1, e2⟩ := HLL.out (HA.out HP.out) HNE.out
              obtain ⟨rfl, rfl⟩ := Prod.mk.inj e1
              obtain ⟨rfl, rfl⟩ := Prod.mk.inj e2
              rcases ha' with rfl | rfl
              all_goals
                cases hCe : C.isEmpty with
                | true =>
                  obtain rfl : C = [] := by simpa using hCe
                  go_wp2_with (first | (go_at_call 10; refine Calls.mono (AL.out _ (by (repeat (first | (with_reducible exact Below.refl _ _) | (with_reducible assumption) | (with_reducible refine Below.drew ?_) | (focus ((with_reducible refine Below.setCell ?_ ?_ _); rotate_left; (first | omega | (simp <;> omega)))) | (focus ((with_reducible refine Below.alloc ?_ ?_ _); rotate_left; (first | omega | (simp <;> omega)))) | exact Below.refl _ _ | assumption | refine Below.drew ?_ | refine Below.alloc ?_ (by first | omega | (simp <;> omega)) _ | refine Below.setCell ?_ (by first | omega | (simp <;> omega)) _)))) ?_; rintro x w9 ⟨rfl, hb9⟩; have HB9 := Lib.hid hb9; clear hb9) | fail)
                  go_ret
                  exact ⟨ret_bool (by simp), Below.trans (show Below w.heap.size w w5 by (repeat (first | (with_reducible exact Below.refl _ _) | (with_reducible assumption) | (with_reducible refine Below.drew ?_) | (focus ((with_reducible refine Below.setCell ?_ ?_ _); rotate_left; (first | omega | (simp <;> omega)))) | (focus ((with_reducible refine Below.alloc ?_ ?_ _); rotate_left; (first | omega | (simp <;> omega)))) | exact Below.refl _ _ | assumption | refine Below.drew ?_ | refine Below.alloc ?_ (by first | omega | (simp <;> omega)) _ | refine Below.setCell ?_ (by first | omega | (simp <;> omega)) _))) (HB9.out.mono (by omega))⟩
                | false =>
                  have hCb : (C == []) = false := by cases C with | nil => simp at hCe | cons p q => rfl
                  go_wp2_with (first | (go_at_call 10; refine Calls.mono (AL.out _ (by (repeat (first | (with_reducible exact Below.refl _ _) | (with_reducible assumption) | (with_reducible refine Below.drew ?_) | (focus ((with_reducible refine Below.setCell ?_ ?_ _); rotate_left; (first | omega | (simp <;> omega)))) | (focus ((with_reducible refine Below.alloc ?_ ?_ _); rotate_left; (first | omega | (simp <;> omega)))) | exact Below.refl _ _ | assumption | refine Below.drew ?_ | refine Below.alloc ?_ (by first | omega | (simp <;> omega)) _ | refine Below.setCell ?_ (by first | omega | (simp <;> omega)) _)))) ?_; rintro x w9 ⟨rfl, hb9⟩; have HB9 := Lib.hid hb9; clear hb9) | fail)
                  go_ret
                  exact ⟨ret_bool (by simp), Below.trans (show Below w.heap.size w w5 by (repeat (first | (with_reducible exact Below.refl _ _) | (with_reducible assumption) | (with_reducible refine Below.drew ?_) | (focus ((with_reducible refine Below.setCell ?_ ?_ _); rotate_left; (first | omega | (simp <;> omega)))) | (focus ((with_reducible refine Below.alloc ?_ ?_ _); rotate_left; (first | omega | (simp <;> omega)))) | exact Below.refl _ _ | assumption | refine Below.drew ?_ | refine Below.alloc ?_ (by first | omega | (simp <;> omega)) _ | refine Below.setCell ?_ (by first | omega | (simp <;> omega)) _))) (HB9.out.mono (by omega))⟩
        · have q3 : (s == [111, 115]) = false := by simpa using k3
          obtain rfl : C = [] := HCK.out k0 k1 k2 k3
          clear k0 hne k1 k2 k3
          go_enter Tryz.func5, Tryz.ntmps5
          go_wp2_with fail
          refine Calls.mono (FE.out _) ?_
          rintro e w1 ⟨rfl, hb_w1⟩
          have hz_w1 := hb_w1.size
          try simp at hz_w1
          obtain ⟨c_w1_w_0, f_w1_w_0⟩ := bk hb_w1 (w.heap.size) (by first | omega | (simp <;> omega))
          have c_w1_w_0_0 := c_w1_w_0 0
          conv at c_w1_w_0_0 => rhs; simp [go_sem, *]
          have f_w1_w_0_0 := f_w1_w_0 0
          conv at f_w1_w_0_0 => rhs; simp [go_sem, *]
          have c_w1_w_0_1 := c_w1_w_0 1
          conv at c_w1_w_0_1 => rhs; simp [go_sem, *]
          have f_w1_w_0_1 := f_w1_w_0 1
          conv at f_w1_w_0_1 => rhs; simp [go_sem, *]
          have c_w1_w_0_2 := c_w1_w_0 2
          conv at c_w1_w_0_2 => rhs; simp [go_sem, *]
          have f_w1_w_0_2 := f_w1_w_0 2
          conv at f_w1_w_0_2 => rhs; simp [go_sem, *]
          have c_w1_w_0_3 := c_w1_w_0 3
          conv at c_w1_w_0_3 => rhs; simp [go_sem, *]
          have f_w1_w_0_3 := f_w1_w_0 3
          conv at f_w1_w_0_3 => rhs; simp [go_sem, *]
          have c_w1_w_0_4 := c_w1_w_0 4
          conv at c_w1_w_0_4 => rhs; simp [go_sem, *]
          have f_w1_w_0_4 := f_w1_w_0 4
          conv at f_w1_w_0_4 => rhs; simp [go_sem, *]
          have c_w1_w_0_5 := c_w1_w_0 5
          conv at c_w1_w_0_5 => rhs; simp [go_sem, *]
          have f_w1_w_0_5 := f_w1_w_0 5
          conv at f_w1_w_0_5 => rhs; simp [go_sem, *]
          have HH_w1 := Lib.hid hb_w1
          have hB_w1 : Below w.heap.size w w1 := Below.trans (by (repeat (first | (with_reducible exact Below.refl _ _) | (with_reducible assumption) | (with_reducible refine Below.drew ?_) | (focus ((with_reducible refine Below.setCell ?_ ?_ _); rotate_left; (first | omega | (simp <;> omega)))) | (focus ((with_reducible refine Below.alloc ?_ ?_ _); rotate_left; (first | omega | (simp <;> omega)))) | exact Below.refl _ _ | assumption | refine Below.drew ?_ | refine Below.alloc ?_ (by first | omega | (simp <;> omega)) _ | refine Below.setCell ?_ (by first | omega | (simp <;> omega)) _))) (hb_w1.mono (by first | omega | (simp <;> omega)))
          clear hb_w1 c_w1_w_0 f_w1_w_0
          try clear c_w5_w_0_0
          try clear f_w5_w_0_0
          try clear c_w5_w_0_1
          try clear f_w5_w_0_1
          try clear c_w5_w_0_2
          try clear f_w5_w_0_2
          try clear c_w5_w_0_3
          try clear f_w5_w_0_3
          try clear c_w5_w_0_4
          try clear f_w5_w_0_4
          try clear c_w5_w_0_5
          try clear f_w5_w_0_5
          try clear far_w5_w_0
          try clear hB_w5
          have far_w1_w_0 := far (show w.heap.size < w1.heap.size by omega)
          go_wp2_with (first | (go_at_call 7; refine Calls.mono (SH.out _) ?_; rintro x wq ⟨rfl, hwq⟩; obtain rfl := hwq.symm) | fail)
          go_wp2_with fail
          refine Calls.mono (TU.out _ (by (repeat (first | (with_reducible exact Below.refl _ _) | (with_reducible assumption) | (with_reducible refine Below.drew ?_) | (focus ((with_reducible refine Below.setCell ?_ ?_ _); rotate_left; (first | omega | (simp <;> omega)))) | (focus ((with_reducible refine Below.alloc ?_ ?_ _); rotate_left; (first | omega | (simp <;> omega)))) | exact Below.refl _ _ | assumption | refine Below.drew ?_ | refine Below.alloc ?_ (by first | omega | (simp <;> omega)) _ | refine Below.setCell ?_ (by first | omega | (simp <;> omega)) _)))) ?_
          rintro e w2 ⟨rfl, hb_w2⟩
          have hz_w2 := hb_w2.size
          try simp at hz_w2
          obtain ⟨c_w2_w_0, f_w2_w_0⟩ := bk hb_w2 (w.heap.size) (by first | omega | (simp <;> omega))
          have c_w2_w_0_0 := c_w2_w_0 0
          conv at c_w2_w_0_0 => rhs; simp [go_sem, *]
          have f_w2_w_0_0 := f_w2_w_0 0
          conv at f_w2_w_0_0 => rhs; simp [go_sem, *]
          have c_w2_w_0_1 := c_w2_w_0 1
          conv at c_w2_w_0_1 => rhs; simp [go_sem, *]
          have f_w2_w_0_1 := f_w2_w_0 1
          conv at f_w2_w_0_1 => rhs; simp [go_sem, *]
          have c_w2_w_0_2 := c_w2_w_0 2
          conv at c_w2_w_0_2 => rhs; simp [go_sem, *]
          have f_w2_w_0_2 := f_w2_w_0 2
          conv at f_w2_w_0_2 => rhs; simp [go_sem, *]
          have c_w2_w_0_3 := c_w2_w_0 3
          conv at c_w2_w_0_3 => rhs; simp [go_sem, *]
          have f_w2_w_0_3 := f_w2_w_0 3
          conv at f_w2_w_0_3 => rhs; simp [go_sem, *]
          have c_w2_w_0_4 := c_w2_w_0 4
          conv at c_w2_w_0_4 => rhs; simp [go_sem, *]
          have f_w2_w_0_4 := f_w2_w_0 4
          conv at f_w2_w_0_4 => rhs; simp [go_sem, *]
          have c_w2_w_0_5 := c_w2_w_0 5
          conv at c_w2_w_0_5 => rhs; simp [go_sem, *]
          have f_w2_w_0_5 := f_w2_w_0 5
          conv at f_w2_w_0_5 => rhs; simp [go_sem, *]
          have HH_w2 := Lib.hid hb_w2
          have hB_w2 : Below w.heap.size w w2 := Below.trans (by (repeat (first | (with_reducible exact Below.refl _ _) | (with_reducible assumption) | (with_reducible refine Below.drew ?_) | (focus ((with_reducible refine Below.setCell ?_ ?_ _); rotate_left; (first | omega | (simp <;> omega)))) | (focus ((with_reducible refine Below.alloc ?_ ?_ _); rotate_left; (first | omega | (simp <;> omega)))) | exact Below.refl _ _ | assumption | refine Below.drew ?_ | refine Below.alloc ?_ (by first | omega | (simp <;> omega)) _ | refine Below.setCell ?_ (by first | omega | (simp <;> omega)) _))) (hb_w2.mono (by first | omega | (simp <;> omega)))
          clear hb_w2 c_w2_w_0 f_w2_w_0
          try clear c_w1_w_0_0
          try clear f_w1_w_0_0
          try clear c_w1_w_0_1
          try clear f_w1_w_0_1
          try clear c_w1_w_0_2
          try clear f_w1_w_0_2
          try clear c_w1_w_0_3
          try clear f_w1_w_0_3
          try clear c_w1_w_0_4
          try clear f_w1_w_0_4
          try clear c_w1_w_0_5
          try clear f_w1_w_0_5
          try clear far_w1_w_0
          try clear hB_w1
          have far_w2_w_0 := far (show w.heap.size < w2.heap.size by omega)
          go_wp2_with fail
          refine Calls.mono (V1.out _ (by (repeat (first | (with_reducible exact Below.refl _ _) | (with_reducible assumption) | (with_reducible refine Below.drew ?_) | (focus ((with_reducible refine Below.setCell ?_ ?_ _); rotate_left; (first | omega | (simp <;> omega)))) | (focus ((with_reducible refine Below.alloc ?_ ?_ _); rotate_left; (first | omega | (simp <;> omega)))) | exact Below.refl _ _ | assumption | refine Below.drew ?_ | refine Below.alloc ?_ (by first | omega | (simp <;> omega)) _ | refine Below.setCell ?_ (by first | omega | (simp <;> omega)) _)))) ?_
          rintro e w3 ⟨rfl, hb_w3⟩
          have hz_w3 := hb_w3.size
          try simp at hz_w3
          obtain ⟨c_w3_w_0, f_w3_w_0⟩ := bk hb_w3 (w.heap.size) (by first | omega | (simp <;> omega))
          have c_w3_w_0_0 := c_w3_w_0 0
          conv at c_w3_w_0_0 => rhs; simp [go_sem, *]
          have f_w3_w_0_0 := f_w3_w_0 0
          conv at f_w3_w_0_0 => rhs; simp [go_sem, *]
          have c_w3_w_0_1 := c_w3_w_0 1
          conv at c_w3_w_0_1 => rhs; simp [go_sem, *]
          have f_w3_w_0_1 := f_w3_w_0 1
          conv at f_w3_w_0_1 => rhs; simp [go_sem, *]
          have c_w3_w_0_2 := c_w3_w_0 2
          conv at c_w3_w_0_2 => rhs; simp [go_sem, *]
          have f_w3_w_0_2 := f_w3_w_0 2
          conv at f_w3_w_0_2 => rhs; simp [go_sem, *]
          have c_w3_w_0_3 := c_w3_w_0 3
          conv at c_w3_w_0_3 => rhs; simp [go_sem, *]
          have f_w3_w_0_3 := f_w3_w_0 3
          conv at f_w3_w_0_3 => rhs; simp [go_sem, *]
          have c_w3_w_0_4 := c_w3_w_0 4
          conv at c_w3_w_0_4 => rhs; simp [go_sem, *]
          have f_w3_w_0_4 := f_w3_w_0 4
          conv at f_w3_w_0_4 => rhs; simp [go_sem, *]
          have c_w3_w_0_5 := c_w3_w_0 5
          conv at c_w3_w_0_5 => rhs; simp [go_sem, *]
          have f_w3_w_0_5 := f_w3_w_0 5
          conv at f_w3_w_0_5 => rhs; simp [go_sem, *]
          have HH_w3 := Lib.hid hb_w3
          have hB_w3 : Below w.heap.size w w3 := Below.trans (by (repeat (first | (with_reducible exact Below.refl _ _) | (with_reducible assumption) | (with_reducible refine Below.drew ?_) | (focus ((with_reducible refine Below.setCell ?_ ?_ _); rotate_left; (first | omega | (simp <;> omega)))) | (focus ((with_reducible refine Below.alloc ?_ ?_ _); rotate_left; (first | omega | (simp <;> omega)))) | exact Below.refl _ _ | assumption | refine Below.drew ?_ | refine Below.alloc ?_ (by first | omega | (simp <;> omega)) _ | refine Below.setCell ?_ (by first | omega | (simp <;> omega)) _))) (hb_w3.mono (by first | omega | (simp <;> omega)))
          clear hb_w3 c_w3_w_0 f_w3_w_0
          try clear c_w2_w_0_0
          try clear f_w2_w_0_0
          try clear c_w2_w_0_1
          try clear f_w2_w_0_1
          try clear c_w2_w_0_2
          try clear f_w2_w_0_2
          try clear c_w2_w_0_3
          try clear f_w2_w_0_3
          try clear c_w2_w_0_4
          try clear f_w2_w_0_4
          try clear c_w2_w_0_5
          try clear f_w2_w_0_5
          try clear far_w2_w_0
          try clear hB_w2
          have far_w3_w_0 := far (show w.heap.size < w3.heap.size by omega)
          go_wp2_with fail
          refine Calls.mono (V2.out _ (by (repeat (first | (with_reducible exact Below.refl _ _) | (with_reducible assumption) | (with_reducible refine Below.drew ?_) | (focus ((with_reducible refine Below.setCell ?_ ?_ _); rotate_left; (first | omega | (simp <;> omega)))) | (focus ((with_reducible refine Below.alloc ?_ ?_ _); rotate_left; (first | omega | (simp <;> omega)))) | exact Below.refl _ _ | assumption | refine Below.drew ?_ | refine Below.alloc ?_ (by first | omega | (simp <;> omega)) _ | refine Below.setCell ?_ (by first | omega | (simp <;> omega)) _)))) ?_
          rintro e w4 ⟨rfl, hb_w4⟩
          have hz_w4 := hb_w4.size
          try simp at hz_w4
          obtain ⟨c_w4_w_0, f_w4_w_0⟩ := bk hb_w4 (w.heap.size) (by first | omega | (simp <;> omega))
          have c_w4_w_0_0 := c_w4_w_0 0
          conv at c_w4_w_0_0 => rhs; simp [go_sem, *]
          have f_w4_w_0_0 := f_w4_w_0 0
          conv at f_w4_w_0_0 => rhs; simp [go_sem, *]
          have c_w4_w_0_1 := c_w4_w_0 1
          conv at c_w4_w_0_1 => rhs; simp [go_sem, *]
          have f_w4_w_0_1 := f_w4_w_0 1
          conv at f_w4_w_0_1 => rhs; simp [go_sem, *]
          have c_w4_w_0_2 := c_w4_w_0 2
          conv at c_w4_w_0_2 => rhs; simp [go_sem, *]
          have f_w4_w_0_2 := f_w4_w_0 2
          conv at f_w4_w_0_2 => rhs; simp [go_sem, *]
          have c_w4_w_0_3 := c_w4_w_0 3
          conv at c_w4_w_0_3 => rhs; simp [go_sem, *]
          have f_w4_w_0_3 := f_w4_w_0 3
          conv at f_w4_w_0_3 => rhs; simp [go_sem, *]
          have c_w4_w_0_4 := c_w4_w_0 4
          conv at c_w4_w_0_4 => rhs; simp [go_sem, *]
          have f_w4_w_0_4 := f_w4_w_0 4
          conv at f_w4_w_0_4 => rhs; simp [go_sem, *]
          have c_w4_w_0_5 := c_w4_w_0 5
          conv at c_w4_w_0_5 => rhs; simp [go_sem, *]
          have f_w4_w_0_5 := f_w4_w_0 5
          conv at f_w4_w_0_5 => rhs; simp [go_sem, *]
          have HH_w4 := Lib.hid hb_w4
          have hB_w4 : Below w.heap.size w w4 := Below.trans (by (repeat (first | (with_reducible exact Below.refl _ _) | (with_reducible assumption) | (with_reducible refine Below.drew ?_) | (focus ((with_reducible refine Below.setCell ?_ ?_ _); rotate_left; (first | omega | (simp <;> omega)))) | (focus ((with_reducible refine Below.alloc ?_ ?_ _); rotate_left; (first | omega | (simp <;> omega)))) | exact Below.refl _ _ | assumption | refine Below.drew ?_ | refine Below.alloc ?_ (by first | omega | (simp <;> omega)) _ | refine Below.setCell ?_ (by first | omega | (simp <;> omega)) _))) (hb_w4.mono (by first | omega | (simp <;> omega)))
          clear hb_w4 c_w4_w_0 f_w4_w_0
          try clear c_w3_w_0_0
          try clear f_w3_w_0_0
          try clear c_w3_w_0_1
          try clear f_w3_w_0_1
          try clear c_w3_w_0_2
          try clear f_w3_w_0_2
          try clear c_w3_w_0_3
          try clear f_w3_w_0_3
          try clear c_w3_w_0_4
          try clear f_w3_w_0_4
          try clear c_w3_w_0_5
          try clear f_w3_w_0_5
          try clear far_w3_w_0
          try clear hB_w3
          have far_w4_w_0 := far (show w.heap.size < w4.heap.size by omega)
          go_wp2_with fail
          refine Calls.mono (V3.out _ (by (repeat (first | (with_reducible exact Below.refl _ _) | (with_reducible assumption) | (with_reducible refine Below.drew ?_) | (focus ((with_reducible refine Below.setCell ?_ ?_ _); rotate_left; (first | omega | (simp <;> omega)))) | (focus ((with_reducible refine Below.alloc ?_ ?_ _); rotate_left; (first | omega | (simp <;> omega)))) | exact Below.refl _ _ | assumption | refine Below.drew ?_ | refine Below.alloc ?_ (by first | omega | (simp <;> omega)) _ | refine Below.setCell ?_ (by first | omega | (simp <;> omega)) _)))) ?_
          rintro e w5 ⟨rfl, hb_w5⟩
          have hz_w5 := hb_w5.size
          try simp at hz_w5
          obtain ⟨c_w5_w_0, f_w5_w_0⟩ := bk hb_w5 (w.heap.size) (by first | omega | (simp <;> omega))
          have c_w5_w_0_0 := c_w5_w_0 0
          conv at c_w5_w_0_0 => rhs; simp [go_sem, *]
          have f_w5_w_0_0 := f_w5_w_0 0
          conv at f_w5_w_0_0 => rhs; simp [go_sem, *]
          have c_w5_w_0_1 := c_w5_w_0 1
          conv at c_w5_w_0_1 => rhs; simp [go_sem, *]
          have f_w5_w_0_1 := f_w5_w_0 1
          conv at f_w5_w_0_1 => rhs; simp [go_sem, *]
          have c_w5_w_0_2 := c_w5_w_0 2
          conv at c_w5_w_0_2 => rhs; simp [go_sem, *]
          have f_w5_w_0_2 := f_w5_w_0 2
          conv at f_w5_w_0_2 => rhs; simp [go_sem, *]
          have c_w5_w_0_3 := c_w5_w_0 3
          conv at c_w5_w_0_3 => rhs; simp [go_sem, *]
          have f_w5_w_0_3 := f_w5_w_0 3
          conv at f_w5_w_0_3 => rhs; simp [go_sem, *]
          have c_w5_w_0_4 := c_w5_w_0 4
          conv at c_w5_w_0_4 => rhs; simp [go_sem, *]
          have f_w5_w_0_4 := f_w5_w_0 4
          conv at f_w5_w_0_4 => rhs; simp [go_sem, *]
          have c_w5_w_0_5 := c_w5_w_0 5
          conv at c_w5_w_0_5 => rhs; simp [go_sem, *]
          have f_w5_w_0_5 := f_w5_w_0 5
          conv at f_w5_w_0_5 => rhs; simp [go_sem, *]
          have HH_w5 := Lib.hid hb_w5
          have hB_w5 : Below w.heap.size w w5 := Below.trans (by (repeat (first | (with_reducible exact Below.refl _ _) | (with_reducible assumption) | (with_reducible refine Below.drew ?_) | (focus ((with_reducible refine Below.setCell ?_ ?_ _); rotate_left; (first | omega | (simp <;> omega)))) | (focus ((with_reducible refine Below.alloc ?_ ?_ _); rotate_left; (first | omega | (simp <;> omega)))) | exact Below.refl _ _ | assumption | refine Below.drew ?_ | refine Below.alloc ?_ (by first | omega | (simp <;> omega)) _ | refine Below.setCell ?_ (by first | omega | (simp <;> omega)) _))) (hb_w5.mono (by first | omega | (simp <;> omega)))
          clear hb_w5 c_w5_w_0 f_w5_w_0
          try clear c_w4_w_0_0
          try clear f_w4_w_0_0
          try clear c_w4_w_0_1
          try clear f_w4_w_0_1
          try clear c_w4_w_0_2
          try clear f_w4_w_0_2
          try clear c_w4_w_0_3
          try clear f_w4_w_0_3
          try clear c_w4_w_0_4
          try clear f_w4_w_0_4
          try clear c_w4_w_0_5
          try clear f_w4_w_0_5
          try clear far_w4_w_0
          try clear hB_w4
          have far_w5_w_0 := far (show w.heap.size < w5.heap.size by omega)
          go_wp2
          go_loop [13, 55] (fun pv iv => ∃ i : Nat, iv = .int .i64 i ∧ i ≤ s.length ∧ pv = .bool ((s.take i).all fun c => decide (c.toNat < 128))) (fun _ iv => s.length - (intOf iv).toNat)
          case atStart => exact ⟨0, rfl, Nat.zero_le _, rfl⟩
          case round =>
            obtain ⟨i, rfl, hi, rfl⟩ := hrel
            by_cases hil : i < s.length
            · have hbat := bAt_eq hil
              have HTK := Lib.hid (show ((s.take (i + 1)).all fun c => decide (c.toNat < 128)) = (((s.take i).all fun c => decide (c.toNat < 128)) && decide (s[i].toNat < 128)) by rw [List.take_succ_eq_append_getElem hil, List.all_append]; simp)
              obtain ⟨c, hc⟩ : ∃ c, s[i] = c := ⟨_, rfl⟩
              rw [hc] at hbat HTK
              clear hc
              obtain ⟨cur, hcur⟩ : ∃ q, ((s.take i).all fun c => decide (c.toNat < 128)) = q := ⟨_, rfl⟩
              rw [hcur] at HTK ⊢
              clear hcur
              cases cur with
              | false =>
                clear hbat
                go_wp2_with fail
                go_round
                case rel => exact ⟨i + 1, by go_num, by omega, by rw [HTK.out]; rfl⟩
                case measure => simp [intOf]; omega
              | true =>
                by_cases h128 : c.toNat < 128
                · have g1 : bAt s i < 128 := by omega
                  have HT2 := Lib.hid (show ((s.take (i + 1)).all fun c => decide (c.toNat < 128)) = true by rw [HTK.out]; simp [h128])
                  clear hbat h128
                  go_wp2_with fail
                  go_round
                  case rel => exact ⟨i + 1, by go_num, by omega, by rw [HT2.out]⟩
                  case measure => simp [intOf]; omega
                · have g1 : ¬ bAt s i < 128 := by omega
                  have HT2 := Lib.hid (show ((s.take (i + 1)).all fun c => decide (c.toNat < 128)) = false by rw [HTK.out]; simp [h128])
                  clear hbat h128
                  go_wp2_with fail
                  go_round
                  case rel => exact ⟨i + 1, by go_num, by omega, by rw [HT2.out]⟩
                  case measure => simp [intOf]; omega
            · obtain rfl : i = s.length := by omega
              rw [List.take_length]
              cases hpb : (s.all fun c => decide (c.toNat < 128)) with
              | true =>
                obtain ⟨a', ha', e1, e2⟩ := HLL.out (HA.out hpb) HNE.out
                obtain ⟨rfl, rfl⟩ := Prod.mk.inj e1
                obtain ⟨rfl, rfl⟩ := Prod.mk.inj e2
                rcases ha' with rfl | rfl
                all_goals
                  go_wp2_with (first | (go_at_call 10; refine Calls.mono (AL.out _ (by (repeat (first | (with_reducible exact Below.refl _ _) | (with_reducible assumption) | (with_reducible refine Below.drew ?_) | (focus ((with_reducible refine Below.setCell ?_ ?_ _); rotate_left; (first | omega | (simp <;> omega)))) | (focus ((with_reducible refine Below.alloc ?_ ?_ _); rotate_left; (first | omega | (simp <;> omega)))) | exact Below.refl _ _ | assumption | refine Below.drew ?_ | refine Below.alloc ?_ (by first | omega | (simp <;> omega)) _ | refine Below.setCell ?_ (by first | omega | (simp <;> omega)) _)))) ?_; rintro x w9 ⟨rfl, hb9⟩; have HB9 := Lib.hid hb9; clear hb9) | fail)
                  go_ret
                  exact ⟨ret_bool (by simp), Below.trans (show Below w.heap.size w w5 by (repeat (first | (with_reducible exact Below.refl _ _) | (with_reducible assumption) | (with_reducible refine Below.drew ?_) | (focus ((with_reducible refine Below.setCell ?_ ?_ _); rotate_left; (first | omega | (simp <;> omega)))) | (focus ((with_reducible refine Below.alloc ?_ ?_ _); rotate_left; (first | omega | (simp <;> omega)))) | exact Below.refl _ _ | assumption | refine Below.drew ?_ | refine Below.alloc ?_ (by first | omega | (simp <;> omega)) _ | refine Below.setCell ?_ (by first | omega | (simp <;> omega)) _))) (HB9.out.mono (by omega))⟩
              | false =>
                go_wp2_with (first | (go_at_call 10; refine Calls.mono (AL.out _ (by (repeat (first | (with_reducible exact Below.refl _ _) | (with_reducible assumption) | (with_reducible refine Below.drew ?_) | (focus ((with_reducible refine Below.setCell ?_ ?_ _); rotate_left; (first | omega | (simp <;> omega)))) | (focus ((with_reducible refine Below.alloc ?_ ?_ _); rotate_left; (first | omega | (simp <;> omega)))) | exact Below.refl _ _ | assumption | refine Below.drew ?_ | refine Below.alloc ?_ (by first | omega | (simp <;> omega)) _ | refine Below.setCell ?_ (by first | omega | (simp <;> omega)) _)))) ?_; rintro x w9 ⟨rfl, hb9⟩; have HB9 := Lib.hid hb9; clear hb9) | fail)
                go_ret
                exact ⟨ret_bool (by simp), Below.trans (show Below w.heap.size w w5 by (repeat (first | (with_reducible exact Below.refl _ _) | (with_reducible assumption) | (with_reducible refine Below.drew ?_) | (focus ((with_reducible refine Below.setCell ?_ ?_ _); rotate_left; (first | omega | (simp <;> omega)))) | (focus ((with_reducible refine Below.alloc ?_ ?_ _); rotate_left; (first | omega | (simp <;> omega)))) | exact Below.refl _ _ | assumption | refine Below.drew ?_ | refine Below.alloc ?_ (by first | omega | (simp <;> omega)) _ | refine Below.setCell ?_ (by first | omega | (simp <;> omega)) _))) (HB9.out.mono (by omega))⟩
end Go.Proofs.YtenflcaalckdfaaGreatDoor
