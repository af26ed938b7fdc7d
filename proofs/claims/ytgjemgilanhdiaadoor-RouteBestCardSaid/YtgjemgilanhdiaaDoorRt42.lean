/- The law RouteBest: its walk. -/
import Derived.Test.YtgjemgilanhdiaaDoorRt39
namespace Go.Proofs.YtgjemgilanhdiaaDoor
open Go.RowKit Go.Sort Go.Shelf
set_option linter.unusedVariables false
set_option linter.unusedSimpArgs false
set_option linter.unnecessarySimpa false

theorem prefix_eq (path p : List UInt8) : Lib.hasPrefix path p = (decide ((p.length : Int) ≤ path.length) && (path.take p.length == p)) := by
  rw [Bool.eq_iff_iff, Bool.and_eq_true, decide_eq_true_eq, beq_iff_eq]
  constructor
  · intro h
    obtain ⟨h1, h2⟩ := pre_len h
    exact ⟨by omega, h2⟩
  · rintro ⟨h1, h2⟩
    unfold Lib.hasPrefix
    rw [List.isPrefixOf_iff_prefix, List.prefix_iff_eq_take]
    exact h2.symm

set_option maxHeartbeats 1600000 in
set_option maxRecDepth 100000 in
theorem fitsBest (f : Wrd) (hf : f.2.1.length ≤ 900) (g k : Nat) (host path : List UInt8) (w : World) (hc : w.cell? ⟨g, 0, none⟩ = some (.string (S host))) (hk : w.cell? ⟨k, 0, none⟩ = some (.string (S path))) (hg : g < w.heap.size) (hkk : k < w.heap.size) :
    Calls Tryd.prog 9 #[rtv f, .pointer (some ⟨g, 0, none⟩), .pointer (some ⟨k, 0, none⟩)] w fun e w' => e = .returned (.bool (fitB host path f)) ∧ Below w.heap.size w w' := by
  obtain ⟨n, p, o⟩ := f
  simp only at hf
  unfold fitB
  simp only
  rw [prefix_eq]
  have hfar := far hg
  have hfar2 := far hkk
  obtain ⟨b1, h1⟩ : ∃ b, n.isEmpty = b := ⟨_, rfl⟩
  obtain ⟨b2, h2⟩ : ∃ b, (n == host) = b := ⟨_, rfl⟩
  obtain ⟨b3, h3⟩ : ∃ b, decide ((p.length : Int) ≤ path.length) = b := ⟨_, rfl⟩
  rw [h1, h2, h3]
  have hco : b1 = true ∨ (b1 = false ∧ b2 = true) ∨ (b1 = false ∧ b2 = false) := by cases b1 <;> cases b2 <;> simp
  cases b3 with
  | false =>
    have hle : (p.length ≤ path.length) = False := by have := of_decide_eq_false h3; rw [eq_iff_iff, iff_false]; omega
    have hle2 : decide (p.length ≤ path.length) = false := decide_eq_false (fun h => by rw [hle] at h; exact h)
    rcases hco with rfl | ⟨rfl, rfl⟩ | ⟨rfl, rfl⟩ <;>
    · go_enter Tryd.func9, Tryd.ntmps9
      go_wp2_with fail
      refine wp_region_later (w.heap.size + 1) (by kernel_rfl) (by kernel_rfl) ?_
      have l_w2_w_0 := @Later.at (w.heap.size + 1) (w.heap.size) (by omega)
      have l_w2_vg := @Later.at (w.heap.size + 1) (g) (by omega)
      have l_w2_vk := @Later.at (w.heap.size + 1) (k) (by omega)
      repeat (go_big_quiet_step (fail))
      refine wpQuiet_nil ?_
      rintro w2 ⟨⟨_, hb_w2⟩, rfl⟩
      clear l_w2_w_0 l_w2_vg l_w2_vk
      try simp only [] at hb_w2 ⊢
      have hz_w2 := hb_w2.size
      try simp at hz_w2
      have c_w2_w_0 := fun o => hb_w2.cell (p := ⟨w.heap.size, o, none⟩) (by first | omega | (simp <;> omega))
      have f_w2_w_0 := fun o => hb_w2.frozen (p := ⟨w.heap.size, o, none⟩) (by first | omega | (simp <;> omega))
      have c_w2_w_0_0 := c_w2_w_0 0
      conv at c_w2_w_0_0 => rhs; simp [go_sem, *]
      have f_w2_w_0_0 := f_w2_w_0 0
      conv at f_w2_w_0_0 => rhs; simp [go_sem, *]
      have c_w2_w_0_1 := c_w2_w_0 1
      conv at c_w2_w_0_1 => rhs; simp [go_sem, *]
      have f_w2_w_0_1 := f_w2_w_0 1
      conv at f_w2_w_0_1 => rhs; simp [go_sem, *]
      have c_w2_w_0_2 := c_w2_w_0 2
      conv at c_w2_w_0_2 => rhs; simp [go_sem, *]
      have f_w2_w_0_2 := f_w2_w_0 2
      conv at f_w2_w_0_2 => rhs; simp [go_sem, *]
      have c_w2_vg := fun o => hb_w2.cell (p := ⟨g, o, none⟩) (by first | omega | (simp <;> omega))
      have f_w2_vg := fun o => hb_w2.frozen (p := ⟨g, o, none⟩) (by first | omega | (simp <;> omega))
      have c_w2_vg_0 := c_w2_vg 0
      conv at c_w2_vg_0 => rhs; simp [go_sem, *]
      have f_w2_vg_0 := f_w2_vg 0
      conv at f_w2_vg_0 => rhs; simp [go_sem, *]
      have c_w2_vk := fun o => hb_w2.cell (p := ⟨k, o, none⟩) (by first | omega | (simp <;> omega))
      have f_w2_vk := fun o => hb_w2.frozen (p := ⟨k, o, none⟩) (by first | omega | (simp <;> omega))
      have c_w2_vk_0 := c_w2_vk 0
      conv at c_w2_vk_0 => rhs; simp [go_sem, *]
      have f_w2_vk_0 := f_w2_vk 0
      conv at f_w2_vk_0 => rhs; simp [go_sem, *]
      have HH_w2 := Lib.hid hb_w2
      have hB_w2 : Below w.heap.size w w2 := Below.trans (by (repeat (first | (with_reducible exact Below.refl _ _) | (with_reducible assumption) | (with_reducible refine Below.drew ?_) | (focus ((with_reducible refine Below.setCell ?_ ?_ _); rotate_left; (first | omega | (simp <;> omega)))) | (focus ((with_reducible refine Below.alloc ?_ ?_ _); rotate_left; (first | omega | (simp <;> omega)))) | exact Below.refl _ _ | assumption | refine Below.drew ?_ | refine Below.alloc ?_ (by first | omega | (simp <;> omega)) _ | refine Below.setCell ?_ (by first | omega | (simp <;> omega)) _))) (hb_w2.mono (by first | omega | (simp <;> omega)))
      clear hb_w2 c_w2_w_0 f_w2_w_0 c_w2_vg f_w2_vg c_w2_vk f_w2_vk
      have far_w2_w_0 := far (show w.heap.size < w2.heap.size by omega)
      have far_w2_vg := far (show g < w2.heap.size by omega)
      have far_w2_vk := far (show k < w2.heap.size by omega)
      go_wp2
      go_ret
      exact ⟨ret_bool (by simp), by (repeat (first | (with_reducible exact Below.refl _ _) | (with_reducible assumption) | (with_reducible refine Below.drew ?_) | (focus ((with_reducible refine Below.setCell ?_ ?_ _); rotate_left; (first | omega | (simp <;> omega)))) | (focus ((with_reducible refine Below.alloc ?_ ?_ _); rotate_left; (first | omega | (simp <;> omega)))) | exact Below.refl _ _ | assumption | refine Below.drew ?_ | refine Below.alloc ?_ (by first | omega | (simp <;> omega)) _ | refine Below.setCell ?_ (by first | omega | (simp <;> omega)) _))⟩
  | true =>
    have hle : p.length ≤ path.length := by have := of_decide_eq_true h3; omega
    obtain ⟨b4, h4⟩ : ∃ b, (path.take p.length == p) = b := ⟨_, rfl⟩
    rw [h4]
    rcases hco with rfl | ⟨rfl, rfl⟩ | ⟨rfl, rfl⟩ <;> cases b4 <;>
    · go_enter Tryd.func9, Tryd.ntmps9
      go_wp2_with fail
      refine wp_region_later (w.heap.size + 1) (by kernel_rfl) (by kernel_rfl) ?_
      have l_w2_w_0 := @Later.at (w.heap.size + 1) (w.heap.size) (by omega)
      have l_w2_vg := @Later.at (w.heap.size + 1) (g) (by omega)
      have l_w2_vk := @Later.at (w.heap.size + 1) (k) (by omega)
      repeat (go_big_quiet_step (fail))
      refine wpQuiet_nil ?_
      rintro w2 ⟨⟨_, hb_w2⟩, rfl⟩
      clear l_w2_w_0 l_w2_vg l_w2_vk
      try simp only [] at hb_w2 ⊢
      have hz_w2 := hb_w2.size
      try simp at hz_w2
      have c_w2_w_0 := fun o => hb_w2.cell (p := ⟨w.heap.size, o, none⟩) (by first | omega | (simp <;> omega))
      have f_w2_w_0 := fun o => hb_w2.frozen (p := ⟨w.heap.size, o, none⟩) (by first | omega | (simp <;> omega))
      have c_w2_w_0_0 := c_w2_w_0 0
      conv at c_w2_w_0_0 => rhs; simp [go_sem, *]
      have f_w2_w_0_0 := f_w2_w_0 0
      conv at f_w2_w_0_0 => rhs; simp [go_sem, *]
      have c_w2_w_0_1 := c_w2_w_0 1
      conv at c_w2_w_0_1 => rhs; simp [go_sem, *]
      have f_w2_w_0_1 := f_w2_w_0 1
      conv at f_w2_w_0_1 => rhs; simp [go_sem, *]
      have c_w2_w_0_2 := c_w2_w_0 2
      conv at c_w2_w_0_2 => rhs; simp [go_sem, *]
      have f_w2_w_0_2 := f_w2_w_0 2
      conv at f_w2_w_0_2 => rhs; simp [go_sem, *]
      have c_w2_vg := fun o => hb_w2.cell (p := ⟨g, o, none⟩) (by first | omega | (simp <;> omega))
      have f_w2_vg := fun o => hb_w2.frozen (p := ⟨g, o, none⟩) (by first | omega | (simp <;> omega))
      have c_w2_vg_0 := c_w2_vg 0
      conv at c_w2_vg_0 => rhs; simp [go_sem, *]
      have f_w2_vg_0 := f_w2_vg 0
      conv at f_w2_vg_0 => rhs; simp [go_sem, *]
      have c_w2_vk := fun o => hb_w2.cell (p := ⟨k, o, none⟩) (by first | omega | (simp <;> omega))
      have f_w2_vk := fun o => hb_w2.frozen (p := ⟨k, o, none⟩) (by first | omega | (simp <;> omega))
      have c_w2_vk_0 := c_w2_vk 0
      conv at c_w2_vk_0 => rhs; simp [go_sem, *]
      have f_w2_vk_0 := f_w2_vk 0
      conv at f_w2_vk_0 => rhs; simp [go_sem, *]
      have HH_w2 := Lib.hid hb_w2
      have hB_w2 : Below w.heap.size w w2 := Below.trans (by (repeat (first | (with_reducible exact Below.refl _ _) | (with_reducible assumption) | (with_reducible refine Below.drew ?_) | (focus ((with_reducible refine Below.setCell ?_ ?_ _); rotate_left; (first | omega | (simp <;> omega)))) | (focus ((with_reducible refine Below.alloc ?_ ?_ _); rotate_left; (first | omega | (simp <;> omega)))) | exact Below.refl _ _ | assumption | refine Below.drew ?_ | refine Below.alloc ?_ (by first | omega | (simp <;> omega)) _ | refine Below.setCell ?_ (by first | omega | (simp <;> omega)) _))) (hb_w2.mono (by first | omega | (simp <;> omega)))
      clear hb_w2 c_w2_w_0 f_w2_w_0 c_w2_vg f_w2_vg c_w2_vk f_w2_vk
      have far_w2_w_0 := far (show w.heap.size < w2.heap.size by omega)
      have far_w2_vg := far (show g < w2.heap.size by omega)
      have far_w2_vk := far (show k < w2.heap.size by omega)
      go_wp2
      go_ret
      exact ⟨ret_bool (by simp), by (repeat (first | (with_reducible exact Below.refl _ _) | (with_reducible assumption) | (with_reducible refine Below.drew ?_) | (focus ((with_reducible refine Below.setCell ?_ ?_ _); rotate_left; (first | omega | (simp <;> omega)))) | (focus ((with_reducible refine Below.alloc ?_ ?_ _); rotate_left; (first | omega | (simp <;> omega)))) | exact Below.refl _ _ | assumption | refine Below.drew ?_ | refine Below.alloc ?_ (by first | omega | (simp <;> omega)) _ | refine Below.setCell ?_ (by first | omega | (simp <;> omega)) _))⟩

def lgR (host path : List UInt8) (n : Nat) (L : List Wrd) : Nat := (L.filter (fitB host path)).foldl (fun n r => max n r.2.1.length) n
theorem lgR_cons (host path : List UInt8) (n : Nat) (x : Wrd) (L : List Wrd) : lgR host path n (x :: L) = lgR host path (if fitB host path x = true then max n x.2.1.length else n) L := by
  unfold lgR
  rw [List.filter_cons]
  split <;> rfl

set_option maxHeartbeats 6400000 in
set_option maxRecDepth 100000 in
theorem routeBest_any (v : Value) (L : List (List Value)) (b c : ByteArray) (w : World) (hv : RowsIn w 3 v L ∧ ∀ c ∈ L, AllSh [.str, .str, .str] c) (k1 : b.size ≤ maxLen) (k2 : c.size ≤ maxLen) (hL : Laid w) :
    Calls Tryd.prog 4 #[v, .string b, .string c] w fun e w' => e = .returned (.bool true) ∧ Below w.heap.size w w' := by
  obtain ⟨xs, hr0, hxl⟩ := reads_inW hv
  obtain ⟨host, rfl⟩ := S_of b
  obtain ⟨path, rfl⟩ := S_of c
  have hb0 : Below w.heap.size w ((w.alloc (.cells #[.string (S host)] 9)).alloc (.cells #[.string (S path)] 9)) := by (repeat (first | (with_reducible exact Below.refl _ _) | (with_reducible assumption) | (with_reducible refine Below.drew ?_) | (focus ((with_reducible refine Below.setCell ?_ ?_ _); rotate_left; (first | omega | (simp <;> omega)))) | (focus ((with_reducible refine Below.alloc ?_ ?_ _); rotate_left; (first | omega | (simp <;> omega)))) | exact Below.refl _ _ | assumption | refine Below.drew ?_ | refine Below.alloc ?_ (by first | omega | (simp <;> omega)) _ | refine Below.setCell ?_ (by first | omega | (simp <;> omega)) _))
  have C0 := Lib.hid (rtFew v xs _ (hr0.below hb0) hxl)
  clear hr0 hxl hv
  obtain ⟨T, hT⟩ : ∃ T, fewR xs = T := ⟨_, rfl⟩
  have hTs : ∀ f ∈ T, f.1.length ≤ 900 ∧ f.2.1.length ≤ 900 ∧ f.2.2.length ≤ 900 := fun f hf => by
    have := fewR_small xs f (by rw [hT]; exact hf)
    omega
  have hTl : T.length ≤ 20 := by rw [← hT]; exact fewR_len xs
  rw [hT] at C0
  clear hT
  rw [S_size] at k1 k2
  have hm : maxLen = 9223372036854775807 := rfl
  rw [hm] at k1 k2
  have HTs := Lib.hid hTs
  have RR := Lib.hid (fun (v : Value) (W : World) (hb : Below w.heap.size w W) (hr : ReadsW W v T) => refRoutesRight v T W hr hTs (by omega) (hL.on hb))
  have FF := Lib.hid (fun (v : Value) (W : World) (hb : Below w.heap.size w W) (hr : ReadsW W v T) => routeFind v T host path W hr hTs (by omega) (hL.on hb))
  have AL := Lib.hid (fun (W : World) (hb : Below w.heap.size w W) => alive W (hL.on hb))
  have HBAD := Lib.hid (fun h => find_bad (L := T) (host := host) (path := path) h)
  have HGOOD := Lib.hid (fun h => find_best (L := T) (host := host) (path := path) h)
  have eg : ∀ args w, (callFunc 9 args).run Tryd.prog w = .ok (.enter 9 args) w := enters_of Tryd.func9 (by kernel_rfl) rfl
  have HB0 := Lib.hid hb0
  obtain ⟨R, hR⟩ : ∃ R, rightRt T = R := ⟨_, rfl⟩
  rw [hR] at RR HBAD
  obtain ⟨⟨a, e⟩, hf⟩ : ∃ x, findR T host path = x := ⟨_, rfl⟩
  rw [hf] at HBAD HGOOD FF
  simp only at HBAD HGOOD FF
  clear hm hTs hL hR hf hb0
  by_cases he : e = 0
  · subst he
    obtain ⟨best, hbm, hbf, hbl, hbo⟩ := HGOOD.out rfl
    have HLG := Lib.hid (show lgR host path 0 T = longestR T host path from rfl)
    obtain ⟨G, hG⟩ : ∃ G, longestR T host path = G := ⟨_, rfl⟩
    rw [hG] at hbl HLG
    have HANY := Lib.hid (show T.any (fun r => fitB host path r && (r.2.1.length == G && r.2.2 == a)) = true from List.any_eq_true.2 ⟨best, hbm, by simp [hbf, hbl, hbo]⟩)
    clear HBAD HGOOD RR hbm hbf hbl hbo hG
    go_enter Tryd.func4, Tryd.ntmps4
    go_wp2_with (first
      | (go_at_call 5; (with_reducible refine Calls.mono C0.out ?_); rintro e w1 ⟨v1, rfl, hr1, hb1⟩; obtain ⟨cc1, ff1⟩ := bk hb1 w.heap.size (by simp <;> omega); obtain ⟨cd1, fd1⟩ := bk hb1 (w.heap.size + 1) (by simp <;> omega); have HR1 := Lib.hid hr1; have HB1 := Lib.hid (HB0.out.trans (hb1.mono (by simp <;> omega))); obtain ⟨ao, cap, rfl, g1, g2, _, _⟩ := hr1; have hz1 := hb1.size; (try simp at hz1); clear hb1)
      | (go_at_call 8; (with_reducible refine Calls.mono (FF.out _ _ HB1.out HR1.out) ?_); rintro e w3 ⟨rfl, hb3⟩; have HB3 := Lib.hid (HB1.out.trans (hb3.mono HB1.out.size)); have HR3 := Lib.hid (HR1.out.below hb3); have q1 := (hb3.cell (p := ⟨w.heap.size, 0, none⟩) (show w.heap.size < w1.heap.size by omega)).trans (cc1 0); have q2 := (hb3.cell (p := ⟨w.heap.size + 1, 0, none⟩) (show w.heap.size + 1 < w1.heap.size by omega)).trans (cd1 0); have hz3 := hb3.size; clear hb3)
      | fail)
    conv at q1 => rhs; simp [go_sem, *]
    conv at q2 => rhs; simp [go_sem, *]
    have hz3' := Nat.le_trans hz1 hz3
    have HB3X := Lib.hid HB3.out
    clear cc1 ff1 cd1 fd1 HR1 HB1 C0 FF hz3 hz1
    obtain ⟨_, _, hcx, _, _, _, hcell⟩ := id HR3.out
    injection hcx with e6 e7 e8
    subst e6
    clear e7 e8 HB0
    have HCELL := Lib.hid hcell
    clear hcell
    go_loopw [9, 44] (fun nv iv wr => ∃ (i n : Nat), iv = .int .i64 i ∧ nv = .int .i64 n ∧ i ≤ T.length ∧ n ≤ 900 ∧ lgR host path n (T.drop i) = G ∧ Below w3.heap.size w3 wr) (fun nv iv _ => T.length - (intOf iv).toNat)
    case atStart => exact ⟨0, 0, rfl, rfl, Nat.zero_le _, by omega, HLG.out, Below.refl _ _⟩
    case round =>
      obtain ⟨i, n, rfl, rfl, hi, hn, hlg, hB⟩ := hrel
      have HB := Lib.hid hB
      have hz := hB.size
      by_cases hil : i < T.length
      · obtain ⟨bb, off, rfl, hbb, hcl⟩ := HCELL.out (by omega)
        obtain ⟨e1, e2, e3⟩ := hcl i hil
        rw [← hB.cell (p := ⟨bb, off + i * 3, none⟩) hbb] at e1
        rw [← hB.cell (p := ⟨bb, off + i * 3 + 1, none⟩) hbb] at e2
        rw [← hB.cell (p := ⟨bb, off + i * 3 + 2, none⟩) hbb] at e3
        rw [List.drop_eq_getElem_cons hil, lgR_cons] at hlg
        have hs := HTs.out _ (List.getElem_mem hil)
        have FB := Lib.hid (fun (W : World) (hb : Below w3.heap.size w3 W) => fitsBest T[i] hs.2.1 w.heap.size (w.heap.size + 1) host path W ((hb.cell (p := ⟨w.heap.size, 0, none⟩) (show w.heap.size < w3.heap.size by omega)).trans q1) ((hb.cell (p := ⟨w.heap.size + 1, 0, none⟩) (show w.heap.size + 1 < w3.heap.size by omega)).trans q2) (by have := hb.size; omega) (by have := hb.size; omega))
        obtain ⟨⟨x1, x2, x3⟩, hx⟩ : ∃ f, T[i] = f := ⟨_, rfl⟩
        rw [hx] at e1 e2 e3 hlg FB hs
        obtain ⟨y, hy⟩ : ∃ y, fitB host path (x1, x2, x3) = y := ⟨_, rfl⟩
        rw [hy] at hlg FB
        simp only at e1 e2 e3 hlg hs
        have hx2 := hs.2.1
        have hfar := far (show bb < wr.heap.size by omega)
        clear hcl hx hy hs hB
        cases y with
        | true =>
          have hmx : max (n : Int) (x2.length : Int) = ((max n x2.length : Nat) : Int) := by omega
          have HLG2 := Lib.hid (show lgR host path (max n x2.length) (T.drop (i + 1)) = G from hlg)
          clear hlg
          go_wp2_with (go_at_fn 9; (with_reducible refine Calls.mono (FB.out _ ?_) ?_); (focus (have := HB.out; (repeat (first | (with_reducible exact Below.refl _ _) | (with_reducible assumption) | (with_reducible refine Below.drew ?_) | (focus ((with_reducible refine Below.setCell ?_ ?_ _); rotate_left; (first | omega | (simp <;> omega)))) | (focus ((with_reducible refine Below.alloc ?_ ?_ _); rotate_left; (first | omega | (simp <;> omega)))) | exact Below.refl _ _ | assumption | refine Below.drew ?_ | refine Below.alloc ?_ (by first | omega | (simp <;> omega)) _ | refine Below.setCell ?_ (by first | omega | (simp <;> omega)) _)))); rintro e w4 ⟨rfl, hb4⟩; obtain ⟨cc4, ff4⟩ := bk hb4 wr.heap.size (by simp <;> omega); have HB4 := Lib.hid (Below.trans (show Below w3.heap.size w3 _ by (have := HB.out; (repeat (first | (with_reducible exact Below.refl _ _) | (with_reducible assumption) | (with_reducible refine Below.drew ?_) | (focus ((with_reducible refine Below.setCell ?_ ?_ _); rotate_left; (first | omega | (simp <;> omega)))) | (focus ((with_reducible refine Below.alloc ?_ ?_ _); rotate_left; (first | omega | (simp <;> omega)))) | exact Below.refl _ _ | assumption | refine Below.drew ?_ | refine Below.alloc ?_ (by first | omega | (simp <;> omega)) _ | refine Below.setCell ?_ (by first | omega | (simp <;> omega)) _)))) (hb4.mono (by simp <;> omega))); clear hb4)
          go_roundw
          case rel => exact ⟨i + 1, max n x2.length, by go_num, rfl, by omega, by omega, HLG2.out, HB4.out⟩
          case measure => simp [intOf]; omega
        | false =>
          have HLG2 := Lib.hid (show lgR host path n (T.drop (i + 1)) = G from hlg)
          clear hlg
          go_wp2_with (go_at_fn 9; (with_reducible refine Calls.mono (FB.out _ ?_) ?_); (focus (have := HB.out; (repeat (first | (with_reducible exact Below.refl _ _) | (with_reducible assumption) | (with_reducible refine Below.drew ?_) | (focus ((with_reducible refine Below.setCell ?_ ?_ _); rotate_left; (first | omega | (simp <;> omega)))) | (focus ((with_reducible refine Below.alloc ?_ ?_ _); rotate_left; (first | omega | (simp <;> omega)))) | exact Below.refl _ _ | assumption | refine Below.drew ?_ | refine Below.alloc ?_ (by first | omega | (simp <;> omega)) _ | refine Below.setCell ?_ (by first | omega | (simp <;> omega)) _)))); rintro e w4 ⟨rfl, hb4⟩; have HB4 := Lib.hid (Below.trans (show Below w3.heap.size w3 _ by (have := HB.out; (repeat (first | (with_reducible exact Below.refl _ _) | (with_reducible assumption) | (with_reducible refine Below.drew ?_) | (focus ((with_reducible refine Below.setCell ?_ ?_ _); rotate_left; (first | omega | (simp <;> omega)))) | (focus ((with_reducible refine Below.alloc ?_ ?_ _); rotate_left; (first | omega | (simp <;> omega)))) | exact Below.refl _ _ | assumption | refine Below.drew ?_ | refine Below.alloc ?_ (by first | omega | (simp <;> omega)) _ | refine Below.setCell ?_ (by first | omega | (simp <;> omega)) _)))) (hb4.mono (by simp <;> omega))); clear hb4)
          go_roundw
          case rel => exact ⟨i + 1, n, by go_num, rfl, by omega, hn, HLG2.out, HB4.out⟩
          case measure => simp [intOf]; omega
      · obtain rfl : i = T.length := by omega
        rw [List.drop_length] at hlg
        obtain rfl : n = G := hlg
        have HBL := Lib.hid hB
        clear hB hi
        go_wp2
        go_loopw [10, 59] (fun fv iv wr => ∃ (i : Nat) (f : Bool), iv = .int .i64 i ∧ fv = .bool f ∧ i ≤ T.length ∧ (f || (T.drop i).any (fun r => fitB host path r && (r.2.1.length == n && r.2.2 == a))) = true ∧ Below w3.heap.size w3 wr) (fun fv iv _ => T.length - (intOf iv).toNat)
        case atStart => exact ⟨0, false, rfl, rfl, Nat.zero_le _, by rw [List.drop_zero, Bool.false_or]; exact HANY.out, HBL.out⟩
        case round =>
          obtain ⟨i, f, rfl, rfl, hi, hf, hB⟩ := hrel
          have HB := Lib.hid hB
          have hz := hB.size
          by_cases hil : i < T.length
          · obtain ⟨bb, off, rfl, hbb, hcl⟩ := HCELL.out (by omega)
            obtain ⟨e1, e2, e3⟩ := hcl i hil
            rw [← hB.cell (p := ⟨bb, off + i * 3, none⟩) hbb] at e1
            rw [← hB.cell (p := ⟨bb, off + i * 3 + 1, none⟩) hbb] at e2
            rw [← hB.cell (p := ⟨bb, off + i * 3 + 2, none⟩) hbb] at e3
            rw [List.drop_eq_getElem_cons hil, List.any_cons] at hf
            have hs := HTs.out _ (List.getElem_mem hil)
            have FB := Lib.hid (fun (W : World) (hb : Below w3.heap.size w3 W) => fitsBest T[i] hs.2.1 w.heap.size (w.heap.size + 1) host path W ((hb.cell (p := ⟨w.heap.size, 0, none⟩) (show w.heap.size < w3.heap.size by omega)).trans q1) ((hb.cell (p := ⟨w.heap.size + 1, 0, none⟩) (show w.heap.size + 1 < w3.heap.size by omega)).trans q2) (by have := hb.size; omega) (by have := hb.size; omega))
            obtain ⟨⟨x1, x2, x3⟩, hx⟩ : ∃ f, T[i] = f := ⟨_, rfl⟩
            rw [hx] at e1 e2 e3 hf FB
            obtain ⟨y, hy⟩ : ∃ y, fitB host path (x1, x2, x3) = y := ⟨_, rfl⟩
            obtain ⟨c2, hc2⟩ : ∃ c, (x2.length == n) = c := ⟨_, rfl⟩
            obtain ⟨c3, hc3⟩ : ∃ c, (x3 == a) = c := ⟨_, rfl⟩
            simp only at e1 e2 e3 hf
            rw [hy] at hf FB
            rw [hc2, hc3] at hf
            have hc2' : ((x2.length : Int) == (n : Int)) = c2 := by rw [← hc2]; rw [Bool.eq_iff_iff, beq_iff_eq, beq_iff_eq]; omega
            have HF := Lib.hid hf
            have hfar := far (show bb < wr.heap.size by omega)
            clear hcl hx hy hs hB hf
            cases f with
            | true =>
              go_wp2_with fail
              go_roundw
              case rel => exact ⟨i + 1, true, by go_num, rfl, by omega, by simp, by have := HB.out; (repeat (first | (with_reducible exact Below.refl _ _) | (with_reducible assumption) | (with_reducible refine Below.drew ?_) | (focus ((with_reducible refine Below.setCell ?_ ?_ _); rotate_left; (first | omega | (simp <;> omega)))) | (focus ((with_reducible refine Below.alloc ?_ ?_ _); rotate_left; (first | omega | (simp <;> omega)))) | exact Below.refl _ _ | assumption | refine Below.drew ?_ | refine Below.alloc ?_ (by first | omega | (simp <;> omega)) _ | refine Below.setCell ?_ (by first | omega | (simp <;> omega)) _))⟩
              case measure => simp [intOf]; omega
            | false =>
              cases y with
              | false =>
                go_wp2_with (go_at_fn 9; (with_reducible refine Calls.mono (FB.out _ ?_) ?_); (focus (have := HB.out; (repeat (first | (with_reducible exact Below.refl _ _) | (with_reducible assumption) | (with_reducible refine Below.drew ?_) | (focus ((with_reducible refine Below.setCell ?_ ?_ _); rotate_left; (first | omega | (simp <;> omega)))) | (focus ((with_reducible refine Below.alloc ?_ ?_ _); rotate_left; (first | omega | (simp <;> omega)))) | exact Below.refl _ _ | assumption | refine Below.drew ?_ | refine Below.alloc ?_ (by first | omega | (simp <;> omega)) _ | refine Below.setCell ?_ (by first | omega | (simp <;> omega)) _)))); rintro e w4 ⟨rfl, hb4⟩; have HB4 := Lib.hid (Below.trans (show Below w3.heap.size w3 _ by (have := HB.out; (repeat (first | (with_reducible exact Below.refl _ _) | (with_reducible assumption) | (with_reducible refine Below.drew ?_) | (focus ((with_reducible refine Below.setCell ?_ ?_ _); rotate_left; (first | omega | (simp <;> omega)))) | (focus ((with_reducible refine Below.alloc ?_ ?_ _); rotate_left; (first | omega | (simp <;> omega)))) | exact Below.refl _ _ | assumption | refine Below.drew ?_ | refine Below.alloc ?_ (by first | omega | (simp <;> omega)) _ | refine Below.setCell ?_ (by first | omega | (simp <;> omega)) _)))) (hb4.mono (by simp <;> omega))); clear hb4)
                go_roundw
                case rel => exact ⟨i + 1, false, by go_num, rfl, by omega, by simpa using HF.out, HB4.out⟩
                case measure => simp [intOf]; omega
              | true =>
                cases c2 <;> cases c3 <;>
                · go_wp2_with (go_at_fn 9; (with_reducible refine Calls.mono (FB.out _ ?_) ?_); (focus (have := HB.out; (repeat (first | (with_reducible exact Below.refl _ _) | (with_reducible assumption) | (with_reducible refine Below.drew ?_) | (focus ((with_reducible refine Below.setCell ?_ ?_ _); rotate_left; (first | omega | (simp <;> omega)))) | (focus ((with_reducible refine Below.alloc ?_ ?_ _); rotate_left; (first | omega | (simp <;> omega)))) | exact Below.refl _ _ | assumption | refine Below.drew ?_ | refine Below.alloc ?_ (by first | omega | (simp <;> omega)) _ | refine Below.setCell ?_ (by first | omega | (simp <;> omega)) _)))); rintro e w4 ⟨rfl, hb4⟩; obtain ⟨cc4, ff4⟩ := bk hb4 wr.heap.size (by simp <;> omega); have HB4 := Lib.hid (Below.trans (show Below w3.heap.size w3 _ by (have := HB.out; (repeat (first | (with_reducible exact Below.refl _ _) | (with_reducible assumption) | (with_reducible refine Below.drew ?_) | (focus ((with_reducible refine Below.setCell ?_ ?_ _); rotate_left; (first | omega | (simp <;> omega)))) | (focus ((with_reducible refine Below.alloc ?_ ?_ _); rotate_left; (first | omega | (simp <;> omega)))) | exact Below.refl _ _ | assumption | refine Below.drew ?_ | refine Below.alloc ?_ (by first | omega | (simp <;> omega)) _ | refine Below.setCell ?_ (by first | omega | (simp <;> omega)) _)))) (hb4.mono (by simp <;> omega))); clear hb4)
                  go_roundw
                  case rel => exact ⟨i + 1, _, by go_num, rfl, by omega, by simpa using HF.out, HB4.out⟩
                  case measure => simp [intOf]; omega
          · obtain rfl : i = T.length := by omega
            rw [List.drop_length, List.any_nil, Bool.or_false] at hf
            subst hf
            have HB5 := Lib.hid (HB3X.out.trans (hB.mono HB3X.out.size))
            clear hB
            go_wp2_with (go_at_call 7; (with_reducible refine Calls.mono (AL.out _ HB5.out) ?_); rintro e4 w6 ⟨rfl, hb6⟩; have HB6 := Lib.hid (HB5.out.trans (hb6.mono HB5.out.size)); clear hb6)
            go_ret
            exact ⟨ret_bool (by simp), HB6.out⟩
  · have he1 : (e != 0) = true := by simpa using he
    have he2 : (e = 0) = False := eq_false he
    obtain ⟨ha, her⟩ := HBAD.out he
    subst ha
    clear HBAD HGOOD
    by_cases h61 : e = 61
    · subst h61
      clear RR
      go_enter Tryd.func4, Tryd.ntmps4
      go_wp2_with (first
        | (go_at_call 5; (with_reducible refine Calls.mono C0.out ?_); rintro e w1 ⟨v1, rfl, hr1, hb1⟩; obtain ⟨cc1, ff1⟩ := bk hb1 w.heap.size (by simp <;> omega); obtain ⟨cd1, fd1⟩ := bk hb1 (w.heap.size + 1) (by simp <;> omega); have HR1 := Lib.hid hr1; have HB1 := Lib.hid (HB0.out.trans (hb1.mono (by simp <;> omega))); obtain ⟨ao, cap, rfl, g1, g2, _, _⟩ := hr1; have hz1 := hb1.size; (try simp at hz1); clear hb1)
        | (go_at_call 8; (with_reducible refine Calls.mono (FF.out _ _ HB1.out HR1.out) ?_); rintro e w3 ⟨rfl, hb3⟩; have HB3 := Lib.hid (HB1.out.trans (hb3.mono HB1.out.size)); have HR3 := Lib.hid (HR1.out.below hb3); clear hb3)
        | (go_at_call 7; (with_reducible refine Calls.mono (AL.out _ HB3.out) ?_); rintro e4 w4 ⟨rfl, hb4⟩; have HB4 := Lib.hid (HB3.out.trans (hb4.mono HB3.out.size)); clear hb4)
        | fail)
      go_ret
      exact ⟨ret_bool (by simp), HB4.out⟩
    · have hRf : R = false := by rcases her with h | h; exact absurd h h61; exact h
      subst hRf
      have h61a : (e == 61) = false := by simpa using h61
      have h61b : (e = 61) = False := eq_false h61
      go_enter Tryd.func4, Tryd.ntmps4
      go_wp2_with (first
        | (go_at_call 5; (with_reducible refine Calls.mono C0.out ?_); rintro e w1 ⟨v1, rfl, hr1, hb1⟩; obtain ⟨cc1, ff1⟩ := bk hb1 w.heap.size (by simp <;> omega); obtain ⟨cd1, fd1⟩ := bk hb1 (w.heap.size + 1) (by simp <;> omega); have HR1 := Lib.hid hr1; have HB1 := Lib.hid (HB0.out.trans (hb1.mono (by simp <;> omega))); obtain ⟨ao, cap, rfl, g1, g2, _, _⟩ := hr1; have hz1 := hb1.size; (try simp at hz1); clear hb1)
        | (go_at_call 8; (with_reducible refine Calls.mono (FF.out _ _ HB1.out HR1.out) ?_); rintro e w3 ⟨rfl, hb3⟩; have HB3 := Lib.hid (HB1.out.trans (hb3.mono HB1.out.size)); have HR3 := Lib.hid (HR1.out.below hb3); clear hb3)
        | (go_at_call 7; (with_reducible refine Calls.mono (AL.out _ HB3.out) ?_); rintro e4 w4 ⟨rfl, hb4⟩; have HB4 := Lib.hid (HB3.out.trans (hb4.mono HB3.out.size)); have HR4 := Lib.hid (HR3.out.below hb4); clear hb4)
        | (go_at_call 6; (with_reducible refine Calls.mono (RR.out _ _ HB4.out HR4.out) ?_); rintro e5 w5 ⟨rfl, hb5⟩; have HB5 := Lib.hid (HB4.out.trans (hb5.mono HB4.out.size)); clear hb5)
        | fail)
      go_ret
      exact ⟨ret_bool (by simp), HB5.out⟩
end Go.Proofs.YtgjemgilanhdiaaDoor
