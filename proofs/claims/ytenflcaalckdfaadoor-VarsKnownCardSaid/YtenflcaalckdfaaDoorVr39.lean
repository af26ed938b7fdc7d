/- The law VarsKnown: its walk. -/
import Derived.Test.YtenflcaalckdfaaDoorVr35
namespace Go.Proofs.YtenflcaalckdfaaDoor
open Go Go.RowKit Go.Sort Go.Shelf
set_option linter.unusedVariables false
set_option linter.unusedSimpArgs false

def nmK : Nat → List UInt8
  | 0 => hostN | 1 => refN | 2 => agentN | 3 => cookieN | 4 => langN' | _ => queryN
def fdK (e : En) : Nat → List UInt8
  | 0 => e.host | 1 => e.ref | 2 => e.agent | 3 => e.cookie | 4 => e.lang | _ => e.query
theorem six {k : Nat} (h : k < 6) : k = 0 ∨ k = 1 ∨ k = 2 ∨ k = 3 ∨ k = 4 ∨ k = 5 := by omega
theorem valV_nm (e : En) {k : Nat} (h : k < 6) : valV e (nmK k) [] = someV (fdK e k) := by
  rcases six h with rfl | rfl | rfl | rfl | rfl | rfl
  · exact (if_pos rfl)
  · exact (if_neg (by decide)).trans (if_pos rfl)
  · exact (if_neg (by decide)).trans ((if_neg (by decide)).trans (if_pos rfl))
  · exact (if_neg (by decide)).trans ((if_neg (by decide)).trans ((if_neg (by decide)).trans (if_pos rfl)))
  · exact (if_neg (by decide)).trans ((if_neg (by decide)).trans ((if_neg (by decide)).trans ((if_neg (by decide)).trans ((if_neg (by decide)).trans (if_pos rfl)))))
  · exact (if_neg (by decide)).trans ((if_neg (by decide)).trans ((if_neg (by decide)).trans ((if_neg (by decide)).trans (if_pos rfl))))
theorem nm_ok {k : Nat} (h : k < 6) : (∀ x ∈ nmK k, letterB x = true) ∧ nmK k ≠ [] ∧ (nmK k).length ≤ 20 := by
  rcases six h with rfl | rfl | rfl | rfl | rfl | rfl <;> decide
theorem known_1 (e : En) {k : Nat} (h : k < 6) : subV e ([36, 40] ++ (nmK k ++ [124, 110, 111, 41])) = if (fdK e k).isEmpty then [110, 111] else fdK e k := by
  obtain ⟨h1, h2, h3⟩ := nm_ok h
  have hr := refP_text (name := nmK k) (k := []) (O := [124, 110, 111]) (o := [110, 111]) (X := []) h2 h1 (by simp) (by decide) (by decide)
  have hs : ([36, 40] ++ (nmK k ++ [124, 110, 111, 41]) : List UInt8) = 36 :: 40 :: (nmK k ++ (keyT [] ++ ([124, 110, 111] ++ 41 :: []))) := by simp [keyT]
  rw [hs, subV_text hr (pre := 36 :: 40 :: (nmK k ++ [124, 110, 111])) (by simp [keyT]), valV_nm e h, subV_nil, List.append_nil]
  unfold someV
  cases fdK e k <;> rfl
theorem known_2 (e : En) {k : Nat} (h : k < 6) : subV e ([60, 36, 40] ++ (nmK k ++ [41, 62])) = [60] ++ (fdK e k ++ [62]) := by
  obtain ⟨h1, h2, h3⟩ := nm_ok h
  have hr := refP_text (name := nmK k) (k := []) (O := []) (o := []) (X := [62]) h2 h1 (by simp) (by decide) (by decide)
  have hs : ([60, 36, 40] ++ (nmK k ++ [41, 62]) : List UInt8) = [60] ++ (36 :: 40 :: (nmK k ++ (keyT [] ++ ([] ++ 41 :: [62])))) := by simp [keyT]
  rw [hs, subV_pre e [60] _ (by decide), subV_text hr (pre := 36 :: 40 :: nmK k) (by simp [keyT]), valV_nm e h, subV_no e [62] (by decide)]
  unfold someV
  cases fdK e k <;> rfl
theorem valV_other (e : En) (key : List UInt8) {name : List UInt8} (h : name ≠ hostN ∧ name ≠ refN ∧ name ≠ agentN ∧ name ≠ cookieN ∧ name ≠ queryN ∧ name ≠ langN') : valV e name key = ([], false) := by
  obtain ⟨h1, h2, h3, h4, h5, h6⟩ := h
  unfold valV
  rw [if_neg h1, if_neg h2, if_neg h3, if_neg h4, if_neg h5, if_neg h6]
theorem known_3 (e : En) : subV e [36, 40, 79, 84, 72, 69, 82, 124, 39, 97, 41, 98, 39, 41] = [97, 41, 98] ∧ subV e [36, 40, 79, 84, 72, 69, 82, 123, 107, 125, 41] = [] ∧ subV e [36, 40, 72, 84, 84, 80, 95, 72, 79, 83, 84, 123, 107, 125, 124, 120, 41] = [120] := by
  have h1 : refP [36, 40, 79, 84, 72, 69, 82, 124, 39, 97, 41, 98, 39, 41] = some ([79, 84, 72, 69, 82], [], [97, 41, 98], [41]) := by decide +kernel
  have h2 : refP [36, 40, 79, 84, 72, 69, 82, 123, 107, 125, 41] = some ([79, 84, 72, 69, 82], [107], [], [41]) := by decide +kernel
  have h3 : refP [36, 40, 72, 84, 84, 80, 95, 72, 79, 83, 84, 123, 107, 125, 124, 120, 41] = some (hostN, [107], [120], [41]) := by decide +kernel
  refine ⟨?_, ?_, ?_⟩
  · rw [subV_text h1 (pre := [36, 40, 79, 84, 72, 69, 82, 124, 39, 97, 41, 98, 39]) rfl, valV_other e [] (by decide)]; rfl
  · rw [subV_text h2 (pre := [36, 40, 79, 84, 72, 69, 82, 123, 107, 125]) rfl, valV_other e [107] (by decide)]; rfl
  · rw [subV_text h3 (pre := [36, 40, 72, 84, 84, 80, 95, 72, 79, 83, 84, 123, 107, 125, 124, 120]) rfl, show valV e hostN [107] = ([], false) from if_pos rfl]; rfl

set_option maxHeartbeats 3200000 in
set_option maxRecDepth 100000 in
theorem varsKnown_any (a0 a1 a2 a3 a4 a5 : ByteArray) (w : World) (h0 : a0.size ≤ maxLen) (h1 : a1.size ≤ maxLen) (h2 : a2.size ≤ maxLen) (h3 : a3.size ≤ maxLen) (h4 : a4.size ≤ maxLen) (h5 : a5.size ≤ maxLen) (_hL : True) (hM : ∃ m, w.cell? ⟨0, 0, none⟩ = some (.int .i64 m)) :
    Calls Tryd.prog 3 #[.agg #[.string a0, .string a1, .string a2, .string a3, .string a4, .string a5]] w fun x w' => x = .returned (.bool true) ∧ Below w.heap.size w w' := by
  obtain ⟨l0, rfl⟩ := S_of a0
  obtain ⟨l1, rfl⟩ := S_of a1
  obtain ⟨l2, rfl⟩ := S_of a2
  obtain ⟨l3, rfl⟩ := S_of a3
  obtain ⟨l4, rfl⟩ := S_of a4
  obtain ⟨l5, rfl⟩ := S_of a5
  simp only [S_size] at h0 h1 h2 h3 h4 h5
  have hm : maxLen = 9223372036854775807 := rfl
  rw [hm] at h0 h1 h2 h3 h4 h5
  clear hm
  have FE := Lib.hid (fun W => vars_few ⟨l0, l1, l2, l3, l4, l5⟩ ⟨h0, h1, h2, h3, h4, h5⟩ W)
  have hcf := En.cut_few ⟨l0, l1, l2, l3, l4, l5⟩
  obtain ⟨e, he⟩ : ∃ e, En.cut ⟨l0, l1, l2, l3, l4, l5⟩ = e := ⟨_, rfl⟩
  rw [he] at FE hcf
  have S1 := Lib.hid (fun (k : Nat) (hk : k < 6) W (hb : Below w.heap.size w W) => (known_1 e hk) ▸ varsSub e hcf ([36, 40] ++ (nmK k ++ [124, 110, 111, 41])) (by have := (nm_ok hk).2.2; simp only [List.length_append, List.length_cons, List.length_nil]; omega) W (ML.later hM (GG.of_below hb)))
  have S2 := Lib.hid (fun (k : Nat) (hk : k < 6) W (hb : Below w.heap.size w W) => (known_2 e hk) ▸ varsSub e hcf ([60, 36, 40] ++ (nmK k ++ [41, 62])) (by have := (nm_ok hk).2.2; simp only [List.length_append, List.length_cons, List.length_nil]; omega) W (ML.later hM (GG.of_below hb)))
  have S3 := Lib.hid (fun W (hb : Below w.heap.size w W) => (known_3 e).1 ▸ varsSub e hcf [36, 40, 79, 84, 72, 69, 82, 124, 39, 97, 41, 98, 39, 41] (by decide) W (ML.later hM (GG.of_below hb)))
  have S4 := Lib.hid (fun W (hb : Below w.heap.size w W) => (known_3 e).2.1 ▸ varsSub e hcf [36, 40, 79, 84, 72, 69, 82, 123, 107, 125, 41] (by decide) W (ML.later hM (GG.of_below hb)))
  have S5 := Lib.hid (fun W (hb : Below w.heap.size w W) => (known_3 e).2.2 ▸ varsSub e hcf [36, 40, 72, 84, 84, 80, 95, 72, 79, 83, 84, 123, 107, 125, 124, 120, 41] (by decide) W (ML.later hM (GG.of_below hb)))
  have AL := Lib.hid (fun W (hb : Below w.heap.size w W) => vars_alive W (ML.later hM (GG.of_below hb)))
  have HFL := Lib.hid (show ∀ k, (fdK e k).length ≤ 300 from by
    obtain ⟨q1, q2, q3, q4, q5, q6⟩ := hcf
    intro k
    unfold fdK
    split <;> assumption)
  obtain ⟨F, hF⟩ : ∃ F, fdK e = F := ⟨_, rfl⟩
  rw [hF] at S1 S2 HFL
  obtain ⟨f0, f1, f2, f3, f4, f5⟩ := e
  have hFk : F 0 = f0 ∧ F 1 = f1 ∧ F 2 = f2 ∧ F 3 = f3 ∧ F 4 = f4 ∧ F 5 = f5 := by rw [← hF]; exact ⟨rfl, rfl, rfl, rfl, rfl, rfl⟩
  unfold En.v at *
  simp only at FE S1 S2 S3 S4 S5
  clear he hcf hM h0 h1 h2 h3 h4 h5 hF
  go_enter Tryd.func3, Tryd.ntmps3
  go_wp2_with fail
  refine Calls.mono (FE.out _) ?_
  rintro e w1 ⟨rfl, hb_w1⟩
  have hz_w1 := hb_w1.size
  try simp at hz_w1
  obtain ⟨c_w1_w_0, f_w1_w_0⟩ := bk hb_w1 (w.heap.size) (by first | omega | (simp <;> omega))
  have c_w1_w_0_0 := c_w1_w_0 0
  conv at c_w1_w_0_0 => rhs; simp [go_sem, *]
  have f_w1_w_0_0 := f_w1_w_0 0
  conv at f_w1_w_0_0 => rhs; simp [go_sem, *]
  have c_w1_w_0_1 := c_w1_w_0 1
  conv at c_w1_w_0_1 => rhs; simp [go_sem, *]
  have f_w1_w_0_1 := f_w1_w_0 1
  conv at f_w1_w_0_1 => rhs; simp [go_sem, *]
  have c_w1_w_0_2 := c_w1_w_0 2
  conv at c_w1_w_0_2 => rhs; simp [go_sem, *]
  have f_w1_w_0_2 := f_w1_w_0 2
  conv at f_w1_w_0_2 => rhs; simp [go_sem, *]
  have c_w1_w_0_3 := c_w1_w_0 3
  conv at c_w1_w_0_3 => rhs; simp [go_sem, *]
  have f_w1_w_0_3 := f_w1_w_0 3
  conv at f_w1_w_0_3 => rhs; simp [go_sem, *]
  have c_w1_w_0_4 := c_w1_w_0 4
  conv at c_w1_w_0_4 => rhs; simp [go_sem, *]
  have f_w1_w_0_4 := f_w1_w_0 4
  conv at f_w1_w_0_4 => rhs; simp [go_sem, *]
  have c_w1_w_0_5 := c_w1_w_0 5
  conv at c_w1_w_0_5 => rhs; simp [go_sem, *]
  have f_w1_w_0_5 := f_w1_w_0 5
  conv at f_w1_w_0_5 => rhs; simp [go_sem, *]
  have HH_w1 := Lib.hid hb_w1
  have hB_w1 : Below w.heap.size w w1 := Below.trans (by (repeat (first | (with_reducible exact Below.refl _ _) | (with_reducible assumption) | (with_reducible refine Below.drew ?_) | (focus ((with_reducible refine Below.setCell ?_ ?_ _); rotate_left; (first | omega | (simp <;> omega)))) | (focus ((with_reducible refine Below.alloc ?_ ?_ _); rotate_left; (first | omega | (simp <;> omega)))) | exact Below.refl _ _ | assumption | refine Below.drew ?_ | refine Below.alloc ?_ (by first | omega | (simp <;> omega)) _ | refine Below.setCell ?_ (by first | omega | (simp <;> omega)) _))) (hb_w1.mono (by first | omega | (simp <;> omega)))
  clear hb_w1 c_w1_w_0 f_w1_w_0
  have far_w1_w_0 := far (show w.heap.size < w1.heap.size by omega)
  go_wp2
  try simp only [mk_S]
  go_loopw [28] (fun iv wr => ∃ k : Nat, iv = .int .i64 k ∧ k ≤ 6 ∧ w1.heap.size < wr.heap.size ∧ (wr.cell? ⟨w.heap.size, 0, none⟩ = some (.string (S f0)) ∧ wr.cell? ⟨w.heap.size, 1, none⟩ = some (.string (S f1)) ∧ wr.cell? ⟨w.heap.size, 2, none⟩ = some (.string (S f2)) ∧ wr.cell? ⟨w.heap.size, 3, none⟩ = some (.string (S f3)) ∧ wr.cell? ⟨w.heap.size, 4, none⟩ = some (.string (S f4)) ∧ wr.cell? ⟨w.heap.size, 5, none⟩ = some (.string (S f5))) ∧ (∀ j, j < 6 → wr.cell? ⟨w1.heap.size, j * 2, none⟩ = some (.string (S (nmK j))) ∧ wr.cell? ⟨w1.heap.size, j * 2 + 1, none⟩ = some (.string (S (F j)))) ∧ Below w.heap.size w wr) (fun iv _ => 6 - (intOf iv).toNat)
  case atStart =>
    obtain ⟨g0, g1, g2, g3, g4, g5⟩ := hFk
    refine ⟨0, rfl, by omega, by simp, ⟨by simp [go_sem, *], by simp [go_sem, *], by simp [go_sem, *], by simp [go_sem, *], by simp [go_sem, *], by simp [go_sem, *]⟩, fun j hj => ?_, by (repeat (first | (with_reducible exact Below.refl _ _) | (with_reducible assumption) | (with_reducible refine Below.drew ?_) | (focus ((with_reducible refine Below.setCell ?_ ?_ _); rotate_left; (first | omega | (simp <;> omega)))) | (focus ((with_reducible refine Below.alloc ?_ ?_ _); rotate_left; (first | omega | (simp <;> omega)))) | exact Below.refl _ _ | assumption | refine Below.drew ?_ | refine Below.alloc ?_ (by first | omega | (simp <;> omega)) _ | refine Below.setCell ?_ (by first | omega | (simp <;> omega)) _))⟩
    rcases six hj with rfl | rfl | rfl | rfl | rfl | rfl
    · rw [g0]; exact ⟨by simp [go_sem, nmK, hostN], by simp [go_sem]⟩
    · rw [g1]; exact ⟨by simp [go_sem, nmK, refN], by simp [go_sem]⟩
    · rw [g2]; exact ⟨by simp [go_sem, nmK, agentN], by simp [go_sem]⟩
    · rw [g3]; exact ⟨by simp [go_sem, nmK, cookieN], by simp [go_sem]⟩
    · rw [g4]; exact ⟨by simp [go_sem, nmK, langN'], by simp [go_sem]⟩
    · rw [g5]; exact ⟨by simp [go_sem, nmK, queryN], by simp [go_sem]⟩
  case round =>
    obtain ⟨k, rfl, hk, hzr, ⟨c0, c1, c2, c3, c4, c5⟩, hrow, hB⟩ := hrel
    have HROW := Lib.hid hrow
    have HB := Lib.hid hB
    have hzw := hB.size
    have hz1 : w.heap.size < w1.heap.size := by omega
    have far1 := far (show w.heap.size < wr.heap.size by omega)
    have far2 := far hzr
    have far3 := far hz1
    clear hrow hB hFk
    by_cases hk6 : k < 6
    · obtain ⟨e1, e2⟩ := HROW.out k hk6
      have S1k := Lib.hid (fun W hb => S1.out k hk6 W hb)
      have S2k := Lib.hid (fun W hb => S2.out k hk6 W hb)
      have hnl := (nm_ok hk6).2.2
      have hfl : (F k).length ≤ 300 := HFL.out k
      obtain ⟨nm, hnm⟩ : ∃ nm, nmK k = nm := ⟨_, rfl⟩
      obtain ⟨fd, hfd⟩ : ∃ fd, F k = fd := ⟨_, rfl⟩
      rw [hnm] at e1 S1k S2k hnl
      rw [hfd] at e2 S1k S2k hfl
      simp only [List.cons_append, List.nil_append] at S1k S2k
      clear hnm hfd
      cases hfe : fd.isEmpty with
      | true =>
        obtain rfl : fd = [] := by simpa using hfe
        simp only [List.isEmpty_nil, if_true, List.nil_append] at S1k S2k
        go_wp2_with fail
        refine wp_region_later (wr.heap.size + 1) (by kernel_rfl) (by kernel_rfl) ?_
        have l_w5_wr_0 := @Later.at (wr.heap.size + 1) (wr.heap.size) (by omega)
        have l_w5_w_0 := @Later.at (wr.heap.size + 1) (w.heap.size) (by omega)
        repeat (go_big_quiet_step ((go_at_call 7; first | (with_reducible refine later_of (by (first | omega | (simp <;> omega))) (S1k.out _ (Below.trans (by (have := HB.out; (repeat (first | (with_reducible exact Below.refl _ _) | (with_reducible assumption) | (with_reducible refine Below.drew ?_) | (focus ((with_reducible refine Below.setCell ?_ ?_ _); rotate_left; (first | omega | (simp <;> omega)))) | (focus ((with_reducible refine Below.alloc ?_ ?_ _); rotate_left; (first | omega | (simp <;> omega)))) | exact Below.refl _ _ | assumption | refine Below.drew ?_ | refine Below.alloc ?_ (by first | omega | (simp <;> omega)) _ | refine Below.setCell ?_ (by first | omega | (simp <;> omega)) _))) : Below w.heap.size w _) (Below.mono (Later.b _) (by (first | omega | (simp <;> omega))))))) | (with_reducible refine later_of (by (first | omega | (simp <;> omega))) (S2k.out _ (Below.trans (by (have := HB.out; (repeat (first | (with_reducible exact Below.refl _ _) | (with_reducible assumption) | (with_reducible refine Below.drew ?_) | (focus ((with_reducible refine Below.setCell ?_ ?_ _); rotate_left; (first | omega | (simp <;> omega)))) | (focus ((with_reducible refine Below.alloc ?_ ?_ _); rotate_left; (first | omega | (simp <;> omega)))) | exact Below.refl _ _ | assumption | refine Below.drew ?_ | refine Below.alloc ?_ (by first | omega | (simp <;> omega)) _ | refine Below.setCell ?_ (by first | omega | (simp <;> omega)) _))) : Below w.heap.size w _) (Below.mono (Later.b _) (by (first | omega | (simp <;> omega))))))))))
        refine wpQuiet_nil ?_
        rintro w5 ⟨⟨_, hb_w5⟩, rfl⟩
        clear l_w5_wr_0 l_w5_w_0
        try simp only [] at hb_w5 ⊢
        have hz_w5 := hb_w5.size
        try simp at hz_w5
        have c_w5_wr_0 := fun o => hb_w5.cell (p := ⟨wr.heap.size, o, none⟩) (by first | omega | (simp <;> omega))
        have f_w5_wr_0 := fun o => hb_w5.frozen (p := ⟨wr.heap.size, o, none⟩) (by first | omega | (simp <;> omega))
        have c_w5_wr_0_0 := c_w5_wr_0 0
        conv at c_w5_wr_0_0 => rhs; simp [go_sem, *]
        have f_w5_wr_0_0 := f_w5_wr_0 0
        conv at f_w5_wr_0_0 => rhs; simp [go_sem, *]
        have c_w5_wr_0_1 := c_w5_wr_0 1
        conv at c_w5_wr_0_1 => rhs; simp [go_sem, *]
        have f_w5_wr_0_1 := f_w5_wr_0 1
        conv at f_w5_wr_0_1 => rhs; simp [go_sem, *]
        have c_w5_w_0 := fun o => hb_w5.cell (p := ⟨w.heap.size, o, none⟩) (by first | omega | (simp <;> omega))
        have f_w5_w_0 := fun o => hb_w5.frozen (p := ⟨w.heap.size, o, none⟩) (by first | omega | (simp <;> omega))
        have c_w5_w_0_0 := c_w5_w_0 0
        conv at c_w5_w_0_0 => rhs; simp [go_sem, *]
        have f_w5_w_0_0 := f_w5_w_0 0
        conv at f_w5_w_0_0 => rhs; simp [go_sem, *]
        have c_w5_w_0_1 := c_w5_w_0 1
        conv at c_w5_w_0_1 => rhs; simp [go_sem, *]
        have f_w5_w_0_1 := f_w5_w_0 1
        conv at f_w5_w_0_1 => rhs; simp [go_sem, *]
        have c_w5_w_0_2 := c_w5_w_0 2
        conv at c_w5_w_0_2 => rhs; simp [go_sem, *]
        have f_w5_w_0_2 := f_w5_w_0 2
        conv at f_w5_w_0_2 => rhs; simp [go_sem, *]
        have c_w5_w_0_3 := c_w5_w_0 3
        conv at c_w5_w_0_3 => rhs; simp [go_sem, *]
        have f_w5_w_0_3 := f_w5_w_0 3
        conv at f_w5_w_0_3 => rhs; simp [go_sem, *]
        have c_w5_w_0_4 := c_w5_w_0 4
        conv at c_w5_w_0_4 => rhs; simp [go_sem, *]
        have f_w5_w_0_4 := f_w5_w_0 4
        conv at f_w5_w_0_4 => rhs; simp [go_sem, *]
        have c_w5_w_0_5 := c_w5_w_0 5
        conv at c_w5_w_0_5 => rhs; simp [go_sem, *]
        have f_w5_w_0_5 := f_w5_w_0 5
        conv at f_w5_w_0_5 => rhs; simp [go_sem, *]
        have HH_w5 := Lib.hid hb_w5
        have hB_w5 : Below wr.heap.size wr w5 := Below.trans (by (repeat (first | (with_reducible exact Below.refl _ _) | (with_reducible assumption) | (with_reducible refine Below.drew ?_) | (focus ((with_reducible refine Below.setCell ?_ ?_ _); rotate_left; (first | omega | (simp <;> omega)))) | (focus ((with_reducible refine Below.alloc ?_ ?_ _); rotate_left; (first | omega | (simp <;> omega)))) | exact Below.refl _ _ | assumption | refine Below.drew ?_ | refine Below.alloc ?_ (by first | omega | (simp <;> omega)) _ | refine Below.setCell ?_ (by first | omega | (simp <;> omega)) _))) (hb_w5.mono (by first | omega | (simp <;> omega)))
        clear hb_w5 c_w5_wr_0 f_w5_wr_0 c_w5_w_0 f_w5_w_0
        try clear c_w1_w_0_0
        try clear f_w1_w_0_0
        try clear c_w1_w_0_1
        try clear f_w1_w_0_1
        try clear c_w1_w_0_2
        try clear f_w1_w_0_2
        try clear c_w1_w_0_3
        try clear f_w1_w_0_3
        try clear c_w1_w_0_4
        try clear f_w1_w_0_4
        try clear c_w1_w_0_5
        try clear f_w1_w_0_5
        try clear far_w1_w_0
        try clear hB_w1
        have far_w5_wr_0 := far (show wr.heap.size < w5.heap.size by omega)
        have far_w5_w_0 := far (show w.heap.size < w5.heap.size by omega)
        go_wp2_with fail
        go_roundw
        case rel => exact ⟨k + 1, by go_num, by omega, by omega, ⟨by simp [go_sem, *], by simp [go_sem, *], by simp [go_sem, *], by simp [go_sem, *], by simp [go_sem, *], by simp [go_sem, *]⟩, fun j hj => ⟨(hB_w5.cell (p := ⟨w1.heap.size, j * 2, none⟩) hzr).trans (HROW.out j hj).1, (hB_w5.cell (p := ⟨w1.heap.size, j * 2 + 1, none⟩) hzr).trans (HROW.out j hj).2⟩, HB.out.trans (hB_w5.mono hzw)⟩
        case measure => simp [intOf]; omega
      | false =>
        have hne : (fd == []) = false := by cases fd with | nil => simp at hfe | cons a b => rfl
        rw [hfe] at S1k
        simp only [if_false, Bool.false_eq_true] at S1k
        go_wp2_with fail
        refine wp_region_later (wr.heap.size + 1) (by kernel_rfl) (by kernel_rfl) ?_
        have l_w5_wr_0 := @Later.at (wr.heap.size + 1) (wr.heap.size) (by omega)
        have l_w5_w_0 := @Later.at (wr.heap.size + 1) (w.heap.size) (by omega)
        repeat (go_big_quiet_step ((go_at_call 7; first | (with_reducible refine later_of (by (first | omega | (simp <;> omega))) (S1k.out _ (Below.trans (by (have := HB.out; (repeat (first | (with_reducible exact Below.refl _ _) | (with_reducible assumption) | (with_reducible refine Below.drew ?_) | (focus ((with_reducible refine Below.setCell ?_ ?_ _); rotate_left; (first | omega | (simp <;> omega)))) | (focus ((with_reducible refine Below.alloc ?_ ?_ _); rotate_left; (first | omega | (simp <;> omega)))) | exact Below.refl _ _ | assumption | refine Below.drew ?_ | refine Below.alloc ?_ (by first | omega | (simp <;> omega)) _ | refine Below.setCell ?_ (by first | omega | (simp <;> omega)) _))) : Below w.heap.size w _) (Below.mono (Later.b _) (by (first | omega | (simp <;> omega))))))) | (with_reducible refine later_of (by (first | omega | (simp <;> omega))) (S2k.out _ (Below.trans (by (have := HB.out; (repeat (first | (with_reducible exact Below.refl _ _) | (with_reducible assumption) | (with_reducible refine Below.drew ?_) | (focus ((with_reducible refine Below.setCell ?_ ?_ _); rotate_left; (first | omega | (simp <;> omega)))) | (focus ((with_reducible refine Below.alloc ?_ ?_ _); rotate_left; (first | omega | (simp <;> omega)))) | exact Below.refl _ _ | assumption | refine Below.drew ?_ | refine Below.alloc ?_ (by first | omega | (simp <;> omega)) _ | refine Below.setCell ?_ (by first | omega | (simp <;> omega)) _))) : Below w.heap.size w _) (Below.mono (Later.b _) (by (first | omega | (simp <;> omega))))))))))
        refine wpQuiet_nil ?_
        rintro w5 ⟨⟨_, hb_w5⟩, rfl⟩
        clear l_w5_wr_0 l_w5_w_0
        try simp only [] at hb_w5 ⊢
        have hz_w5 := hb_w5.size
        try simp at hz_w5
        have c_w5_wr_0 := fun o => hb_w5.cell (p := ⟨wr.heap.size, o, none⟩) (by first | omega | (simp <;> omega))
        have f_w5_wr_0 := fun o => hb_w5.frozen (p := ⟨wr.heap.size, o, none⟩) (by first | omega | (simp <;> omega))
        have c_w5_wr_0_0 := c_w5_wr_0 0
        conv at c_w5_wr_0_0 => rhs; simp [go_sem, *]
        have f_w5_wr_0_0 := f_w5_wr_0 0
        conv at f_w5_wr_0_0 => rhs; simp [go_sem, *]
        have c_w5_wr_0_1 := c_w5_wr_0 1
        conv at c_w5_wr_0_1 => rhs; simp [go_sem, *]
        have f_w5_wr_0_1 := f_w5_wr_0 1
        conv at f_w5_wr_0_1 => rhs; simp [go_sem, *]
        have c_w5_w_0 := fun o => hb_w5.cell (p := ⟨w.heap.size, o, none⟩) (by first | omega | (simp <;> omega))
        have f_w5_w_0 := fun o => hb_w5.frozen (p := ⟨w.heap.size, o, none⟩) (by first | omega | (simp <;> omega))
        have c_w5_w_0_0 := c_w5_w_0 0
        conv at c_w5_w_0_0 => rhs; simp [go_sem, *]
        have f_w5_w_0_0 := f_w5_w_0 0
        conv at f_w5_w_0_0 => rhs; simp [go_sem, *]
        have c_w5_w_0_1 := c_w5_w_0 1
        conv at c_w5_w_0_1 => rhs; simp [go_sem, *]
        have f_w5_w_0_1 := f_w5_w_0 1
        conv at f_w5_w_0_1 => rhs; simp [go_sem, *]
        have c_w5_w_0_2 := c_w5_w_0 2
        conv at c_w5_w_0_2 => rhs; simp [go_sem, *]
        have f_w5_w_0_2 := f_w5_w_0 2
        conv at f_w5_w_0_2 => rhs; simp [go_sem, *]
        have c_w5_w_0_3 := c_w5_w_0 3
        conv at c_w5_w_0_3 => rhs; simp [go_sem, *]
        have f_w5_w_0_3 := f_w5_w_0 3
        conv at f_w5_w_0_3 => rhs; simp [go_sem, *]
        have c_w5_w_0_4 := c_w5_w_0 4
        conv at c_w5_w_0_4 => rhs; simp [go_sem, *]
        have f_w5_w_0_4 := f_w5_w_0 4
        conv at f_w5_w_0_4 => rhs; simp [go_sem, *]
        have c_w5_w_0_5 := c_w5_w_0 5
        conv at c_w5_w_0_5 => rhs; simp [go_sem, *]
        have f_w5_w_0_5 := f_w5_w_0 5
        conv at f_w5_w_0_5 => rhs; simp [go_sem, *]
        have HH_w5 := Lib.hid hb_w5
        have hB_w5 : Below wr.heap.size wr w5 := Below.trans (by (repeat (first | (with_reducible exact Below.refl _ _) | (with_reducible assumption) | (with_reducible refine Below.drew ?_) | (focus ((with_reducible refine Below.setCell ?_ ?_ _); rotate_left; (first | omega | (simp <;> omega)))) | (focus ((with_reducible refine Below.alloc ?_ ?_ _); rotate_left; (first | omega | (simp <;> omega)))) | exact Below.refl _ _ | assumption | refine Below.drew ?_ | refine Below.alloc ?_ (by first | omega | (simp <;> omega)) _ | refine Below.setCell ?_ (by first | omega | (simp <;> omega)) _))) (hb_w5.mono (by first | omega | (simp <;> omega)))
        clear hb_w5 c_w5_wr_0 f_w5_wr_0 c_w5_w_0 f_w5_w_0
        have far_w5_wr_0 := far (show wr.heap.size < w5.heap.size by omega)
        have far_w5_w_0 := far (show w.heap.size < w5.heap.size by omega)
        go_wp2_with fail
        go_roundw
        case rel => exact ⟨k + 1, by go_num, by omega, by omega, ⟨by simp [go_sem, *], by simp [go_sem, *], by simp [go_sem, *], by simp [go_sem, *], by simp [go_sem, *], by simp [go_sem, *]⟩, fun j hj => ⟨(hB_w5.cell (p := ⟨w1.heap.size, j * 2, none⟩) hzr).trans (HROW.out j hj).1, (hB_w5.cell (p := ⟨w1.heap.size, j * 2 + 1, none⟩) hzr).trans (HROW.out j hj).2⟩, HB.out.trans (hB_w5.mono hzw)⟩
        case measure => simp [intOf]; omega
    · obtain rfl : k = 6 := by omega
      go_wp2_with fail
      refine Calls.mono (AL.out _ HB.out) ?_
      rintro e w6 ⟨rfl, hb_w6⟩
      have hz_w6 := hb_w6.size
      try simp at hz_w6
      obtain ⟨c_w6_w_0, f_w6_w_0⟩ := bk hb_w6 (w.heap.size) (by first | omega | (simp <;> omega))
      have c_w6_w_0_0 := c_w6_w_0 0
      conv at c_w6_w_0_0 => rhs; simp [go_sem, *]
      have f_w6_w_0_0 := f_w6_w_0 0
      conv at f_w6_w_0_0 => rhs; simp [go_sem, *]
      have c_w6_w_0_1 := c_w6_w_0 1
      conv at c_w6_w_0_1 => rhs; simp [go_sem, *]
      have f_w6_w_0_1 := f_w6_w_0 1
      conv at f_w6_w_0_1 => rhs; simp [go_sem, *]
      have c_w6_w_0_2 := c_w6_w_0 2
      conv at c_w6_w_0_2 => rhs; simp [go_sem, *]
      have f_w6_w_0_2 := f_w6_w_0 2
      conv at f_w6_w_0_2 => rhs; simp [go_sem, *]
      have c_w6_w_0_3 := c_w6_w_0 3
      conv at c_w6_w_0_3 => rhs; simp [go_sem, *]
      have f_w6_w_0_3 := f_w6_w_0 3
      conv at f_w6_w_0_3 => rhs; simp [go_sem, *]
      have c_w6_w_0_4 := c_w6_w_0 4
      conv at c_w6_w_0_4 => rhs; simp [go_sem, *]
      have f_w6_w_0_4 := f_w6_w_0 4
      conv at f_w6_w_0_4 => rhs; simp [go_sem, *]
      have c_w6_w_0_5 := c_w6_w_0 5
      conv at c_w6_w_0_5 => rhs; simp [go_sem, *]
      have f_w6_w_0_5 := f_w6_w_0 5
      conv at f_w6_w_0_5 => rhs; simp [go_sem, *]
      have HH_w6 := Lib.hid hb_w6
      have hB_w6 : Below w.heap.size w w6 := Below.trans (by (repeat (first | (with_reducible exact Below.refl _ _) | (with_reducible assumption) | (with_reducible refine Below.drew ?_) | (focus ((with_reducible refine Below.setCell ?_ ?_ _); rotate_left; (first | omega | (simp <;> omega)))) | (focus ((with_reducible refine Below.alloc ?_ ?_ _); rotate_left; (first | omega | (simp <;> omega)))) | exact Below.refl _ _ | assumption | refine Below.drew ?_ | refine Below.alloc ?_ (by first | omega | (simp <;> omega)) _ | refine Below.setCell ?_ (by first | omega | (simp <;> omega)) _))) (hb_w6.mono (by first | omega | (simp <;> omega)))
      clear hb_w6 c_w6_w_0 f_w6_w_0
      try clear c_w5_wr_0_0
      try clear f_w5_wr_0_0
      try clear c_w5_wr_0_1
      try clear f_w5_wr_0_1
      try clear c_w5_w_0_0
      try clear f_w5_w_0_0
      try clear c_w5_w_0_1
      try clear f_w5_w_0_1
      try clear c_w5_w_0_2
      try clear f_w5_w_0_2
      try clear c_w5_w_0_3
      try clear f_w5_w_0_3
      try clear c_w5_w_0_4
      try clear f_w5_w_0_4
      try clear c_w5_w_0_5
      try clear f_w5_w_0_5
      try clear far_w5_wr_0
      try clear far_w5_w_0
      try clear hB_w5
      have far_w6_w_0 := far (show w.heap.size < w6.heap.size by omega)
      go_wp2_with fail
      refine Calls.mono (S3.out _ (by (have := HB.out; (repeat (first | (with_reducible exact Below.refl _ _) | (with_reducible assumption) | (with_reducible refine Below.drew ?_) | (focus ((with_reducible refine Below.setCell ?_ ?_ _); rotate_left; (first | omega | (simp <;> omega)))) | (focus ((with_reducible refine Below.alloc ?_ ?_ _); rotate_left; (first | omega | (simp <;> omega)))) | exact Below.refl _ _ | assumption | refine Below.drew ?_ | refine Below.alloc ?_ (by first | omega | (simp <;> omega)) _ | refine Below.setCell ?_ (by first | omega | (simp <;> omega)) _))))) ?_
      rintro e w7 ⟨rfl, hb_w7⟩
      have hz_w7 := hb_w7.size
      try simp at hz_w7
      obtain ⟨c_w7_w_0, f_w7_w_0⟩ := bk hb_w7 (w.heap.size) (by first | omega | (simp <;> omega))
      have c_w7_w_0_0 := c_w7_w_0 0
      conv at c_w7_w_0_0 => rhs; simp [go_sem, *]
      have f_w7_w_0_0 := f_w7_w_0 0
      conv at f_w7_w_0_0 => rhs; simp [go_sem, *]
      have c_w7_w_0_1 := c_w7_w_0 1
      conv at c_w7_w_0_1 => rhs; simp [go_sem, *]
      have f_w7_w_0_1 := f_w7_w_0 1
      conv at f_w7_w_0_1 => rhs; simp [go_sem, *]
      have c_w7_w_0_2 := c_w7_w_0 2
      conv at c_w7_w_0_2 => rhs; simp [go_sem, *]
      have f_w7_w_0_2 := f_w7_w_0 2
      conv at f_w7_w_0_2 => rhs; simp [go_sem, *]
      have c_w7_w_0_3 := c_w7_w_0 3
      conv at c_w7_w_0_3 => rhs; simp [go_sem, *]
      have f_w7_w_0_3 := f_w7_w_0 3
      conv at f_w7_w_0_3 => rhs; simp [go_sem, *]
      have c_w7_w_0_4 := c_w7_w_0 4
      conv at c_w7_w_0_4 => rhs; simp [go_sem, *]
      have f_w7_w_0_4 := f_w7_w_0 4
      conv at f_w7_w_0_4 => rhs; simp [go_sem, *]
      have c_w7_w_0_5 := c_w7_w_0 5
      conv at c_w7_w_0_5 => rhs; simp [go_sem, *]
      have f_w7_w_0_5 := f_w7_w_0 5
      conv at f_w7_w_0_5 => rhs; simp [go_sem, *]
      have HH_w7 := Lib.hid hb_w7
      have hB_w7 : Below w.heap.size w w7 := Below.trans (by (repeat (first | (with_reducible exact Below.refl _ _) | (with_reducible assumption) | (with_reducible refine Below.drew ?_) | (focus ((with_reducible refine Below.setCell ?_ ?_ _); rotate_left; (first | omega | (simp <;> omega)))) | (focus ((with_reducible refine Below.alloc ?_ ?_ _); rotate_left; (first | omega | (simp <;> omega)))) | exact Below.refl _ _ | assumption | refine Below.drew ?_ | refine Below.alloc ?_ (by first | omega | (simp <;> omega)) _ | refine Below.setCell ?_ (by first | omega | (simp <;> omega)) _))) (hb_w7.mono (by first | omega | (simp <;> omega)))
      clear hb_w7 c_w7_w_0 f_w7_w_0
      try clear c_w6_w_0_0
      try clear f_w6_w_0_0
      try clear c_w6_w_0_1
      try clear f_w6_w_0_1
      try clear c_w6_w_0_2
      try clear f_w6_w_0_2
      try clear c_w6_w_0_3
      try clear f_w6_w_0_3
      try clear c_w6_w_0_4
      try clear f_w6_w_0_4
      try clear c_w6_w_0_5
      try clear f_w6_w_0_5
      try clear far_w6_w_0
      try clear hB_w6
      have far_w7_w_0 := far (show w.heap.size < w7.heap.size by omega)
      go_wp2_with fail
      refine Calls.mono (S4.out _ (by (have := HB.out; (repeat (first | (with_reducible exact Below.refl _ _) | (with_reducible assumption) | (with_reducible refine Below.drew ?_) | (focus ((with_reducible refine Below.setCell ?_ ?_ _); rotate_left; (first | omega | (simp <;> omega)))) | (focus ((with_reducible refine Below.alloc ?_ ?_ _); rotate_left; (first | omega | (simp <;> omega)))) | exact Below.refl _ _ | assumption | refine Below.drew ?_ | refine Below.alloc ?_ (by first | omega | (simp <;> omega)) _ | refine Below.setCell ?_ (by first | omega | (simp <;> omega)) _))))) ?_
      rintro e w8 ⟨rfl, hb_w8⟩
      have hz_w8 := hb_w8.size
      try simp at hz_w8
      obtain ⟨c_w8_w_0, f_w8_w_0⟩ := bk hb_w8 (w.heap.size) (by first | omega | (simp <;> omega))
      have c_w8_w_0_0 := c_w8_w_0 0
      conv at c_w8_w_0_0 => rhs; simp [go_sem, *]
      have f_w8_w_0_0 := f_w8_w_0 0
      conv at f_w8_w_0_0 => rhs; simp [go_sem, *]
      have c_w8_w_0_1 := c_w8_w_0 1
      conv at c_w8_w_0_1 => rhs; simp [go_sem, *]
      have f_w8_w_0_1 := f_w8_w_0 1
      conv at f_w8_w_0_1 => rhs; simp [go_sem, *]
      have c_w8_w_0_2 := c_w8_w_0 2
      conv at c_w8_w_0_2 => rhs; simp [go_sem, *]
      have f_w8_w_0_2 := f_w8_w_0 2
      conv at f_w8_w_0_2 => rhs; simp [go_sem, *]
      have c_w8_w_0_3 := c_w8_w_0 3
      conv at c_w8_w_0_3 => rhs; simp [go_sem, *]
      have f_w8_w_0_3 := f_w8_w_0 3
      conv at f_w8_w_0_3 => rhs; simp [go_sem, *]
      have c_w8_w_0_4 := c_w8_w_0 4
      conv at c_w8_w_0_4 => rhs; simp [go_sem, *]
      have f_w8_w_0_4 := f_w8_w_0 4
      conv at f_w8_w_0_4 => rhs; simp [go_sem, *]
      have c_w8_w_0_5 := c_w8_w_0 5
      conv at c_w8_w_0_5 => rhs; simp [go_sem, *]
      have f_w8_w_0_5 := f_w8_w_0 5
      conv at f_w8_w_0_5 => rhs; simp [go_sem, *]
      have HH_w8 := Lib.hid hb_w8
      have hB_w8 : Below w.heap.size w w8 := Below.trans (by (repeat (first | (with_reducible exact Below.refl _ _) | (with_reducible assumption) | (with_reducible refine Below.drew ?_) | (focus ((with_reducible refine Below.setCell ?_ ?_ _); rotate_left; (first | omega | (simp <;> omega)))) | (focus ((with_reducible refine Below.alloc ?_ ?_ _); rotate_left; (first | omega | (simp <;> omega)))) | exact Below.refl _ _ | assumption | refine Below.drew ?_ | refine Below.alloc ?_ (by first | omega | (simp <;> omega)) _ | refine Below.setCell ?_ (by first | omega | (simp <;> omega)) _))) (hb_w8.mono (by first | omega | (simp <;> omega)))
      clear hb_w8 c_w8_w_0 f_w8_w_0
      try clear c_w7_w_0_0
      try clear f_w7_w_0_0
      try clear c_w7_w_0_1
      try clear f_w7_w_0_1
      try clear c_w7_w_0_2
      try clear f_w7_w_0_2
      try clear c_w7_w_0_3
      try clear f_w7_w_0_3
      try clear c_w7_w_0_4
      try clear f_w7_w_0_4
      try clear c_w7_w_0_5
      try clear f_w7_w_0_5
      try clear far_w7_w_0
      try clear hB_w7
      have far_w8_w_0 := far (show w.heap.size < w8.heap.size by omega)
      go_wp2_with fail
      refine Calls.mono (S5.out _ (by (have := HB.out; (repeat (first | (with_reducible exact Below.refl _ _) | (with_reducible assumption) | (with_reducible refine Below.drew ?_) | (focus ((with_reducible refine Below.setCell ?_ ?_ _); rotate_left; (first | omega | (simp <;> omega)))) | (focus ((with_reducible refine Below.alloc ?_ ?_ _); rotate_left; (first | omega | (simp <;> omega)))) | exact Below.refl _ _ | assumption | refine Below.drew ?_ | refine Below.alloc ?_ (by first | omega | (simp <;> omega)) _ | refine Below.setCell ?_ (by first | omega | (simp <;> omega)) _))))) ?_
      rintro e w9 ⟨rfl, hb_w9⟩
      have hz_w9 := hb_w9.size
      try simp at hz_w9
      obtain ⟨c_w9_w_0, f_w9_w_0⟩ := bk hb_w9 (w.heap.size) (by first | omega | (simp <;> omega))
      have c_w9_w_0_0 := c_w9_w_0 0
      conv at c_w9_w_0_0 => rhs; simp [go_sem, *]
      have f_w9_w_0_0 := f_w9_w_0 0
      conv at f_w9_w_0_0 => rhs; simp [go_sem, *]
      have c_w9_w_0_1 := c_w9_w_0 1
      conv at c_w9_w_0_1 => rhs; simp [go_sem, *]
      have f_w9_w_0_1 := f_w9_w_0 1
      conv at f_w9_w_0_1 => rhs; simp [go_sem, *]
      have c_w9_w_0_2 := c_w9_w_0 2
      conv at c_w9_w_0_2 => rhs; simp [go_sem, *]
      have f_w9_w_0_2 := f_w9_w_0 2
      conv at f_w9_w_0_2 => rhs; simp [go_sem, *]
      have c_w9_w_0_3 := c_w9_w_0 3
      conv at c_w9_w_0_3 => rhs; simp [go_sem, *]
      have f_w9_w_0_3 := f_w9_w_0 3
      conv at f_w9_w_0_3 => rhs; simp [go_sem, *]
      have c_w9_w_0_4 := c_w9_w_0 4
      conv at c_w9_w_0_4 => rhs; simp [go_sem, *]
      have f_w9_w_0_4 := f_w9_w_0 4
      conv at f_w9_w_0_4 => rhs; simp [go_sem, *]
      have c_w9_w_0_5 := c_w9_w_0 5
      conv at c_w9_w_0_5 => rhs; simp [go_sem, *]
      have f_w9_w_0_5 := f_w9_w_0 5
      conv at f_w9_w_0_5 => rhs; simp [go_sem, *]
      have HH_w9 := Lib.hid hb_w9
      have hB_w9 : Below w.heap.size w w9 := Below.trans (by (repeat (first | (with_reducible exact Below.refl _ _) | (with_reducible assumption) | (with_reducible refine Below.drew ?_) | (focus ((with_reducible refine Below.setCell ?_ ?_ _); rotate_left; (first | omega | (simp <;> omega)))) | (focus ((with_reducible refine Below.alloc ?_ ?_ _); rotate_left; (first | omega | (simp <;> omega)))) | exact Below.refl _ _ | assumption | refine Below.drew ?_ | refine Below.alloc ?_ (by first | omega | (simp <;> omega)) _ | refine Below.setCell ?_ (by first | omega | (simp <;> omega)) _))) (hb_w9.mono (by first | omega | (simp <;> omega)))
      clear hb_w9 c_w9_w_0 f_w9_w_0
      try clear c_w8_w_0_0
      try clear f_w8_w_0_0
      try clear c_w8_w_0_1
      try clear f_w8_w_0_1
      try clear c_w8_w_0_2
      try clear f_w8_w_0_2
      try clear c_w8_w_0_3
      try clear f_w8_w_0_3
      try clear c_w8_w_0_4
      try clear f_w8_w_0_4
      try clear c_w8_w_0_5
      try clear f_w8_w_0_5
      try clear far_w8_w_0
      try clear hB_w8
      have far_w9_w_0 := far (show w.heap.size < w9.heap.size by omega)
      go_wp2
      go_ret
      exact ⟨ret_bool (by simp), by (have := HB.out; (repeat (first | (with_reducible exact Below.refl _ _) | (with_reducible assumption) | (with_reducible refine Below.drew ?_) | (focus ((with_reducible refine Below.setCell ?_ ?_ _); rotate_left; (first | omega | (simp <;> omega)))) | (focus ((with_reducible refine Below.alloc ?_ ?_ _); rotate_left; (first | omega | (simp <;> omega)))) | exact Below.refl _ _ | assumption | refine Below.drew ?_ | refine Below.alloc ?_ (by first | omega | (simp <;> omega)) _ | refine Below.setCell ?_ (by first | omega | (simp <;> omega)) _)))⟩
end Go.Proofs.YtenflcaalckdfaaDoor
