/- The document's Ref and Sub: the walks put together. The law VarsSubs: its walk. -/
import Derived.Test.YtenflcaalckdfaaGreatDoorVz35
import Derived.Test.YtenflcaalckdfaaGreatDoorVz36
import Derived.Test.YtenflcaalckdfaaGreatDoorVz37
import Derived.Test.YtenflcaalckdfaaGreatDoorVz28
namespace Go.Proofs.YtenflcaalckdfaaGreatDoor
open Go Go.RowKit Go.Sort Go.Shelf
set_option linter.unusedVariables false
set_option linter.unusedSimpArgs false

/-- The document's Ref: the value of the reference that a text begins with, and how long the reference is. -/
theorem docRef (e : En) (hf : e.few) (s : List UInt8) (hs : s.length ≤ 100000) (w : World) :
    Calls Tryz.prog 9 #[e.v, .string (S s)] w fun x w' => x = .returned (.tuple #[.string (S (refV e s).1), .int .i64 ((refV e s).2 : Nat)]) ∧ Below w.heap.size w w' := by
  cases hp0 : Lib.hasPrefix s [36, 40] with
  | false =>
    have h : refP s = none := by unfold refP; rw [hp0]; rfl
    rw [refV_none h]
    exact dr_A e hf s hs w hp0
  | true =>
    have hs2 : 2 ≤ s.length := (List.isPrefixOf_iff_prefix.1 hp0).length_le
    obtain ⟨r, hr⟩ : ∃ r, s.drop 2 = r := ⟨_, rfl⟩
    have lr : r.length + 2 = s.length := by rw [← hr, List.length_drop]; omega
    obtain ⟨n, hn⟩ : ∃ n, (r.takeWhile letterB).length = n := ⟨_, rfl⟩
    obtain ⟨name, hname⟩ : ∃ name, r.takeWhile letterB = name := ⟨_, rfl⟩
    by_cases hn0 : n = 0
    · have hne : name = [] := by rw [← hname]; exact List.length_eq_zero_iff.1 (hn.trans hn0)
      have h : refP s = none := by
        unfold refP
        rw [hr, hname, hne]
        simp
      rw [refV_none h]
      exact dr_B e hf s hs w r n hp0 hr hn hn0
    · have hnm : r.take n = name := by rw [← hn, ← hname]; exact takeWhile_take _ _
      have hln : name.length = n := by rw [← hname]; exact hn
      have hne : name.isEmpty = false := by
        cases name with
        | nil => simp at hln; omega
        | cons a b => rfl
      obtain ⟨r1, hr1⟩ : ∃ r1, r.drop n = r1 := ⟨_, rfl⟩
      have lr1 : r1.length ≤ r.length := by rw [← hr1, List.length_drop]; omega
      have hP := refP_of (r1 := r1) hp0 hr hname hne (by rw [hln]; exact hr1)
      have hn0' : 0 < n := by omega
      cases hb : Lib.hasPrefix r1 [123] with
      | false =>
        have hk : keyP r1 = some ([], r1) := by unfold keyP; rw [hb, if_neg (by simp)]
        rw [hk, Option.bind_some] at hP
        refine ref_join (fun v N => Calls Tryz.prog 9 #[e.v, .string (S s)] w fun x w' => x = .returned (.tuple #[.string (S v), .int .i64 N]) ∧ Below w.heap.size w w') e s name [] r1 hP (by omega) ?_ ?_ ?_ ?_ ?_ ?_ ?_ ?_ ?_ ?_
        · exact fun hd z o r3 hz hcu => dr_C2_D1n e hf s hs w r n hp0 hr hn hn0' name r1 hnm hr1 hb hd z o r3 hz hcu
        · exact fun hd z o r3 hz hcu hE => dr_C2_D1_no e hf s hs w r n hp0 hr hn hn0' name r1 hnm hr1 hb hd z o r3 hz hcu hE
        · exact fun hd z o r3 hz hcu hE v hv => dr_C2_D1_is e hf s hs w r n hp0 hr hn hn0' name r1 hnm hr1 hb hd z o r3 hz hcu hE v hv
        · exact fun hd z o r3 hz hcu hE v hv => dr_C2_D1_not e hf s hs w r n hp0 hr hn hn0' name r1 hnm hr1 hb hd z o r3 hz hcu hE v hv
        · exact fun hd hd2 z q o r3 hz hq ho hr3 hE => dr_C2_D2_no e hf s hs w r n hp0 hr hn hn0' name r1 hnm hr1 hb hd hd2 z hz q hq o r3 ho hr3 hE
        · exact fun hd hd2 z q o r3 hz hq ho hr3 hE v hv => dr_C2_D2_is e hf s hs w r n hp0 hr hn hn0' name r1 hnm hr1 hb hd hd2 z hz q hq o r3 ho hr3 hE v hv
        · exact fun hd hd2 z q o r3 hz hq ho hr3 hE v hv => dr_C2_D2_not e hf s hs w r n hp0 hr hn hn0' name r1 hnm hr1 hb hd hd2 z hz q hq o r3 ho hr3 hE v hv
        · exact fun hd hd2 hE => dr_C2_D3_no e hf s hs w r n hp0 hr hn hn0' name r1 hnm hr1 hb hd hd2 hE
        · exact fun hd hd2 hE v hv => dr_C2_D3_is e hf s hs w r n hp0 hr hn hn0' name r1 hnm hr1 hb hd hd2 hE v hv
        · exact fun hd hd2 hE v hv => dr_C2_D3_not e hf s hs w r n hp0 hr hn hn0' name r1 hnm hr1 hb hd hd2 hE v hv
      | true =>
        have l2 : 1 ≤ r1.length := (List.isPrefixOf_iff_prefix.1 hb).length_le
        obtain ⟨x, hx⟩ : ∃ x, r1.drop 1 = x := ⟨_, rfl⟩
        obtain ⟨m, hm⟩ : ∃ m, (x.takeWhile (notIn badK)).length = m := ⟨_, rfl⟩
        obtain ⟨key, hkey⟩ : ∃ key, x.takeWhile (notIn badK) = key := ⟨_, rfl⟩
        have hkl : key.length = m := by rw [← hkey]; exact hm
        have hk2 : x.take m = key := by rw [← hm, ← hkey]; exact takeWhile_take _ _
        by_cases hm0 : m = 0
        · have hk : keyP r1 = none := by
            unfold keyP
            rw [hb, if_pos rfl, hx, hkey, List.length_eq_zero_iff.1 (hkl.trans hm0)]
            simp
          rw [hk, Option.bind_none] at hP
          rw [refV_none hP]
          exact dr_C1a e hf s hs w r n hp0 hr hn hn0' name r1 hnm hr1 hb x hx m hm key hk2 hm0
        · have hm0' : 0 < m := by omega
          have hke : key.isEmpty = false := by
            cases key with
            | nil => simp at hkl; omega
            | cons a b => rfl
          obtain ⟨y, hy⟩ : ∃ y, r1.drop (1 + m) = y := ⟨_, rfl⟩
          cases hc : Lib.hasPrefix y [125] with
          | false =>
            have hk : keyP r1 = none := by
              unfold keyP
              rw [hb, if_pos rfl, hx, hkey, hkl, hy, hc]
              simp
            rw [hk, Option.bind_none] at hP
            rw [refV_none hP]
            exact dr_C1b e hf s hs w r n hp0 hr hn hn0' name r1 hnm hr1 hb x hx m hm key hk2 hm0' y hy hc
          | true =>
            obtain ⟨r2, hr2⟩ : ∃ r2, r1.drop (2 + m) = r2 := ⟨_, rfl⟩
            have lr2 : r2.length ≤ r1.length := by rw [← hr2, List.length_drop]; omega
            have hk : keyP r1 = some (key, r2) := by
              unfold keyP
              rw [hb, if_pos rfl, hx, hkey, hkl, hy, hc, hke, hr2]
              rfl
            rw [hk, Option.bind_some] at hP
            refine ref_join (fun v N => Calls Tryz.prog 9 #[e.v, .string (S s)] w fun x w' => x = .returned (.tuple #[.string (S v), .int .i64 N]) ∧ Below w.heap.size w w') e s name key r2 hP (by omega) ?_ ?_ ?_ ?_ ?_ ?_ ?_ ?_ ?_ ?_
            · exact fun hd z o r3 hz hcu => dr_C1_D1n e hf s hs w r n hp0 hr hn hn0' name r1 hnm hr1 hb x hx m hm key hk2 hm0' y hy hc r2 hr2 hd z o r3 hz hcu
            · exact fun hd z o r3 hz hcu hE => dr_C1_D1_no e hf s hs w r n hp0 hr hn hn0' name r1 hnm hr1 hb x hx m hm key hk2 hm0' y hy hc r2 hr2 hd z o r3 hz hcu hE
            · exact fun hd z o r3 hz hcu hE v hv => dr_C1_D1_is e hf s hs w r n hp0 hr hn hn0' name r1 hnm hr1 hb x hx m hm key hk2 hm0' y hy hc r2 hr2 hd z o r3 hz hcu hE v hv
            · exact fun hd z o r3 hz hcu hE v hv => dr_C1_D1_not e hf s hs w r n hp0 hr hn hn0' name r1 hnm hr1 hb x hx m hm key hk2 hm0' y hy hc r2 hr2 hd z o r3 hz hcu hE v hv
            · exact fun hd hd2 z q o r3 hz hq ho hr3 hE => dr_C1_D2_no e hf s hs w r n hp0 hr hn hn0' name r1 hnm hr1 hb x hx m hm key hk2 hm0' y hy hc r2 hr2 hd hd2 z hz q hq o r3 ho hr3 hE
            · exact fun hd hd2 z q o r3 hz hq ho hr3 hE v hv => dr_C1_D2_is e hf s hs w r n hp0 hr hn hn0' name r1 hnm hr1 hb x hx m hm key hk2 hm0' y hy hc r2 hr2 hd hd2 z hz q hq o r3 ho hr3 hE v hv
            · exact fun hd hd2 z q o r3 hz hq ho hr3 hE v hv => dr_C1_D2_not e hf s hs w r n hp0 hr hn hn0' name r1 hnm hr1 hb x hx m hm key hk2 hm0' y hy hc r2 hr2 hd hd2 z hz q hq o r3 ho hr3 hE v hv
            · exact fun hd hd2 hE => dr_C1_D3_no e hf s hs w r n hp0 hr hn hn0' name r1 hnm hr1 hb x hx m hm key hk2 hm0' y hy hc r2 hr2 hd hd2 hE
            · exact fun hd hd2 hE v hv => dr_C1_D3_is e hf s hs w r n hp0 hr hn hn0' name r1 hnm hr1 hb x hx m hm key hk2 hm0' y hy hc r2 hr2 hd hd2 hE v hv
            · exact fun hd hd2 hE v hv => dr_C1_D3_not e hf s hs w r n hp0 hr hn hn0' name r1 hnm hr1 hb x hx m hm key hk2 hm0' y hy hc r2 hr2 hd hd2 hE v hv

set_option maxHeartbeats 3200000 in
set_option maxRecDepth 100000 in
theorem docSub (e : En) (hf : e.few) (s : List UInt8) (hs : s.length ≤ 13000) (w : World) :
    Calls Tryz.prog 12 #[e.v, .string (S s)] w fun x w' => x = .returned (.string (S (subV e s))) ∧ Below w.heap.size w w' := by
  have hsi : (s.length : Int) ≤ 13000 := by omega
  have VR := Lib.hid (fun (t : List UInt8) (ht : t.length ≤ 100000) W => docRef e hf t ht W)
  have SS := Lib.hid (fun (u : List UInt8) (h : 0 < u.length) => stepV_sub e (u := u) h)
  have SB := Lib.hid (fun (u : List UInt8) (h : 0 < u.length) => stepV_big hf (u := u) h)
  obtain ⟨R, hR⟩ : ∃ R, subV e s = R := ⟨_, rfl⟩
  rw [hR]
  have HR := Lib.hid hR
  clear hf hR
  go_enter Tryz.func12, Tryz.ntmps12
  go_wp2
  try simp only [mk_S]
  go_loopw [1, 5] (fun tv av wr => ∃ (t a : List UInt8), tv = .string (S t) ∧ av = .string (S a) ∧ t.length ≤ s.length ∧ a.length + 75 * t.length ≤ 75 * s.length ∧ a ++ subV e t = R ∧ Below (w.heap.size + 1) (w.alloc (.cells #[.string (S e.host), .string (S e.ref), .string (S e.agent), .string (S e.cookie), .string (S e.lang), .string (S e.query)] 23)) wr) (fun tv _ _ => strLen tv)
  case atStart => exact ⟨s, [], rfl, rfl, Nat.le_refl _, by simp, by rw [List.nil_append]; exact HR.out, Below.refl _ _⟩
  case round =>
    obtain ⟨t, a, rfl, rfl, htl, hal, hat, hB⟩ := hrel
    have hcc : ∀ o, wr.cell? ⟨w.heap.size, o, none⟩ = (w.alloc (.cells #[.string (S e.host), .string (S e.ref), .string (S e.agent), .string (S e.cookie), .string (S e.lang), .string (S e.query)] 23)).cell? ⟨w.heap.size, o, none⟩ := fun o => hB.cell (p := ⟨w.heap.size, o, none⟩) (by simp)
    have hzw := hB.size
    simp only [World.size_alloc] at hzw
    have HHB := Lib.hid (Below.trans (show Below w.heap.size w (w.alloc (.cells #[.string (S e.host), .string (S e.ref), .string (S e.agent), .string (S e.cookie), .string (S e.lang), .string (S e.query)] 23)) by (repeat (first | (with_reducible exact Below.refl _ _) | (with_reducible assumption) | (with_reducible refine Below.drew ?_) | (focus ((with_reducible refine Below.setCell ?_ ?_ _); rotate_left; (first | omega | (simp <;> omega)))) | (focus ((with_reducible refine Below.alloc ?_ ?_ _); rotate_left; (first | omega | (simp <;> omega)))) | exact Below.refl _ _ | assumption | refine Below.drew ?_ | refine Below.alloc ?_ (by first | omega | (simp <;> omega)) _ | refine Below.setCell ?_ (by first | omega | (simp <;> omega)) _))) (hB.mono (by omega)))
    have HB := Lib.hid hB
    have HAT := Lib.hid hat
    clear hB hat
    by_cases ht0 : t = []
    · subst ht0
      go_wp2_with fail
      go_ret
      have h := HAT.out
      rw [subV_nil, List.append_nil] at h
      exact ⟨by rw [← h]; rfl, HHB.out⟩
    · have hne : (t == []) = false := by simpa using ht0
      have hpos : 0 < t.length := List.length_pos_iff.2 ht0
      have hti : (t.length : Int) ≤ 13000 := by omega
      have hai : (a.length : Int) ≤ 975000 := by omega
      obtain ⟨⟨v, n⟩, hv⟩ : ∃ x, refV e t = x := ⟨_, rfl⟩
      have hnl := (refV_len e t).1
      have VR1 := Lib.hid (fun W => VR.out t (by omega) W)
      have SS1 := Lib.hid (SS.out t hpos)
      have SB1 := Lib.hid (SB.out t hpos)
      unfold stepV at SS1 SB1
      rw [hv] at hnl VR1 SS1 SB1
      simp only at hnl VR1 SS1 SB1
      clear hv ht0
      by_cases hn : n = 0
      · subst hn
        rw [if_pos rfl] at SS1 SB1
        simp only at SS1 SB1
        obtain ⟨c, t', rfl⟩ : ∃ c t', t = c :: t' := by
          cases t with
          | nil => simp at hne
          | cons c t' => exact ⟨c, t', rfl⟩
        simp only [List.length_cons] at htl hal hti
        go_wp2_with (first
          | (go_at_call 9; refine Calls.mono (VR1.out _) ?_; rintro x w4 ⟨rfl, hb4⟩; have HB4 := Lib.hid (HB.out.trans (hb4.mono (by omega))); clear hb4)
          | fail)
        go_roundw
        case rel => exact ⟨t', a ++ [c], by first | rfl | simp [go_sem], by first | rfl | simp [go_sem], by omega, by simp only [List.length_append, List.length_cons, List.length_nil]; omega, by (have h := HAT.out); rw [SS1.out] at h; simpa using h, HB4.out⟩
        case measure => first | (simp [strLen_S]; omega) | (simp [strLen_S]; done) | (rw [strLen_S]; simp; omega)
      · rw [if_neg hn] at SS1 SB1
        have hn1 : ((n : Int) == 0) = false := by simp; omega
        have hn2 : ((n : Int) = 0) = False := by simp; omega
        have hni : (n : Int) ≤ t.length := by omega
        simp only at SS1 SB1
        have SB2 := SB1.out
        clear SB1
        go_wp2_with (first
          | (go_at_call 9; refine Calls.mono (VR1.out _) ?_; rintro x w4 ⟨rfl, hb4⟩; have HB4 := Lib.hid (HB.out.trans (hb4.mono (by omega))); clear hb4)
          | fail)
        go_roundw
        case rel => exact ⟨t.drop n, a ++ v, by first | rfl | simp [go_sem], by first | rfl | simp [go_sem], by simp only [List.length_drop]; omega, by simp only [List.length_append, List.length_drop]; omega, by (have h := HAT.out); rw [SS1.out] at h; simpa using h, HB4.out⟩
        case measure => first | (simp [strLen_S]; omega) | (rw [strLen_S, strLen_S, List.length_drop]; omega)
end Go.Proofs.YtenflcaalckdfaaGreatDoor
namespace Go.Proofs.YtenflcaalckdfaaGreatDoor
open Go Go.RowKit Go.Sort Go.Shelf
set_option linter.unusedVariables false
set_option linter.unusedSimpArgs false

set_option maxHeartbeats 3200000 in
set_option maxRecDepth 100000 in
theorem varsSubs_any (a0 a1 a2 a3 a4 a5 b : ByteArray) (w : World) (h0 : a0.size ≤ maxLen) (h1 : a1.size ≤ maxLen) (h2 : a2.size ≤ maxLen) (h3 : a3.size ≤ maxLen) (h4 : a4.size ≤ maxLen) (h5 : a5.size ≤ maxLen) (hb : b.size ≤ maxLen) (_hL : True) (hM : ∃ m, w.cell? ⟨0, 0, none⟩ = some (.int .i64 m)) :
    Calls Tryz.prog 3 #[.agg #[.string a0, .string a1, .string a2, .string a3, .string a4, .string a5], .string b] w fun x w' => x = .returned (.bool true) ∧ Below w.heap.size w w' := by
  obtain ⟨l0, rfl⟩ := S_of a0
  obtain ⟨l1, rfl⟩ := S_of a1
  obtain ⟨l2, rfl⟩ := S_of a2
  obtain ⟨l3, rfl⟩ := S_of a3
  obtain ⟨l4, rfl⟩ := S_of a4
  obtain ⟨l5, rfl⟩ := S_of a5
  obtain ⟨s0, rfl⟩ := S_of b
  simp only [S_size] at h0 h1 h2 h3 h4 h5 hb
  have hm : maxLen = 9223372036854775807 := rfl
  rw [hm] at h0 h1 h2 h3 h4 h5 hb
  clear hm
  have FE := Lib.hid (fun W => vars_few ⟨l0, l1, l2, l3, l4, l5⟩ ⟨h0, h1, h2, h3, h4, h5⟩ W)
  have hcf := En.cut_few ⟨l0, l1, l2, l3, l4, l5⟩
  obtain ⟨e, he⟩ : ∃ e, En.cut ⟨l0, l1, l2, l3, l4, l5⟩ = e := ⟨_, rfl⟩
  rw [he] at FE hcf
  have SH := Lib.hid (fun W => vars_short s0 hb W)
  obtain ⟨s, hs⟩ : ∃ s, s0.take 600 = s := ⟨_, rfl⟩
  have hsl : s.length ≤ 600 := by rw [← hs, List.length_take]; omega
  rw [hs] at SH
  have SU := Lib.hid (fun W (hb : Below w.heap.size w W) => varsSub e hcf s (by omega) W (ML.later hM (GG.of_below hb)))
  have RF := Lib.hid (fun W (hb : Below w.heap.size w W) => varsRef e hcf s (by omega) W (ML.later hM (GG.of_below hb)))
  have DS := Lib.hid (fun W => docSub e hcf s (by omega) W)
  have DR := Lib.hid (fun W => docRef e hcf s (by omega) W)
  have AL := Lib.hid (fun W (hb : Below w.heap.size w W) => vars_alive W (ML.later hM (GG.of_below hb)))
  obtain ⟨R, hR⟩ : ∃ R, subV e s = R := ⟨_, rfl⟩
  rw [hR] at SU DS
  obtain ⟨⟨v, n⟩, hv⟩ : ∃ x, refV e s = x := ⟨_, rfl⟩
  rw [hv] at RF DR
  simp only at RF DR
  obtain ⟨f0, f1, f2, f3, f4, f5⟩ := e
  unfold En.v at *
  simp only at FE SU RF DS DR
  clear he hcf hM h0 h1 h2 h3 h4 h5 hR hv hs hb
  go_enter Tryz.func3, Tryz.ntmps3
  go_wp2_with fail
  refine Calls.mono (FE.out _) ?_
  rintro e w1 ⟨rfl, hb_w1⟩
  have hz_w1 := hb_w1.size
  try simp at hz_w1
  obtain ⟨c_w1_w_0, f_w1_w_0⟩ := bk hb_w1 (w.heap.size) (by first | omega | (simp <;> omega))
  have c_w1_w_0_0 := c_w1_w_0 0
  conv at c_w1_w_0_0 => rhs; simp [go_sem, *]
  have f_w1_w_0_0 := f_w1_w_0 0
  conv at f_w1_w_0_0 => rhs; simp [go_sem, *]
  have c_w1_w_0_1 := c_w1_w_0 1
  conv at c_w1_w_0_1 => rhs; simp [go_sem, *]
  have f_w1_w_0_1 := f_w1_w_0 1
  conv at f_w1_w_0_1 => rhs; simp [go_sem, *]
  have c_w1_w_0_2 := c_w1_w_0 2
  conv at c_w1_w_0_2 => rhs; simp [go_sem, *]
  have f_w1_w_0_2 := f_w1_w_0 2
  conv at f_w1_w_0_2 => rhs; simp [go_sem, *]
  have c_w1_w_0_3 := c_w1_w_0 3
  conv at c_w1_w_0_3 => rhs; simp [go_sem, *]
  have f_w1_w_0_3 := f_w1_w_0 3
  conv at f_w1_w_0_3 => rhs; simp [go_sem, *]
  have c_w1_w_0_4 := c_w1_w_0 4
  conv at c_w1_w_0_4 => rhs; simp [go_sem, *]
  have f_w1_w_0_4 := f_w1_w_0 4
  conv at f_w1_w_0_4 => rhs; simp [go_sem, *]
  have c_w1_w_0_5 := c_w1_w_0 5
  conv at c_w1_w_0_5 => rhs; simp [go_sem, *]
  have f_w1_w_0_5 := f_w1_w_0 5
  conv at f_w1_w_0_5 => rhs; simp [go_sem, *]
  have HH_w1 := Lib.hid hb_w1
  have hB_w1 : Below w.heap.size w w1 := Below.trans (by (repeat (first | (with_reducible exact Below.refl _ _) | (with_reducible assumption) | (with_reducible refine Below.drew ?_) | (focus ((with_reducible refine Below.setCell ?_ ?_ _); rotate_left; (first | omega | (simp <;> omega)))) | (focus ((with_reducible refine Below.alloc ?_ ?_ _); rotate_left; (first | omega | (simp <;> omega)))) | exact Below.refl _ _ | assumption | refine Below.drew ?_ | refine Below.alloc ?_ (by first | omega | (simp <;> omega)) _ | refine Below.setCell ?_ (by first | omega | (simp <;> omega)) _))) (hb_w1.mono (by first | omega | (simp <;> omega)))
  clear hb_w1 c_w1_w_0 f_w1_w_0
  have far_w1_w_0 := far (show w.heap.size < w1.heap.size by omega)
  go_wp2_with (first | (go_at_call 7; refine Calls.mono (SH.out _) ?_; rintro x wq ⟨rfl, hwq⟩; obtain rfl := hwq.symm) | fail)
  go_wp2_with fail
  refine Calls.mono (RF.out _ (by (repeat (first | (with_reducible exact Below.refl _ _) | (with_reducible assumption) | (with_reducible refine Below.drew ?_) | (focus ((with_reducible refine Below.setCell ?_ ?_ _); rotate_left; (first | omega | (simp <;> omega)))) | (focus ((with_reducible refine Below.alloc ?_ ?_ _); rotate_left; (first | omega | (simp <;> omega)))) | exact Below.refl _ _ | assumption | refine Below.drew ?_ | refine Below.alloc ?_ (by first | omega | (simp <;> omega)) _ | refine Below.setCell ?_ (by first | omega | (simp <;> omega)) _)))) ?_
  rintro e w2 ⟨rfl, hb_w2⟩
  have hz_w2 := hb_w2.size
  try simp at hz_w2
  obtain ⟨c_w2_w_0, f_w2_w_0⟩ := bk hb_w2 (w.heap.size) (by first | omega | (simp <;> omega))
  have c_w2_w_0_0 := c_w2_w_0 0
  conv at c_w2_w_0_0 => rhs; simp [go_sem, *]
  have f_w2_w_0_0 := f_w2_w_0 0
  conv at f_w2_w_0_0 => rhs; simp [go_sem, *]
  have c_w2_w_0_1 := c_w2_w_0 1
  conv at c_w2_w_0_1 => rhs; simp [go_sem, *]
  have f_w2_w_0_1 := f_w2_w_0 1
  conv at f_w2_w_0_1 => rhs; simp [go_sem, *]
  have c_w2_w_0_2 := c_w2_w_0 2
  conv at c_w2_w_0_2 => rhs; simp [go_sem, *]
  have f_w2_w_0_2 := f_w2_w_0 2
  conv at f_w2_w_0_2 => rhs; simp [go_sem, *]
  have c_w2_w_0_3 := c_w2_w_0 3
  conv at c_w2_w_0_3 => rhs; simp [go_sem, *]
  have f_w2_w_0_3 := f_w2_w_0 3
  conv at f_w2_w_0_3 => rhs; simp [go_sem, *]
  have c_w2_w_0_4 := c_w2_w_0 4
  conv at c_w2_w_0_4 => rhs; simp [go_sem, *]
  have f_w2_w_0_4 := f_w2_w_0 4
  conv at f_w2_w_0_4 => rhs; simp [go_sem, *]
  have c_w2_w_0_5 := c_w2_w_0 5
  conv at c_w2_w_0_5 => rhs; simp [go_sem, *]
  have f_w2_w_0_5 := f_w2_w_0 5
  conv at f_w2_w_0_5 => rhs; simp [go_sem, *]
  have HH_w2 := Lib.hid hb_w2
  have hB_w2 : Below w.heap.size w w2 := Below.trans (by (repeat (first | (with_reducible exact Below.refl _ _) | (with_reducible assumption) | (with_reducible refine Below.drew ?_) | (focus ((with_reducible refine Below.setCell ?_ ?_ _); rotate_left; (first | omega | (simp <;> omega)))) | (focus ((with_reducible refine Below.alloc ?_ ?_ _); rotate_left; (first | omega | (simp <;> omega)))) | exact Below.refl _ _ | assumption | refine Below.drew ?_ | refine Below.alloc ?_ (by first | omega | (simp <;> omega)) _ | refine Below.setCell ?_ (by first | omega | (simp <;> omega)) _))) (hb_w2.mono (by first | omega | (simp <;> omega)))
  clear hb_w2 c_w2_w_0 f_w2_w_0
  try clear c_w1_w_0_0
  try clear f_w1_w_0_0
  try clear c_w1_w_0_1
  try clear f_w1_w_0_1
  try clear c_w1_w_0_2
  try clear f_w1_w_0_2
  try clear c_w1_w_0_3
  try clear f_w1_w_0_3
  try clear c_w1_w_0_4
  try clear f_w1_w_0_4
  try clear c_w1_w_0_5
  try clear f_w1_w_0_5
  try clear far_w1_w_0
  try clear hB_w1
  have far_w2_w_0 := far (show w.heap.size < w2.heap.size by omega)
  go_wp2_with fail
  refine Calls.mono (DR.out _) ?_
  rintro e w3 ⟨rfl, hb_w3⟩
  have hz_w3 := hb_w3.size
  try simp at hz_w3
  obtain ⟨c_w3_w_0, f_w3_w_0⟩ := bk hb_w3 (w.heap.size) (by first | omega | (simp <;> omega))
  have c_w3_w_0_0 := c_w3_w_0 0
  conv at c_w3_w_0_0 => rhs; simp [go_sem, *]
  have f_w3_w_0_0 := f_w3_w_0 0
  conv at f_w3_w_0_0 => rhs; simp [go_sem, *]
  have c_w3_w_0_1 := c_w3_w_0 1
  conv at c_w3_w_0_1 => rhs; simp [go_sem, *]
  have f_w3_w_0_1 := f_w3_w_0 1
  conv at f_w3_w_0_1 => rhs; simp [go_sem, *]
  have c_w3_w_0_2 := c_w3_w_0 2
  conv at c_w3_w_0_2 => rhs; simp [go_sem, *]
  have f_w3_w_0_2 := f_w3_w_0 2
  conv at f_w3_w_0_2 => rhs; simp [go_sem, *]
  have c_w3_w_0_3 := c_w3_w_0 3
  conv at c_w3_w_0_3 => rhs; simp [go_sem, *]
  have f_w3_w_0_3 := f_w3_w_0 3
  conv at f_w3_w_0_3 => rhs; simp [go_sem, *]
  have c_w3_w_0_4 := c_w3_w_0 4
  conv at c_w3_w_0_4 => rhs; simp [go_sem, *]
  have f_w3_w_0_4 := f_w3_w_0 4
  conv at f_w3_w_0_4 => rhs; simp [go_sem, *]
  have c_w3_w_0_5 := c_w3_w_0 5
  conv at c_w3_w_0_5 => rhs; simp [go_sem, *]
  have f_w3_w_0_5 := f_w3_w_0 5
  conv at f_w3_w_0_5 => rhs; simp [go_sem, *]
  have HH_w3 := Lib.hid hb_w3
  have hB_w3 : Below w.heap.size w w3 := Below.trans (by (repeat (first | (with_reducible exact Below.refl _ _) | (with_reducible assumption) | (with_reducible refine Below.drew ?_) | (focus ((with_reducible refine Below.setCell ?_ ?_ _); rotate_left; (first | omega | (simp <;> omega)))) | (focus ((with_reducible refine Below.alloc ?_ ?_ _); rotate_left; (first | omega | (simp <;> omega)))) | exact Below.refl _ _ | assumption | refine Below.drew ?_ | refine Below.alloc ?_ (by first | omega | (simp <;> omega)) _ | refine Below.setCell ?_ (by first | omega | (simp <;> omega)) _))) (hb_w3.mono (by first | omega | (simp <;> omega)))
  clear hb_w3 c_w3_w_0 f_w3_w_0
  try clear c_w2_w_0_0
  try clear f_w2_w_0_0
  try clear c_w2_w_0_1
  try clear f_w2_w_0_1
  try clear c_w2_w_0_2
  try clear f_w2_w_0_2
  try clear c_w2_w_0_3
  try clear f_w2_w_0_3
  try clear c_w2_w_0_4
  try clear f_w2_w_0_4
  try clear c_w2_w_0_5
  try clear f_w2_w_0_5
  try clear far_w2_w_0
  try clear hB_w2
  have far_w3_w_0 := far (show w.heap.size < w3.heap.size by omega)
  go_wp2_with fail
  refine wp_region_later (w3.heap.size) (by kernel_rfl) (by kernel_rfl) ?_
  have l_w5_w_0 := @Later.at (w3.heap.size) (w.heap.size) (by omega)
  repeat (go_big_quiet_step ((first | (go_at_call 10; with_reducible refine later_of (by (first | omega | (simp <;> omega))) (AL.out _ (Below.trans (by (repeat (first | (with_reducible exact Below.refl _ _) | (with_reducible assumption) | (with_reducible refine Below.drew ?_) | (focus ((with_reducible refine Below.setCell ?_ ?_ _); rotate_left; (first | omega | (simp <;> omega)))) | (focus ((with_reducible refine Below.alloc ?_ ?_ _); rotate_left; (first | omega | (simp <;> omega)))) | exact Below.refl _ _ | assumption | refine Below.drew ?_ | refine Below.alloc ?_ (by first | omega | (simp <;> omega)) _ | refine Below.setCell ?_ (by first | omega | (simp <;> omega)) _)) : Below w.heap.size w _) (Below.mono (Later.b _) (by (first | omega | (simp <;> omega))))))) | (go_at_call 11; with_reducible refine later_of (by (first | omega | (simp <;> omega))) (SU.out _ (Below.trans (by (repeat (first | (with_reducible exact Below.refl _ _) | (with_reducible assumption) | (with_reducible refine Below.drew ?_) | (focus ((with_reducible refine Below.setCell ?_ ?_ _); rotate_left; (first | omega | (simp <;> omega)))) | (focus ((with_reducible refine Below.alloc ?_ ?_ _); rotate_left; (first | omega | (simp <;> omega)))) | exact Below.refl _ _ | assumption | refine Below.drew ?_ | refine Below.alloc ?_ (by first | omega | (simp <;> omega)) _ | refine Below.setCell ?_ (by first | omega | (simp <;> omega)) _)) : Below w.heap.size w _) (Below.mono (Later.b _) (by (first | omega | (simp <;> omega))))))) | (go_at_call 12; with_reducible refine later_of (by (first | omega | (simp <;> omega))) (DS.out _)))))
  refine wpQuiet_nil ?_
  rintro w5 ⟨⟨_, hb_w5⟩, rfl⟩
  clear l_w5_w_0
  try simp only [] at hb_w5 ⊢
  have hz_w5 := hb_w5.size
  try simp at hz_w5
  have c_w5_w_0 := fun o => hb_w5.cell (p := ⟨w.heap.size, o, none⟩) (by first | omega | (simp <;> omega))
  have f_w5_w_0 := fun o => hb_w5.frozen (p := ⟨w.heap.size, o, none⟩) (by first | omega | (simp <;> omega))
  have c_w5_w_0_0 := c_w5_w_0 0
  conv at c_w5_w_0_0 => rhs; simp [go_sem, *]
  have f_w5_w_0_0 := f_w5_w_0 0
  conv at f_w5_w_0_0 => rhs; simp [go_sem, *]
  have c_w5_w_0_1 := c_w5_w_0 1
  conv at c_w5_w_0_1 => rhs; simp [go_sem, *]
  have f_w5_w_0_1 := f_w5_w_0 1
  conv at f_w5_w_0_1 => rhs; simp [go_sem, *]
  have c_w5_w_0_2 := c_w5_w_0 2
  conv at c_w5_w_0_2 => rhs; simp [go_sem, *]
  have f_w5_w_0_2 := f_w5_w_0 2
  conv at f_w5_w_0_2 => rhs; simp [go_sem, *]
  have c_w5_w_0_3 := c_w5_w_0 3
  conv at c_w5_w_0_3 => rhs; simp [go_sem, *]
  have f_w5_w_0_3 := f_w5_w_0 3
  conv at f_w5_w_0_3 => rhs; simp [go_sem, *]
  have c_w5_w_0_4 := c_w5_w_0 4
  conv at c_w5_w_0_4 => rhs; simp [go_sem, *]
  have f_w5_w_0_4 := f_w5_w_0 4
  conv at f_w5_w_0_4 => rhs; simp [go_sem, *]
  have c_w5_w_0_5 := c_w5_w_0 5
  conv at c_w5_w_0_5 => rhs; simp [go_sem, *]
  have f_w5_w_0_5 := f_w5_w_0 5
  conv at f_w5_w_0_5 => rhs; simp [go_sem, *]
  have HH_w5 := Lib.hid hb_w5
  have hB_w5 : Below w.heap.size w w5 := Below.trans (by (repeat (first | (with_reducible exact Below.refl _ _) | (with_reducible assumption) | (with_reducible refine Below.drew ?_) | (focus ((with_reducible refine Below.setCell ?_ ?_ _); rotate_left; (first | omega | (simp <;> omega)))) | (focus ((with_reducible refine Below.alloc ?_ ?_ _); rotate_left; (first | omega | (simp <;> omega)))) | exact Below.refl _ _ | assumption | refine Below.drew ?_ | refine Below.alloc ?_ (by first | omega | (simp <;> omega)) _ | refine Below.setCell ?_ (by first | omega | (simp <;> omega)) _))) (hb_w5.mono (by first | omega | (simp <;> omega)))
  clear hb_w5 c_w5_w_0 f_w5_w_0
  try clear c_w3_w_0_0
  try clear f_w3_w_0_0
  try clear c_w3_w_0_1
  try clear f_w3_w_0_1
  try clear c_w3_w_0_2
  try clear f_w3_w_0_2
  try clear c_w3_w_0_3
  try clear f_w3_w_0_3
  try clear c_w3_w_0_4
  try clear f_w3_w_0_4
  try clear c_w3_w_0_5
  try clear f_w3_w_0_5
  try clear far_w3_w_0
  try clear hB_w3
  have far_w5_w_0 := far (show w.heap.size < w5.heap.size by omega)
  go_wp2
  go_ret
  exact ⟨ret_bool (by simp), by (repeat (first | (with_reducible exact Below.refl _ _) | (with_reducible assumption) | (with_reducible refine Below.drew ?_) | (focus ((with_reducible refine Below.setCell ?_ ?_ _); rotate_left; (first | omega | (simp <;> omega)))) | (focus ((with_reducible refine Below.alloc ?_ ?_ _); rotate_left; (first | omega | (simp <;> omega)))) | exact Below.refl _ _ | assumption | refine Below.drew ?_ | refine Below.alloc ?_ (by first | omega | (simp <;> omega)) _ | refine Below.setCell ?_ (by first | omega | (simp <;> omega)) _))⟩
end Go.Proofs.YtenflcaalckdfaaGreatDoor
