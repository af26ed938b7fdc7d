/- The reference that a text begins with: vars.Ref answers refV (the ways of VarsRefA to VarsRefG put together). -/
import Derived.Test.YtenflcaalckdfaaDoorVr23
import Derived.Test.YtenflcaalckdfaaDoorVr24
import Derived.Test.YtenflcaalckdfaaDoorVr25
import Derived.Test.YtenflcaalckdfaaDoorVr26
import Derived.Test.YtenflcaalckdfaaDoorVr27
import Derived.Test.YtenflcaalckdfaaDoorVr28
import Derived.Test.YtenflcaalckdfaaDoorVr29
import Derived.Test.YtenflcaalckdfaaDoorVr17
namespace Go.Proofs.YtenflcaalckdfaaDoor
open Go Go.RowKit Go.Sort Go.Shelf
set_option linter.unusedVariables false
set_option linter.unusedSimpArgs false

theorem refV_none {e : En} {s : List UInt8} (h : refP s = none) : refV e s = ([], 0) := by unfold refV; rw [h]
theorem refV_some {e : En} {s name key o r3 : List UInt8} (h : refP s = some (name, key, o, r3)) : refV e s = ((if (valV e name key).2 then (valV e name key).1 else o), s.length - r3.length + 1) := by unfold refV; rw [h]
theorem takeWhile_take (p : UInt8 → Bool) (l : List UInt8) : l.take (l.takeWhile p).length = l.takeWhile p := (List.prefix_iff_eq_take.1 (List.takeWhile_prefix p)).symm
theorem refP_of {s r name r1 : List UInt8} (hp0 : Lib.hasPrefix s [36, 40] = true) (hr : s.drop 2 = r) (hn : r.takeWhile letterB = name) (hne : name.isEmpty = false) (hr1 : r.drop name.length = r1) :
    refP s = (keyP r1).bind fun k => (otherP k.2).bind fun o => if Lib.hasPrefix o.2 [41] then some (name, k.1, o.1, o.2) else none := by
  subst hr hn hr1
  unfold refP
  rw [hp0, hne]
  rfl
/-- Behind the key: by the ways that are left. -/
theorem ref_join (G : List UInt8 → Int → Prop) (e : En) (s name key r2 : List UInt8) (hP : refP s = (otherP r2).bind fun o => if Lib.hasPrefix o.2 [41] then some (name, key, o.1, o.2) else none)
    (hlen : r2.length ≤ s.length)
    (D1n : Lib.hasPrefix r2 [124, 39] = true → ∀ z o r3, r2.drop 2 = z → cut1 z 39 = (o, r3, false) → G [] 0)
    (D1_no : Lib.hasPrefix r2 [124, 39] = true → ∀ z o r3, r2.drop 2 = z → cut1 z 39 = (o, r3, true) → Lib.hasPrefix r3 [41] = false → G [] 0)
    (D1_is : Lib.hasPrefix r2 [124, 39] = true → ∀ z o r3, r2.drop 2 = z → cut1 z 39 = (o, r3, true) → Lib.hasPrefix r3 [41] = true → ∀ v, valV e name key = (v, true) → G v ((s.length : Int) - r3.length + 1))
    (D1_not : Lib.hasPrefix r2 [124, 39] = true → ∀ z o r3, r2.drop 2 = z → cut1 z 39 = (o, r3, true) → Lib.hasPrefix r3 [41] = true → ∀ v, valV e name key = (v, false) → G o ((s.length : Int) - r3.length + 1))
    (D2_no : Lib.hasPrefix r2 [124, 39] = false → Lib.hasPrefix r2 [124] = true → ∀ z q o r3, r2.drop 1 = z → (z.takeWhile (notIn badO)).length = q → z.take q = o → r2.drop (1 + q) = r3 → Lib.hasPrefix r3 [41] = false → G [] 0)
    (D2_is : Lib.hasPrefix r2 [124, 39] = false → Lib.hasPrefix r2 [124] = true → ∀ z q o r3, r2.drop 1 = z → (z.takeWhile (notIn badO)).length = q → z.take q = o → r2.drop (1 + q) = r3 → Lib.hasPrefix r3 [41] = true → ∀ v, valV e name key = (v, true) → G v ((s.length : Int) - r3.length + 1))
    (D2_not : Lib.hasPrefix r2 [124, 39] = false → Lib.hasPrefix r2 [124] = true → ∀ z q o r3, r2.drop 1 = z → (z.takeWhile (notIn badO)).length = q → z.take q = o → r2.drop (1 + q) = r3 → Lib.hasPrefix r3 [41] = true → ∀ v, valV e name key = (v, false) → G o ((s.length : Int) - r3.length + 1))
    (D3_no : Lib.hasPrefix r2 [124, 39] = false → Lib.hasPrefix r2 [124] = false → Lib.hasPrefix r2 [41] = false → G [] 0)
    (D3_is : Lib.hasPrefix r2 [124, 39] = false → Lib.hasPrefix r2 [124] = false → Lib.hasPrefix r2 [41] = true → ∀ v, valV e name key = (v, true) → G v ((s.length : Int) - r2.length + 1))
    (D3_not : Lib.hasPrefix r2 [124, 39] = false → Lib.hasPrefix r2 [124] = false → Lib.hasPrefix r2 [41] = true → ∀ v, valV e name key = (v, false) → G [] ((s.length : Int) - r2.length + 1)) :
    G (refV e s).1 ((refV e s).2 : Nat) := by
  have fin : ∀ o r3 : List UInt8, otherP r2 = some (o, r3) → (Lib.hasPrefix r3 [41] = false → G [] 0) → (Lib.hasPrefix r3 [41] = true → ∀ v, valV e name key = (v, true) → G v ((s.length : Int) - r3.length + 1)) →
      (Lib.hasPrefix r3 [41] = true → ∀ v, valV e name key = (v, false) → G o ((s.length : Int) - r3.length + 1)) → G (refV e s).1 ((refV e s).2 : Nat) := by
    intro o r3 ho hno his hnot
    have hl := otherP_len ho
    rw [ho, Option.bind_some] at hP
    simp only at hP
    cases hE : Lib.hasPrefix r3 [41] with
    | false =>
      rw [hE, if_neg (by simp)] at hP
      rw [refV_none hP]
      exact hno hE
    | true =>
      rw [hE, if_pos rfl] at hP
      rw [refV_some hP]
      have hi : ((s.length - r3.length + 1 : Nat) : Int) = (s.length : Int) - r3.length + 1 := by omega
      simp only [hi]
      cases hv : valV e name key with
      | mk v b =>
        cases b with
        | true => exact his hE v hv
        | false => exact hnot hE v hv
  cases h1 : Lib.hasPrefix r2 [124, 39] with
  | true =>
    cases hc : cut1 (r2.drop 2) 39 with
    | mk o x =>
      obtain ⟨r3, b⟩ := x
      cases b with
      | false =>
        have ho : otherP r2 = none := by unfold otherP; rw [h1, if_pos rfl, hc]; rfl
        rw [ho, Option.bind_none] at hP
        rw [refV_none hP]
        exact D1n h1 _ o r3 rfl hc
      | true =>
        have ho : otherP r2 = some (o, r3) := by unfold otherP; rw [h1, if_pos rfl, hc]; rfl
        exact fin o r3 ho (D1_no h1 _ o r3 rfl hc) (D1_is h1 _ o r3 rfl hc) (D1_not h1 _ o r3 rfl hc)
  | false =>
    cases h2 : Lib.hasPrefix r2 [124] with
    | true =>
      have ho : otherP r2 = some ((r2.drop 1).takeWhile (notIn badO), r2.drop (1 + ((r2.drop 1).takeWhile (notIn badO)).length)) := by unfold otherP; rw [h1, if_neg (by simp), h2, if_pos rfl]
      have ht := takeWhile_take (notIn badO) (r2.drop 1)
      exact fin _ _ ho (D2_no h1 h2 _ _ _ _ rfl rfl ht rfl) (D2_is h1 h2 _ _ _ _ rfl rfl ht rfl) (D2_not h1 h2 _ _ _ _ rfl rfl ht rfl)
    | false =>
      have ho : otherP r2 = some ([], r2) := by unfold otherP; rw [h1, if_neg (by simp), h2, if_neg (by simp)]
      exact fin _ _ ho (D3_no h1 h2) (D3_is h1 h2) (D3_not h1 h2)

/-- vars.Ref: the value of the reference that a text begins with, and how long the reference is. -/
theorem varsRef (e : En) (hf : e.few) (s : List UInt8) (hs : s.length ≤ 100000) (w : World) (hM : ML w) :
    Calls Tryd.prog 10 #[e.v, .string (S s)] w fun x w' => x = .returned (.tuple #[.string (S (refV e s).1), .int .i64 ((refV e s).2 : Nat)]) ∧ Below w.heap.size w w' := by
  cases hp0 : Lib.hasPrefix s [36, 40] with
  | false =>
    have h : refP s = none := by unfold refP; rw [hp0]; rfl
    rw [refV_none h]
    exact vr_A e hf s hs w hM hp0
  | true =>
    have hs2 : 2 ≤ s.length := (List.isPrefixOf_iff_prefix.1 hp0).length_le
    obtain ⟨r, hr⟩ : ∃ r, s.drop 2 = r := ⟨_, rfl⟩
    have lr : r.length + 2 = s.length := by rw [← hr, List.length_drop]; omega
    obtain ⟨n, hn⟩ : ∃ n, (r.takeWhile letterB).length = n := ⟨_, rfl⟩
    obtain ⟨name, hname⟩ : ∃ name, r.takeWhile letterB = name := ⟨_, rfl⟩
    by_cases hn0 : n = 0
    · have hne : name = [] := by rw [← hname]; exact List.length_eq_zero_iff.1 (hn.trans hn0)
      have h : refP s = none := by
        unfold refP
        rw [hr, hname, hne]
        simp
      rw [refV_none h]
      exact vr_B e hf s hs w hM r n hp0 hr hn hn0
    · have hnm : r.take n = name := by rw [← hn, ← hname]; exact takeWhile_take _ _
      have hln : name.length = n := by rw [← hname]; exact hn
      have hne : name.isEmpty = false := by
        cases name with
        | nil => simp at hln; omega
        | cons a b => rfl
      obtain ⟨r1, hr1⟩ : ∃ r1, r.drop n = r1 := ⟨_, rfl⟩
      have lr1 : r1.length ≤ r.length := by rw [← hr1, List.length_drop]; omega
      have hP := refP_of (r1 := r1) hp0 hr hname hne (by rw [hln]; exact hr1)
      have hn0' : 0 < n := by omega
      cases hb : Lib.hasPrefix r1 [123] with
      | false =>
        have hk : keyP r1 = some ([], r1) := by unfold keyP; rw [hb, if_neg (by simp)]
        rw [hk, Option.bind_some] at hP
        refine ref_join (fun v N => Calls Tryd.prog 10 #[e.v, .string (S s)] w fun x w' => x = .returned (.tuple #[.string (S v), .int .i64 N]) ∧ Below w.heap.size w w') e s name [] r1 hP (by omega) ?_ ?_ ?_ ?_ ?_ ?_ ?_ ?_ ?_ ?_
        · exact fun hd z o r3 hz hcu => vr_C2_D1n e hf s hs w hM r n hp0 hr hn hn0' name r1 hnm hr1 hb hd z o r3 hz hcu
        · exact fun hd z o r3 hz hcu hE => vr_C2_D1_no e hf s hs w hM r n hp0 hr hn hn0' name r1 hnm hr1 hb hd z o r3 hz hcu hE
        · exact fun hd z o r3 hz hcu hE v hv => vr_C2_D1_is e hf s hs w hM r n hp0 hr hn hn0' name r1 hnm hr1 hb hd z o r3 hz hcu hE v hv
        · exact fun hd z o r3 hz hcu hE v hv => vr_C2_D1_not e hf s hs w hM r n hp0 hr hn hn0' name r1 hnm hr1 hb hd z o r3 hz hcu hE v hv
        · exact fun hd hd2 z q o r3 hz hq ho hr3 hE => vr_C2_D2_no e hf s hs w hM r n hp0 hr hn hn0' name r1 hnm hr1 hb hd hd2 z hz q hq o r3 ho hr3 hE
        · exact fun hd hd2 z q o r3 hz hq ho hr3 hE v hv => vr_C2_D2_is e hf s hs w hM r n hp0 hr hn hn0' name r1 hnm hr1 hb hd hd2 z hz q hq o r3 ho hr3 hE v hv
        · exact fun hd hd2 z q o r3 hz hq ho hr3 hE v hv => vr_C2_D2_not e hf s hs w hM r n hp0 hr hn hn0' name r1 hnm hr1 hb hd hd2 z hz q hq o r3 ho hr3 hE v hv
        · exact fun hd hd2 hE => vr_C2_D3_no e hf s hs w hM r n hp0 hr hn hn0' name r1 hnm hr1 hb hd hd2 hE
        · exact fun hd hd2 hE v hv => vr_C2_D3_is e hf s hs w hM r n hp0 hr hn hn0' name r1 hnm hr1 hb hd hd2 hE v hv
        · exact fun hd hd2 hE v hv => vr_C2_D3_not e hf s hs w hM r n hp0 hr hn hn0' name r1 hnm hr1 hb hd hd2 hE v hv
      | true =>
        have l2 : 1 ≤ r1.length := (List.isPrefixOf_iff_prefix.1 hb).length_le
        obtain ⟨x, hx⟩ : ∃ x, r1.drop 1 = x := ⟨_, rfl⟩
        obtain ⟨m, hm⟩ : ∃ m, (x.takeWhile (notIn badK)).length = m := ⟨_, rfl⟩
        obtain ⟨key, hkey⟩ : ∃ key, x.takeWhile (notIn badK) = key := ⟨_, rfl⟩
        have hkl : key.length = m := by rw [← hkey]; exact hm
        have hk2 : x.take m = key := by rw [← hm, ← hkey]; exact takeWhile_take _ _
        by_cases hm0 : m = 0
        · have hk : keyP r1 = none := by
            unfold keyP
            rw [hb, if_pos rfl, hx, hkey, List.length_eq_zero_iff.1 (hkl.trans hm0)]
            simp
          rw [hk, Option.bind_none] at hP
          rw [refV_none hP]
          exact vr_C1a e hf s hs w hM r n hp0 hr hn hn0' name r1 hnm hr1 hb x hx m hm key hk2 hm0
        · have hm0' : 0 < m := by omega
          have hke : key.isEmpty = false := by
            cases key with
            | nil => simp at hkl; omega
            | cons a b => rfl
          obtain ⟨y, hy⟩ : ∃ y, r1.drop (1 + m) = y := ⟨_, rfl⟩
          cases hc : Lib.hasPrefix y [125] with
          | false =>
            have hk : keyP r1 = none := by
              unfold keyP
              rw [hb, if_pos rfl, hx, hkey, hkl, hy, hc]
              simp
            rw [hk, Option.bind_none] at hP
            rw [refV_none hP]
            exact vr_C1b e hf s hs w hM r n hp0 hr hn hn0' name r1 hnm hr1 hb x hx m hm key hk2 hm0' y hy hc
          | true =>
            obtain ⟨r2, hr2⟩ : ∃ r2, r1.drop (2 + m) = r2 := ⟨_, rfl⟩
            have lr2 : r2.length ≤ r1.length := by rw [← hr2, List.length_drop]; omega
            have hk : keyP r1 = some (key, r2) := by
              unfold keyP
              rw [hb, if_pos rfl, hx, hkey, hkl, hy, hc, hke, hr2]
              rfl
            rw [hk, Option.bind_some] at hP
            refine ref_join (fun v N => Calls Tryd.prog 10 #[e.v, .string (S s)] w fun x w' => x = .returned (.tuple #[.string (S v), .int .i64 N]) ∧ Below w.heap.size w w') e s name key r2 hP (by omega) ?_ ?_ ?_ ?_ ?_ ?_ ?_ ?_ ?_ ?_
            · exact fun hd z o r3 hz hcu => vr_C1_D1n e hf s hs w hM r n hp0 hr hn hn0' name r1 hnm hr1 hb x hx m hm key hk2 hm0' y hy hc r2 hr2 hd z o r3 hz hcu
            · exact fun hd z o r3 hz hcu hE => vr_C1_D1_no e hf s hs w hM r n hp0 hr hn hn0' name r1 hnm hr1 hb x hx m hm key hk2 hm0' y hy hc r2 hr2 hd z o r3 hz hcu hE
            · exact fun hd z o r3 hz hcu hE v hv => vr_C1_D1_is e hf s hs w hM r n hp0 hr hn hn0' name r1 hnm hr1 hb x hx m hm key hk2 hm0' y hy hc r2 hr2 hd z o r3 hz hcu hE v hv
            · exact fun hd z o r3 hz hcu hE v hv => vr_C1_D1_not e hf s hs w hM r n hp0 hr hn hn0' name r1 hnm hr1 hb x hx m hm key hk2 hm0' y hy hc r2 hr2 hd z o r3 hz hcu hE v hv
            · exact fun hd hd2 z q o r3 hz hq ho hr3 hE => vr_C1_D2_no e hf s hs w hM r n hp0 hr hn hn0' name r1 hnm hr1 hb x hx m hm key hk2 hm0' y hy hc r2 hr2 hd hd2 z hz q hq o r3 ho hr3 hE
            · exact fun hd hd2 z q o r3 hz hq ho hr3 hE v hv => vr_C1_D2_is e hf s hs w hM r n hp0 hr hn hn0' name r1 hnm hr1 hb x hx m hm key hk2 hm0' y hy hc r2 hr2 hd hd2 z hz q hq o r3 ho hr3 hE v hv
            · exact fun hd hd2 z q o r3 hz hq ho hr3 hE v hv => vr_C1_D2_not e hf s hs w hM r n hp0 hr hn hn0' name r1 hnm hr1 hb x hx m hm key hk2 hm0' y hy hc r2 hr2 hd hd2 z hz q hq o r3 ho hr3 hE v hv
            · exact fun hd hd2 hE => vr_C1_D3_no e hf s hs w hM r n hp0 hr hn hn0' name r1 hnm hr1 hb x hx m hm key hk2 hm0' y hy hc r2 hr2 hd hd2 hE
            · exact fun hd hd2 hE v hv => vr_C1_D3_is e hf s hs w hM r n hp0 hr hn hn0' name r1 hnm hr1 hb x hx m hm key hk2 hm0' y hy hc r2 hr2 hd hd2 hE v hv
            · exact fun hd hd2 hE v hv => vr_C1_D3_not e hf s hs w hM r n hp0 hr hn hn0' name r1 hnm hr1 hb x hx m hm key hk2 hm0' y hy hc r2 hr2 hd hd2 hE v hv
end Go.Proofs.YtenflcaalckdfaaDoor
