/- The reference that a text begins with: vars.Ref answers refV (the ways of VarsRefA to VarsRefG put together). References written out and read again; a text parted at the places where a reference may begin. No program in sight. -/
import Derived.Test.YtenflcaalckdfaaGreatDoorVv22
import Derived.Test.YtenflcaalckdfaaGreatDoorVv23
import Derived.Test.YtenflcaalckdfaaGreatDoorVv24
import Derived.Test.YtenflcaalckdfaaGreatDoorVv25
import Derived.Test.YtenflcaalckdfaaGreatDoorVv17
import Derived.Lib.IndexLaws
namespace Go.Proofs.YtenflcaalckdfaaGreatDoor
open Go Go.RowKit Go.Sort Go.Shelf
set_option linter.unusedVariables false
set_option linter.unusedSimpArgs false

theorem refV_none {e : En} {s : List UInt8} (h : refP s = none) : refV e s = ([], 0) := by unfold refV; rw [h]
theorem refV_some {e : En} {s name key o r3 : List UInt8} (h : refP s = some (name, key, o, r3)) : refV e s = ((if (valV e name key).2 then (valV e name key).1 else o), s.length - r3.length + 1) := by unfold refV; rw [h]
theorem takeWhile_take (p : UInt8 → Bool) (l : List UInt8) : l.take (l.takeWhile p).length = l.takeWhile p := (List.prefix_iff_eq_take.1 (List.takeWhile_prefix p)).symm
theorem refP_of {s r name r1 : List UInt8} (hp0 : Lib.hasPrefix s [36, 40] = true) (hr : s.drop 2 = r) (hn : r.takeWhile letterB = name) (hne : name.isEmpty = false) (hr1 : r.drop name.length = r1) :
    refP s = (keyP r1).bind fun k => (otherP k.2).bind fun o => if Lib.hasPrefix o.2 [41] then some (name, k.1, o.1, o.2) else none := by
  subst hr hn hr1
  unfold refP
  rw [hp0, hne]
  rfl
theorem ref_join (G : List UInt8 → Int → Prop) (e : En) (s name key r2 : List UInt8) (hP : refP s = (otherP r2).bind fun o => if Lib.hasPrefix o.2 [41] then some (name, key, o.1, o.2) else none)
    (hlen : r2.length ≤ s.length)
    (D1n : Lib.hasPrefix r2 [124, 39] = true → ∀ z o r3, r2.drop 2 = z → cut1 z 39 = (o, r3, false) → G [] 0)
    (D1_no : Lib.hasPrefix r2 [124, 39] = true → ∀ z o r3, r2.drop 2 = z → cut1 z 39 = (o, r3, true) → Lib.hasPrefix r3 [41] = false → G [] 0)
    (D1_is : Lib.hasPrefix r2 [124, 39] = true → ∀ z o r3, r2.drop 2 = z → cut1 z 39 = (o, r3, true) → Lib.hasPrefix r3 [41] = true → ∀ v, valV e name key = (v, true) → G v ((s.length : Int) - r3.length + 1))
    (D1_not : Lib.hasPrefix r2 [124, 39] = true → ∀ z o r3, r2.drop 2 = z → cut1 z 39 = (o, r3, true) → Lib.hasPrefix r3 [41] = true → ∀ v, valV e name key = (v, false) → G o ((s.length : Int) - r3.length + 1))
    (D2_no : Lib.hasPrefix r2 [124, 39] = false → Lib.hasPrefix r2 [124] = true → ∀ z q o r3, r2.drop 1 = z → (z.takeWhile (notIn badO)).length = q → z.take q = o → r2.drop (1 + q) = r3 → Lib.hasPrefix r3 [41] = false → G [] 0)
    (D2_is : Lib.hasPrefix r2 [124, 39] = false → Lib.hasPrefix r2 [124] = true → ∀ z q o r3, r2.drop 1 = z → (z.takeWhile (notIn badO)).length = q → z.take q = o → r2.drop (1 + q) = r3 → Lib.hasPrefix r3 [41] = true → ∀ v, valV e name key = (v, true) → G v ((s.length : Int) - r3.length + 1))
    (D2_not : Lib.hasPrefix r2 [124, 39] = false → Lib.hasPrefix r2 [124] = true → ∀ z q o r3, r2.drop 1 = z → (z.takeWhile (notIn badO)).length = q → z.take q = o → r2.drop (1 + q) = r3 → Lib.hasPrefix r3 [41] = true → ∀ v, valV e name key = (v, false) → G o ((s.length : Int) - r3.length + 1))
    (D3_no : Lib.hasPrefix r2 [124, 39] = false → Lib.hasPrefix r2 [124] = false → Lib.hasPrefix r2 [41] = false → G [] 0)
    (D3_is : Lib.hasPrefix r2 [124, 39] = false → Lib.hasPrefix r2 [124] = false → Lib.hasPrefix r2 [41] = true → ∀ v, valV e name key = (v, true) → G v ((s.length : Int) - r2.length + 1))
    (D3_not : Lib.hasPrefix r2 [124, 39] = false → Lib.hasPrefix r2 [124] = false → Lib.hasPrefix r2 [41] = true → ∀ v, valV e name key = (v, false) → G [] ((s.length : Int) - r2.length + 1)) :
    G (refV e s).1 ((refV e s).2 : Nat) := by
  have fin : ∀ o r3 : List UInt8, otherP r2 = some (o, r3) → (Lib.hasPrefix r3 [41] = false → G [] 0) → (Lib.hasPrefix r3 [41] = true → ∀ v, valV e name key = (v, true) → G v ((s.length : Int) - r3.length + 1)) →
      (Lib.hasPrefix r3 [41] = true → ∀ v, valV e name key = (v, false) → G o ((s.length : Int) - r3.length + 1)) → G (refV e s).1 ((refV e s).2 : Nat) := by
    intro o r3 ho hno his hnot
    have hl := otherP_len ho
    rw [ho, Option.bind_some] at hP
    simp only at hP
    cases hE : Lib.hasPrefix r3 [41] with
    | false =>
      rw [hE, if_neg (by simp)] at hP
      rw [refV_none hP]
      exact hno hE
    | true =>
      rw [hE, if_pos rfl] at hP
      rw [refV_some hP]
      have hi : ((s.length - r3.length + 1 : Nat) : Int) = (s.length : Int) - r3.length + 1 := by omega
      simp only [hi]
      cases hv : valV e name key with
      | mk v b =>
        cases b with
        | true => exact his hE v hv
        | false => exact hnot hE v hv
  cases h1 : Lib.hasPrefix r2 [124, 39] with
  | true =>
    cases hc : cut1 (r2.drop 2) 39 with
    | mk o x =>
      obtain ⟨r3, b⟩ := x
      cases b with
      | false =>
        have ho : otherP r2 = none := by unfold otherP; rw [h1, if_pos rfl, hc]; rfl
        rw [ho, Option.bind_none] at hP
        rw [refV_none hP]
        exact D1n h1 _ o r3 rfl hc
      | true =>
        have ho : otherP r2 = some (o, r3) := by unfold otherP; rw [h1, if_pos rfl, hc]; rfl
        exact fin o r3 ho (D1_no h1 _ o r3 rfl hc) (D1_is h1 _ o r3 rfl hc) (D1_not h1 _ o r3 rfl hc)
  | false =>
    cases h2 : Lib.hasPrefix r2 [124] with
    | true =>
      have ho : otherP r2 = some ((r2.drop 1).takeWhile (notIn badO), r2.drop (1 + ((r2.drop 1).takeWhile (notIn badO)).length)) := by unfold otherP; rw [h1, if_neg (by simp), h2, if_pos rfl]
      have ht := takeWhile_take (notIn badO) (r2.drop 1)
      exact fin _ _ ho (D2_no h1 h2 _ _ _ _ rfl rfl ht rfl) (D2_is h1 h2 _ _ _ _ rfl rfl ht rfl) (D2_not h1 h2 _ _ _ _ rfl rfl ht rfl)
    | false =>
      have ho : otherP r2 = some ([], r2) := by unfold otherP; rw [h1, if_neg (by simp), h2, if_neg (by simp)]
      exact fin _ _ ho (D3_no h1 h2) (D3_is h1 h2) (D3_not h1 h2)

theorem varsRef (e : En) (hf : e.few) (s : List UInt8) (hs : s.length ≤ 100000) (w : World) (hM : ML w) :
    Calls Tryz.prog 8 #[e.v, .string (S s)] w fun x w' => x = .returned (.tuple #[.string (S (refV e s).1), .int .i64 ((refV e s).2 : Nat)]) ∧ Below w.heap.size w w' := by
  cases hp0 : Lib.hasPrefix s [36, 40] with
  | false =>
    have h : refP s = none := by unfold refP; rw [hp0]; rfl
    rw [refV_none h]
    exact vr_A e hf s hs w hM hp0
  | true =>
    have hs2 : 2 ≤ s.length := (List.isPrefixOf_iff_prefix.1 hp0).length_le
    obtain ⟨r, hr⟩ : ∃ r, s.drop 2 = r := ⟨_, rfl⟩
    have lr : r.length + 2 = s.length := by rw [← hr, List.length_drop]; omega
    obtain ⟨n, hn⟩ : ∃ n, (r.takeWhile letterB).length = n := ⟨_, rfl⟩
    obtain ⟨name, hname⟩ : ∃ name, r.takeWhile letterB = name := ⟨_, rfl⟩
    by_cases hn0 : n = 0
    · have hne : name = [] := by rw [← hname]; exact List.length_eq_zero_iff.1 (hn.trans hn0)
      have h : refP s = none := by
        unfold refP
        rw [hr, hname, hne]
        simp
      rw [refV_none h]
      exact vr_B e hf s hs w hM r n hp0 hr hn hn0
    · have hnm : r.take n = name := by rw [← hn, ← hname]; exact takeWhile_take _ _
      have hln : name.length = n := by rw [← hname]; exact hn
      have hne : name.isEmpty = false := by
        cases name with
        | nil => simp at hln; omega
        | cons a b => rfl
      obtain ⟨r1, hr1⟩ : ∃ r1, r.drop n = r1 := ⟨_, rfl⟩
      have lr1 : r1.length ≤ r.length := by rw [← hr1, List.length_drop]; omega
      have hP := refP_of (r1 := r1) hp0 hr hname hne (by rw [hln]; exact hr1)
      have hn0' : 0 < n := by omega
      cases hb : Lib.hasPrefix r1 [123] with
      | false =>
        have hk : keyP r1 = some ([], r1) := by unfold keyP; rw [hb, if_neg (by simp)]
        rw [hk, Option.bind_some] at hP
        refine ref_join (fun v N => Calls Tryz.prog 8 #[e.v, .string (S s)] w fun x w' => x = .returned (.tuple #[.string (S v), .int .i64 N]) ∧ Below w.heap.size w w') e s name [] r1 hP (by omega) ?_ ?_ ?_ ?_ ?_ ?_ ?_ ?_ ?_ ?_
        · exact fun hd z o r3 hz hcu => vr_C2_D1n e hf s hs w hM r n hp0 hr hn hn0' name r1 hnm hr1 hb hd z o r3 hz hcu
        · exact fun hd z o r3 hz hcu hE => vr_C2_D1_no e hf s hs w hM r n hp0 hr hn hn0' name r1 hnm hr1 hb hd z o r3 hz hcu hE
        · exact fun hd z o r3 hz hcu hE v hv => vr_C2_D1_is e hf s hs w hM r n hp0 hr hn hn0' name r1 hnm hr1 hb hd z o r3 hz hcu hE v hv
        · exact fun hd z o r3 hz hcu hE v hv => vr_C2_D1_not e hf s hs w hM r n hp0 hr hn hn0' name r1 hnm hr1 hb hd z o r3 hz hcu hE v hv
        · exact fun hd hd2 z q o r3 hz hq ho hr3 hE => vr_C2_D2_no e hf s hs w hM r n hp0 hr hn hn0' name r1 hnm hr1 hb hd hd2 z hz q hq o r3 ho hr3 hE
        · exact fun hd hd2 z q o r3 hz hq ho hr3 hE v hv => vr_C2_D2_is e hf s hs w hM r n hp0 hr hn hn0' name r1 hnm hr1 hb hd hd2 z hz q hq o r3 ho hr3 hE v hv
        · exact fun hd hd2 z q o r3 hz hq ho hr3 hE v hv => vr_C2_D2_not e hf s hs w hM r n hp0 hr hn hn0' name r1 hnm hr1 hb hd hd2 z hz q hq o r3 ho hr3 hE v hv
        · exact fun hd hd2 hE => vr_C2_D3_no e hf s hs w hM r n hp0 hr hn hn0' name r1 hnm hr1 hb hd hd2 hE
        · exact fun hd hd2 hE v hv => vr_C2_D3_is e hf s hs w hM r n hp0 hr hn hn0' name r1 hnm hr1 hb hd hd2 hE v hv
        · exact fun hd hd2 hE v hv => vr_C2_D3_not e hf s hs w hM r n hp0 hr hn hn0' name r1 hnm hr1 hb hd hd2 hE v hv
      | true =>
        have l2 : 1 ≤ r1.length := (List.isPrefixOf_iff_prefix.1 hb).length_le
        obtain ⟨x, hx⟩ : ∃ x, r1.drop 1 = x := ⟨_, rfl⟩
        obtain ⟨m, hm⟩ : ∃ m, (x.takeWhile (notIn badK)).length = m := ⟨_, rfl⟩
        obtain ⟨key, hkey⟩ : ∃ key, x.takeWhile (notIn badK) = key := ⟨_, rfl⟩
        have hkl : key.length = m := by rw [← hkey]; exact hm
        have hk2 : x.take m = key := by rw [← hm, ← hkey]; exact takeWhile_take _ _
        by_cases hm0 : m = 0
        · have hk : keyP r1 = none := by
            unfold keyP
            rw [hb, if_pos rfl, hx, hkey, List.length_eq_zero_iff.1 (hkl.trans hm0)]
            simp
          rw [hk, Option.bind_none] at hP
          rw [refV_none hP]
          exact vr_C1a e hf s hs w hM r n hp0 hr hn hn0' name r1 hnm hr1 hb x hx m hm key hk2 hm0
        · have hm0' : 0 < m := by omega
          have hke : key.isEmpty = false := by
            cases key with
            | nil => simp at hkl; omega
            | cons a b => rfl
          obtain ⟨y, hy⟩ : ∃ y, r1.drop (1 + m) = y := ⟨_, rfl⟩
          cases hc : Lib.hasPrefix y [125] with
          | false =>
            have hk : keyP r1 = none := by
              unfold keyP
              rw [hb, if_pos rfl, hx, hkey, hkl, hy, hc]
              simp
            rw [hk, Option.bind_none] at hP
            rw [refV_none hP]
            exact vr_C1b e hf s hs w hM r n hp0 hr hn hn0' name r1 hnm hr1 hb x hx m hm key hk2 hm0' y hy hc
          | true =>
            obtain ⟨r2, hr2⟩ : ∃ r2, r1.drop (2 + m) = r2 := ⟨_, rfl⟩
            have lr2 : r2.length ≤ r1.length := by rw [← hr2, List.length_drop]; omega
            have hk : keyP r1 = some (key, r2) := by
              unfold keyP
              rw [hb, if_pos rfl, hx, hkey, hkl, hy, hc, hke, hr2]
              rfl
            rw [hk, Option.bind_some] at hP
            refine ref_join (fun v N => Calls Tryz.prog 8 #[e.v, .string (S s)] w fun x w' => x = .returned (.tuple #[.string (S v), .int .i64 N]) ∧ Below w.heap.size w w') e s name key r2 hP (by omega) ?_ ?_ ?_ ?_ ?_ ?_ ?_ ?_ ?_ ?_
            · exact fun hd z o r3 hz hcu => vr_C1_D1n e hf s hs w hM r n hp0 hr hn hn0' name r1 hnm hr1 hb x hx m hm key hk2 hm0' y hy hc r2 hr2 hd z o r3 hz hcu
            · exact fun hd z o r3 hz hcu hE => vr_C1_D1_no e hf s hs w hM r n hp0 hr hn hn0' name r1 hnm hr1 hb x hx m hm key hk2 hm0' y hy hc r2 hr2 hd z o r3 hz hcu hE
            · exact fun hd z o r3 hz hcu hE v hv => vr_C1_D1_is e hf s hs w hM r n hp0 hr hn hn0' name r1 hnm hr1 hb x hx m hm key hk2 hm0' y hy hc r2 hr2 hd z o r3 hz hcu hE v hv
            · exact fun hd z o r3 hz hcu hE v hv => vr_C1_D1_not e hf s hs w hM r n hp0 hr hn hn0' name r1 hnm hr1 hb x hx m hm key hk2 hm0' y hy hc r2 hr2 hd z o r3 hz hcu hE v hv
            · exact fun hd hd2 z q o r3 hz hq ho hr3 hE => vr_C1_D2_no e hf s hs w hM r n hp0 hr hn hn0' name r1 hnm hr1 hb x hx m hm key hk2 hm0' y hy hc r2 hr2 hd hd2 z hz q hq o r3 ho hr3 hE
            · exact fun hd hd2 z q o r3 hz hq ho hr3 hE v hv => vr_C1_D2_is e hf s hs w hM r n hp0 hr hn hn0' name r1 hnm hr1 hb x hx m hm key hk2 hm0' y hy hc r2 hr2 hd hd2 z hz q hq o r3 ho hr3 hE v hv
            · exact fun hd hd2 z q o r3 hz hq ho hr3 hE v hv => vr_C1_D2_not e hf s hs w hM r n hp0 hr hn hn0' name r1 hnm hr1 hb x hx m hm key hk2 hm0' y hy hc r2 hr2 hd hd2 z hz q hq o r3 ho hr3 hE v hv
            · exact fun hd hd2 hE => vr_C1_D3_no e hf s hs w hM r n hp0 hr hn hn0' name r1 hnm hr1 hb x hx m hm key hk2 hm0' y hy hc r2 hr2 hd hd2 hE
            · exact fun hd hd2 hE v hv => vr_C1_D3_is e hf s hs w hM r n hp0 hr hn hn0' name r1 hnm hr1 hb x hx m hm key hk2 hm0' y hy hc r2 hr2 hd hd2 hE v hv
            · exact fun hd hd2 hE v hv => vr_C1_D3_not e hf s hs w hM r n hp0 hr hn hn0' name r1 hnm hr1 hb x hx m hm key hk2 hm0' y hy hc r2 hr2 hd hd2 hE v hv
end Go.Proofs.YtenflcaalckdfaaGreatDoor
namespace Go.Proofs.YtenflcaalckdfaaGreatDoor
open Go.RowKit Go.Sort Go.Shelf
set_option linter.unusedVariables false

theorem idx_before {sub : List UInt8} (hsub : sub ≠ []) : ∀ (t : List UInt8) (i : Nat), (Lib.index t sub = -1 ∨ (i : Int) < Lib.index t sub) → Lib.hasPrefix (t.drop i) sub = false
  | [], i, _ => by
    rw [List.drop_nil]
    cases sub with
    | nil => exact absurd rfl hsub
    | cons a b => rfl
  | b :: l, i, h => by
    unfold Lib.index at h
    split at h
    · rcases h with h | h <;> omega
    · rename_i hp
      cases i with
      | zero => rw [List.drop_zero]; unfold Lib.hasPrefix; exact Bool.eq_false_iff.2 hp
      | succ i =>
        rw [List.drop_succ_cons]
        refine idx_before hsub l i ?_
        split at h
        · rename_i he; exact .inl (by simpa using he)
        · rename_i he
          have := Lib.index_ge l sub
          have he' : Lib.index l sub ≠ -1 := by simpa using he
          exact .inr (by rcases h with h | h <;> omega)
theorem idx_len (sub : List UInt8) : ∀ (t : List UInt8), Lib.index t sub ≤ t.length
  | [] => by unfold Lib.index; split <;> simp
  | b :: l => by
    have := idx_len sub l
    unfold Lib.index
    split
    · simp; omega
    · split <;> (simp only [List.length_cons]; omega)
theorem idx_at {sub : List UInt8} (hsub : sub ≠ []) : ∀ (t : List UInt8) (i : Nat), Lib.index t sub = i → Lib.hasPrefix (t.drop i) sub = true
  | [], i, h => by
    unfold Lib.index at h
    split at h
    · rename_i he
      cases sub with
      | nil => exact absurd rfl hsub
      | cons a b => cases he
    · omega
  | b :: l, i, h => by
    unfold Lib.index at h
    split at h
    · rename_i hp
      obtain rfl : i = 0 := by omega
      exact hp
    · split at h
      · omega
      · have := Lib.index_ge l sub
        obtain ⟨j, rfl⟩ : ∃ j, i = j + 1 := ⟨i - 1, by
          rename_i he
          have he' : Lib.index l sub ≠ -1 := by simpa using he
          omega⟩
        rw [List.drop_succ_cons]
        exact idx_at hsub l j (by omega)
theorem subV_plain (e : En) (t : List UInt8) (h : Lib.index t [36, 40] < 0) : subV e t = t := by
  have hg := Lib.index_ge t [36, 40]
  have := subV_skip e t [] (fun i hi => by rw [List.append_nil]; exact idx_before (by simp) t i (.inl (by omega)))
  rw [List.append_nil, subV_nil, List.append_nil] at this
  exact this
theorem subV_head (e : En) (t : List UInt8) (k : Nat) (h : Lib.index t [36, 40] = k) : subV e t = t.take k ++ subV e (t.drop k) := by
  have hl := idx_len [36, 40] t
  have := subV_skip e (t.take k) (t.drop k) (fun i hi => by
    rw [List.take_append_drop]
    rw [List.length_take] at hi
    exact idx_before (by simp) t i (.inr (by omega)))
  rw [List.take_append_drop] at this
  exact this
theorem subV_no (e : En) (t : List UInt8) (h : (36 : UInt8) ∉ t) : subV e t = t := by
  have := subV_skip e t [] (fun i hi => by
    rw [List.append_nil]
    cases ht : t.drop i with
    | nil => rfl
    | cons c r =>
      have hc : c ∈ t := List.mem_of_mem_drop (i := i) (by rw [ht]; simp)
      unfold Lib.hasPrefix
      have : (36 : UInt8) ≠ c := fun e => h (e ▸ hc)
      simp [List.isPrefixOf, this])
  rw [List.append_nil, subV_nil, List.append_nil] at this
  exact this
theorem subV_pre (e : En) (a t : List UInt8) (h : (36 : UInt8) ∉ a) : subV e (a ++ t) = a ++ subV e t := by
  refine subV_skip e a t fun i hi => ?_
  rw [List.drop_append_of_le_length (by omega)]
  cases ht : a.drop i with
  | nil => have := congrArg List.length ht; simp only [List.length_drop, List.length_nil] at this; omega
  | cons c r =>
    have hc : c ∈ a := List.mem_of_mem_drop (i := i) (by rw [ht]; simp)
    unfold Lib.hasPrefix
    have : (36 : UInt8) ≠ c := fun e => h (e ▸ hc)
    simp [List.isPrefixOf, this]
theorem while_app {p : UInt8 → Bool} : ∀ {a : List UInt8} {c : UInt8} {t : List UInt8}, (∀ x ∈ a, p x = true) → p c = false → (a ++ c :: t).takeWhile p = a
  | [], c, t, _, hc => by rw [List.nil_append, List.takeWhile_cons_of_neg (by simp [hc])]
  | x :: a, c, t, h, hc => by
    rw [List.cons_append, List.takeWhile_cons_of_pos (h x (by simp)), while_app (fun y hy => h y (by simp [hy])) hc]
theorem keyP_key {k X : List UInt8} (hk : k ≠ []) (h : ∀ x ∈ k, notIn badK x = true) : keyP (123 :: (k ++ 125 :: X)) = some (k, X) := by
  have h1 : ((123 :: (k ++ 125 :: X)).drop 1).takeWhile (notIn badK) = k := while_app h (by decide)
  have h2 : (123 :: (k ++ 125 :: X)).drop (1 + k.length) = 125 :: X := by rw [Nat.add_comm, List.drop_succ_cons, List.drop_left]
  have h3 : (123 :: (k ++ 125 :: X)).drop (2 + k.length) = X := by
    rw [show 2 + k.length = (1 + k.length) + 1 by omega, ← List.drop_drop, h2]; rfl
  have h0 : k.isEmpty = false := by cases k with | nil => exact absurd rfl hk | cons a b => rfl
  unfold keyP
  rw [h1, h2, h3, h0]
  rfl
theorem keyP_no {c : UInt8} {X : List UInt8} (hc : c ≠ 123) : keyP (c :: X) = some ([], c :: X) := by
  have : Lib.hasPrefix (c :: X) [123] = false := by unfold Lib.hasPrefix; simp [List.isPrefixOf, Ne.symm hc]
  unfold keyP
  rw [this, if_neg (by simp)]
theorem cut39 {a r : List UInt8} (h : (39 : UInt8) ∉ a) : cut1 (a ++ 39 :: r) 39 = (a, r, true) := by
  have hi : Lib.indexByte (a ++ 39 :: r) 39 = a.length := index_at a r 39 h
  unfold cut1
  rw [hi, if_pos (by omega), Int.toNat_natCast, List.take_left, show a.length + 1 = 1 + a.length by omega, show a ++ 39 :: r = a ++ [39] ++ r by simp, show 1 + a.length = (a ++ [39]).length by simp; omega, List.drop_left]
theorem otherP_quo {o X : List UInt8} (h : (39 : UInt8) ∉ o) : otherP (124 :: 39 :: (o ++ 39 :: X)) = some (o, X) := by
  have h1 : cut1 ((124 :: 39 :: (o ++ 39 :: X)).drop 2) 39 = (o, X, true) := cut39 h
  unfold otherP
  rw [h1]
  rfl
theorem otherP_bare {o X : List UInt8} (h : ∀ x ∈ o, notIn badO x = true) : otherP (124 :: (o ++ 41 :: X)) = some (o, 41 :: X) := by
  have h1 : ((124 :: (o ++ 41 :: X)).drop 1).takeWhile (notIn badO) = o := while_app h (by decide)
  have h2 : (124 :: (o ++ 41 :: X)).drop (1 + o.length) = 41 :: X := by rw [Nat.add_comm, List.drop_succ_cons, List.drop_left]
  have h3 : Lib.hasPrefix (124 :: (o ++ 41 :: X)) [124, 39] = false := by
    cases o with
    | nil => rfl
    | cons a b =>
      have ha := h a (by simp)
      have : a ≠ 39 := fun e => by rw [e] at ha; exact absurd ha (by decide)
      unfold Lib.hasPrefix
      simp [List.isPrefixOf, Ne.symm this]
  unfold otherP
  rw [h1, h2, h3]
  rfl
theorem otherP_no (X : List UInt8) : otherP (41 :: X) = some ([], 41 :: X) := rfl
def keyT (k : List UInt8) : List UInt8 := if k.isEmpty then [] else 123 :: (k ++ [125])
theorem refP_text {name k o O X : List UInt8} (hn : name ≠ []) (hl : ∀ x ∈ name, letterB x = true) (hk : ∀ x ∈ k, notIn badK x = true)
    (hO : otherP (O ++ 41 :: X) = some (o, 41 :: X)) (hO2 : ∀ c ∈ (O ++ [41]).head?, letterB c = false ∧ c ≠ 123) :
    refP (36 :: 40 :: (name ++ (keyT k ++ (O ++ 41 :: X)))) = some (name, k, o, 41 :: X) := by
  obtain ⟨c, T, hcT⟩ : ∃ c T, O ++ 41 :: X = c :: T := by
    cases O with
    | nil => exact ⟨_, _, rfl⟩
    | cons a b => exact ⟨_, _, rfl⟩
  have hc : letterB c = false ∧ c ≠ 123 := hO2 c (by
    cases O with
    | nil => simp at hcT ⊢; exact hcT.1
    | cons a b => simp at hcT ⊢; exact hcT.1)
  obtain ⟨d, D, hdD, hd⟩ : ∃ d D, keyT k ++ (O ++ 41 :: X) = d :: D ∧ letterB d = false := by
    unfold keyT
    split
    · exact ⟨c, T, hcT, hc.1⟩
    · exact ⟨123, _, rfl, by decide⟩
  have hw : ((36 :: 40 :: (name ++ (keyT k ++ (O ++ 41 :: X)))).drop 2).takeWhile letterB = name := by
    show (name ++ (keyT k ++ (O ++ 41 :: X))).takeWhile letterB = name
    rw [hdD]; exact while_app hl hd
  have hK : keyP (keyT k ++ (O ++ 41 :: X)) = some (k, O ++ 41 :: X) := by
    unfold keyT
    cases hke : k with
    | nil =>
      show keyP (O ++ 41 :: X) = some ([], O ++ 41 :: X)
      rw [hcT]; exact keyP_no hc.2
    | cons a b =>
      have := keyP_key (k := k) (X := O ++ 41 :: X) (by rw [hke]; simp) hk
      rw [hke] at this
      simpa using this
  have hne : name.isEmpty = false := by cases name with | nil => exact absurd rfl hn | cons a b => rfl
  have hd2 : ((36 :: 40 :: (name ++ (keyT k ++ (O ++ 41 :: X)))).drop 2).drop name.length = keyT k ++ (O ++ 41 :: X) := by
    show (name ++ _).drop name.length = _
    exact List.drop_left
  unfold refP
  rw [hw, hne, hd2, hK, Option.bind_some]
  simp only [hO, Option.bind_some]
  rfl
theorem refV_text {e : En} {s name k o X pre : List UInt8} (h : refP s = some (name, k, o, 41 :: X)) (hs : s = pre ++ 41 :: X) : refV e s = ((if (valV e name k).2 then (valV e name k).1 else o), pre.length + 1) := by
  unfold refV
  rw [h, hs]
  simp
theorem subV_text {e : En} {s name k o X pre : List UInt8} (h : refP s = some (name, k, o, 41 :: X)) (hs : s = pre ++ 41 :: X) : subV e s = (if (valV e name k).2 then (valV e name k).1 else o) ++ subV e X := by
  have hr := refV_text (e := e) h hs
  rw [subV_ref e s (by rw [hr]; simp), hr]
  congr 1
  congr 1
  rw [hs, show pre ++ 41 :: X = (pre ++ [41]) ++ X by simp]
  exact List.drop_left' (by simp)
def stepV (e : En) (u : List UInt8) : List UInt8 × Nat := if (refV e u).2 = 0 then (u.take 1, 1) else refV e u
theorem stepV_sub (e : En) {u : List UInt8} (hu : 0 < u.length) : subV e u = (stepV e u).1 ++ subV e (u.drop (stepV e u).2) := by
  unfold stepV
  split
  · rename_i h
    cases u with
    | nil => simp at hu
    | cons c t => exact subV_one e c t h
  · rename_i h
    exact subV_ref e u h
theorem stepV_len (e : En) {u : List UInt8} (hu : 0 < u.length) : 0 < (stepV e u).2 ∧ (stepV e u).2 ≤ u.length := by
  have := (refV_len e u).1
  unfold stepV
  split
  · exact ⟨Nat.zero_lt_one, hu⟩
  · exact ⟨by omega, this⟩
theorem stepV_big {e : En} (h : e.few) {u : List UInt8} (hu : 0 < u.length) : (stepV e u).1.length ≤ 75 * (stepV e u).2 := by
  have := refV_big h u
  unfold stepV
  split
  · simp only [List.length_take]; omega
  · exact this
end Go.Proofs.YtenflcaalckdfaaGreatDoor
