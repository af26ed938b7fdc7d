/- The document's Set: the walk. -/
import Derived.Test.YtcfihoniocamaaaGreatDoorPk20
import Derived.Test.YtcfihoniocamaaaGreatDoorPk25
import Derived.Test.YtcfihoniocamaaaGreatDoorPk27
namespace Go.Proofs.YtcfihoniocamaaaGreatDoor
open Go.RowKit Go.Sort Go.Shelf
set_option linter.unusedVariables false

/-- What stands in the new row behind the first i. -/
def SetSt (L : List Fld) (f : Fld) (i : Nat) (d : Bool) (out : List Fld) : Prop :=
  (d = false ∧ None' (L.take i) f.1 ∧ out = L.take i) ∨ (d = true ∧ ∃ k, L.findIdx? (fun g => sameN g.1 f.1) = some k ∧ k ≤ (removeL (L.take i) f.1).length ∧ out = (removeL (L.take i) f.1).take k ++ f :: (removeL (L.take i) f.1).drop k)
theorem removeL_next {L : List Fld} {i : Nat} (h : i < L.length) (m : List UInt8) : removeL (L.take (i + 1)) m = removeL (L.take i) m ++ (if sameN L[i].1 m = true then [] else [L[i]]) := by
  unfold removeL
  rw [List.take_succ_eq_append_getElem h, List.filter_append]
  cases hp : sameN L[i].1 m <;> simp [hp]
theorem set_other {L : List Fld} {f : Fld} {i : Nat} {d : Bool} {out : List Fld} (hi : i < L.length) (h : SetSt L f i d out) (hs : sameN L[i].1 f.1 = false) : SetSt L f (i + 1) d (out ++ [L[i]]) := by
  have hr := removeL_next hi f.1
  rw [hs, if_neg (by simp)] at hr
  rcases h with ⟨rfl, h1, rfl⟩ | ⟨rfl, k, h1, h2, rfl⟩
  · refine .inl ⟨rfl, ?_, by rw [List.take_succ_eq_append_getElem hi]⟩
    intro g hg
    rw [List.take_succ_eq_append_getElem hi] at hg
    rcases List.mem_append.1 hg with hg | hg
    · exact h1 g hg
    · simp at hg; subst hg; exact hs
  · refine .inr ⟨rfl, k, h1, by rw [hr]; simp; omega, ?_⟩
    rw [hr, List.take_append_of_le_length h2, List.drop_append_of_le_length h2]
    simp
theorem set_first {L : List Fld} {f : Fld} {i : Nat} {out : List Fld} (hi : i < L.length) (h : SetSt L f i false out) (hs : sameN L[i].1 f.1 = true) : SetSt L f (i + 1) true (out ++ [f]) := by
  have hr := removeL_next hi f.1
  rw [hs, if_pos rfl, List.append_nil] at hr
  rcases h with ⟨_, h1, rfl⟩ | ⟨h0, _⟩
  · have hrl : removeL (L.take i) f.1 = L.take i := remove_none h1
    have hl : (L.take i).length = i := by simp; omega
    refine .inr ⟨rfl, i, ?_, by rw [hr, hrl, hl]; exact Nat.le_refl _, ?_⟩
    · rw [List.findIdx?_eq_some_iff_getElem]
      refine ⟨hi, hs, fun j hj => ?_⟩
      have : L[j] ∈ L.take i := List.mem_take_iff_getElem.2 ⟨j, by omega, rfl⟩
      simp [h1 _ this]
    · rw [hr, hrl]
      obtain ⟨P, hP⟩ : ∃ P, L.take i = P := ⟨_, rfl⟩
      rw [hP] at hl ⊢
      rw [List.take_of_length_le (by omega), List.drop_of_length_le (by omega)]
  · cases h0
theorem set_again {L : List Fld} {f : Fld} {i : Nat} {out : List Fld} (hi : i < L.length) (h : SetSt L f i true out) (hs : sameN L[i].1 f.1 = true) : SetSt L f (i + 1) true out := by
  have hr := removeL_next hi f.1
  rw [hs, if_pos rfl, List.append_nil] at hr
  rcases h with ⟨h0, _⟩ | ⟨_, k, h1, h2, rfl⟩
  · cases h0
  · exact .inr ⟨rfl, k, h1, by rw [hr]; exact h2, by rw [hr]⟩
theorem set_len {L : List Fld} {f : Fld} {i : Nat} {d : Bool} {out : List Fld} (h : SetSt L f i d out) : out.length ≤ i + 1 := by
  rcases h with ⟨_, _, rfl⟩ | ⟨_, k, _, h2, rfl⟩
  · simp; omega
  · have : (removeL (L.take i) f.1).length ≤ (L.take i).length := List.length_filter_le _ _
    simp at this ⊢
    omega
theorem set_end {L : List Fld} {f : Fld} {d : Bool} {out : List Fld} (h : SetSt L f L.length d out) : (if d = true then out else out ++ [f]) = (removeL L f.1).take (setAt L f.1) ++ f :: (removeL L f.1).drop (setAt L f.1) := by
  unfold SetSt at h
  rw [List.take_length] at h
  rcases h with ⟨rfl, h1, ho⟩ | ⟨rfl, k, h1, h2, rfl⟩
  · have hf : L.findIdx? (fun g => sameN g.1 f.1) = none := List.findIdx?_eq_none_iff.2 fun g hg => h1 g hg
    unfold setAt
    rw [hf, remove_none h1, ho]
    simp
  · unfold setAt
    rw [h1]
    simp

set_option maxHeartbeats 6400000 in
set_option maxRecDepth 100000 in
theorem refSet (v : Value) (L : List Fld) (n x : List UInt8) (w : World) (hr : ReadsF w v L) (hs : ∀ f ∈ L, Small f) (hf : Small (n, x)) (hlen : L.length ≤ 100) :
    Calls Tryz.prog 39 #[v, fv (n, x)] w fun e w' => ∃ v', e = .returned (.tuple #[v', .int .i64 (setE L (n, x))]) ∧ ReadsF w' v' (setL L (n, x)) ∧ Below w.heap.size w w' := by
  have C1 := Lib.hid (fun W (hb : Below w.heap.size w W) => refRemove v L n hf.1 W (hr.below hb) hs (by omega))
  have C2 := Lib.hid (fun W (hb : Below w.heap.size w W) => refRight v L W (hr.below hb) hs)
  have C3 := Lib.hid (fun W => refMay n x hf.1 hf.2 W)
  have HRR := Lib.hid hr
  have HE := Lib.hid (show setE L (n, x) = if rightL L = true then addE (removeL L n) (n, x) else 1 from rfl)
  have HL := Lib.hid (show setL L (n, x) = if setE L (n, x) = 0 then (removeL L n).take (setAt L n) ++ (n, x) :: (removeL L n).drop (setAt L n) else [] from rfl)
  have hAE : rightL L = true → addE (removeL L n) (n, x) = if mayL (n, x) = true then (if (removeL L n).length < 40 then 0 else 4) else 1 := fun h => by
    unfold addE; rw [right_remove n h]; simp
  have hR40 : rightL L = true → (removeL L n).length ≤ 40 := fun h => by
    have := right_remove n h
    unfold rightL at this; simp at this; exact this.1
  obtain ⟨ao, cap, rfl, hc1, hc2, _, hcell⟩ := hr
  have hm : maxLen = 9223372036854775807 := rfl
  rw [hm] at hc2
  have HC := Lib.hid hcell
  have HS := Lib.hid hs
  have HN := Lib.hid (fun (g : Fld) (hg : Small g) W => refSameN g.1 n hg.1 hf.1 W)
  unfold fv at C3 ⊢
  simp only at C3 ⊢
  obtain ⟨a, ha⟩ : ∃ a, rightL L = a := ⟨_, rfl⟩
  obtain ⟨b, hb⟩ : ∃ b, mayL (n, x) = b := ⟨_, rfl⟩
  rw [ha] at C2 HE hAE hR40
  rw [hb] at C3 hAE
  clear hm hs hf ha hb hcell
  go_enter Tryz.func39, Tryz.ntmps39
  go_wp2_with fail
  refine Calls.mono (C1.out _ ?_) ?_
  · (repeat (first | (with_reducible exact Below.refl _ _) | (with_reducible assumption) | (with_reducible refine Below.drew ?_) | (focus ((with_reducible refine Below.setCell ?_ ?_ _); rotate_left; (first | omega | (simp <;> omega)))) | (focus ((with_reducible refine Below.alloc ?_ ?_ _); rotate_left; (first | omega | (simp <;> omega)))) | exact Below.refl _ _ | assumption | refine Below.drew ?_ | refine Below.alloc ?_ (by first | omega | (simp <;> omega)) _ | refine Below.setCell ?_ (by first | omega | (simp <;> omega)) _))
  rintro e w1 ⟨lv, rfl, ho1, hb1⟩
  obtain ⟨hcc, hff⟩ := bk hb1 w.heap.size (by simp)
  have hcc0 := hcc 0
  have hcc1 := hcc 1
  simp [go_sem] at hcc0 hcc1
  have hz1 := hb1.size
  simp at hz1
  have hB1 := Below.trans (show Below w.heap.size w _ by (repeat (first | (with_reducible exact Below.refl _ _) | (with_reducible assumption) | (with_reducible refine Below.drew ?_) | (focus ((with_reducible refine Below.setCell ?_ ?_ _); rotate_left; (first | omega | (simp <;> omega)))) | (focus ((with_reducible refine Below.alloc ?_ ?_ _); rotate_left; (first | omega | (simp <;> omega)))) | exact Below.refl _ _ | assumption | refine Below.drew ?_ | refine Below.alloc ?_ (by first | omega | (simp <;> omega)) _ | refine Below.setCell ?_ (by first | omega | (simp <;> omega)) _))) (hb1.mono (by simp))
  obtain ⟨bo, bcap, rfl, k1, k2, _, _⟩ := ho1.reads
  clear hcc hff ho1 hb1
  cases a with
  | false =>
    have e1 : setE L (n, x) = 1 := by rw [HE.out]; rfl
    have e2 : setL L (n, x) = [] := by rw [HL.out, e1]; rfl
    have E1 := Lib.hid e1
    have E2 := Lib.hid e2
    clear e1 e2 hAE hR40
    go_wp2_with (go_at_call 11; refine Calls.mono (C2.out _ hB1) ?_; rintro e w2 ⟨rfl, hb2⟩; have hB2 := hB1.trans (hb2.mono hB1.size))
    go_ret2
    exact ⟨_, by rw [E1.out]; rfl, by rw [E2.out]; exact ReadsF.nil _, hB2⟩
  | true =>
    have hae := hAE rfl
    have hr40 := hR40 rfl
    clear hAE hR40
    cases b with
    | false =>
      have e1 : setE L (n, x) = 1 := by rw [HE.out, if_pos rfl, hae]; rfl
      have e2 : setL L (n, x) = [] := by rw [HL.out, e1]; rfl
      have E1 := Lib.hid e1
      have E2 := Lib.hid e2
      clear e1 e2 hae
      go_wp2_with (first
        | (go_at_call 11; refine Calls.mono (C2.out _ hB1) ?_; rintro e w2 ⟨rfl, hb2⟩; have hB2 := hB1.trans (hb2.mono hB1.size); have hcd0 := (hb2.cell (p := ⟨w.heap.size, 0, none⟩) (show w.heap.size < _ by omega)).trans hcc0; have hcd1 := (hb2.cell (p := ⟨w.heap.size, 1, none⟩) (show w.heap.size < _ by omega)).trans hcc1)
        | (go_at_call 31; refine (C3.out _).mono ?_; rintro e w3 ⟨rfl, hb3⟩; have hB3 := hB2.trans (hb3.mono hB2.size)))
      go_ret2
      exact ⟨_, by rw [E1.out]; rfl, by rw [E2.out]; exact ReadsF.nil _, hB3⟩
    | true =>
      by_cases hl : (removeL L n).length < 40
      · have e1 : setE L (n, x) = 0 := by rw [HE.out, if_pos rfl, hae]; simp [hl]
        have e2 : setL L (n, x) = (removeL L n).take (setAt L n) ++ (n, x) :: (removeL L n).drop (setAt L n) := by rw [HL.out, if_pos e1]
        have E1 := Lib.hid e1
        have E2 := Lib.hid e2
        have hne : (((removeL L n).length : Int) == 40) = false := by simp; omega
        clear e1 e2 hae
        go_wp2_with (first
          | (go_at_call 11; refine Calls.mono (C2.out _ hB1) ?_; rintro e w2 ⟨rfl, hb2⟩; have hB2 := hB1.trans (hb2.mono hB1.size); have hcd0 := (hb2.cell (p := ⟨w.heap.size, 0, none⟩) (show w.heap.size < _ by omega)).trans hcc0; have hcd1 := (hb2.cell (p := ⟨w.heap.size, 1, none⟩) (show w.heap.size < _ by omega)).trans hcc1; have hz2 := hb2.size)
          | (go_at_call 31; refine (C3.out _).mono ?_; rintro e w3 ⟨rfl, hb3⟩; have hB3 := hB2.trans (hb3.mono hB2.size); have hce0 := (hb3.cell (p := ⟨w.heap.size, 0, none⟩) (show w.heap.size < _ by omega)).trans hcd0; have hce1 := (hb3.cell (p := ⟨w.heap.size, 1, none⟩) (show w.heap.size < _ by omega)).trans hcd1; have hz3 := hb3.size))
        have HB3 := Lib.hid hB3
        have hlt3 : w.heap.size < w3.heap.size := by omega
        have hle3 := hB3.size
        have H0 := Lib.hid hce0
        have H1 := Lib.hid hce1
        clear hcc0 hcc1 hcd0 hcd1 hb2 hb3 hB2 hce0 hce1
        go_loopw [7, 8, 29] (fun ov dv iv wr => ∃ i : Nat, ∃ d : Bool, ∃ out : List Fld, iv = .int .i64 i ∧ dv = .bool d ∧ i ≤ L.length ∧ OwnsF wr w3.heap.size ov out ∧ SetSt L (n, x) i d out ∧ Below w3.heap.size w3 wr) (fun _ _ iv _ => L.length - (intOf iv).toNat)
        case atStart => exact ⟨0, false, [], rfl, rfl, Nat.zero_le _, OwnsF.made _ _ (Nat.le_refl _), .inl ⟨rfl, (fun f hf => by simp at hf), rfl⟩, by (repeat (first | (with_reducible exact Below.refl _ _) | (with_reducible assumption) | (with_reducible refine Below.drew ?_) | (focus ((with_reducible refine Below.setCell ?_ ?_ _); rotate_left; (first | omega | (simp <;> omega)))) | (focus ((with_reducible refine Below.alloc ?_ ?_ _); rotate_left; (first | omega | (simp <;> omega)))) | exact Below.refl _ _ | assumption | refine Below.drew ?_ | refine Below.alloc ?_ (by first | omega | (simp <;> omega)) _ | refine Below.setCell ?_ (by first | omega | (simp <;> omega)) _))⟩
        case round =>
          obtain ⟨i, d, out, rfl, rfl, hi, hown, hst, hB⟩ := hrel
          have HO := Lib.hid hown
          have hz := hB.size
          have hol := set_len hst
          have f0 := (hB.cell (p := ⟨w.heap.size, 0, none⟩) hlt3).trans H0.out
          have f1 := (hB.cell (p := ⟨w.heap.size, 1, none⟩) hlt3).trans H1.out
          have HST := Lib.hid hst
          have hfar := far (show w.heap.size < wr.heap.size by omega)
          clear hown hst
          by_cases hlt : i < L.length
          · obtain ⟨g, off, rfl, hb, hcl⟩ := HC.out (by omega)
            obtain ⟨e1, e2⟩ := hcl i hlt
            have hBw : Below w.heap.size w wr := HB3.out.trans (hB.mono hle3)
            rw [← hBw.cell (p := ⟨g, off + i * 2, none⟩) hb] at e1
            rw [← hBw.cell (p := ⟨g, off + i * 2 + 1, none⟩) hb] at e2
            have C := Lib.hid (HN.out _ (HS.out _ (List.getElem_mem hlt)))
            have T1 := Lib.hid (set_other hlt HST.out)
            have T2 := Lib.hid (fun (hd : SetSt L (n, x) i false out) => set_first hlt hd)
            have T3 := Lib.hid (fun (hd : SetSt L (n, x) i true out) => set_again hlt hd)
            obtain ⟨⟨m, y⟩, hfe⟩ : ∃ f, L[i] = f := ⟨_, rfl⟩
            rw [hfe] at e1 e2 C T1 T2 T3
            simp only at e1 e2 C T1 T2 T3
            obtain ⟨s, hsm⟩ : ∃ s, sameN m n = s := ⟨_, rfl⟩
            rw [hsm] at C T1 T2 T3
            clear hcl hfe hsm hBw
            cases s with
            | false =>
              go_wp2_with (first
                | (go_at_call 30; refine (C.out _).mono ?_; rintro e w4 ⟨rfl, hb4⟩; obtain ⟨hcc, hff⟩ := bk hb4 wr.heap.size (by simp); have hbw := Below.trans (show Below wr.heap.size wr _ by (repeat (first | (with_reducible exact Below.refl _ _) | (with_reducible assumption) | (with_reducible refine Below.drew ?_) | (focus ((with_reducible refine Below.setCell ?_ ?_ _); rotate_left; (first | omega | (simp <;> omega)))) | (focus ((with_reducible refine Below.alloc ?_ ?_ _); rotate_left; (first | omega | (simp <;> omega)))) | exact Below.refl _ _ | assumption | refine Below.drew ?_ | refine Below.alloc ?_ (by first | omega | (simp <;> omega)) _ | refine Below.setCell ?_ (by first | omega | (simp <;> omega)) _))) (hb4.mono (by simp)); have hz4 := hb4.size; simp at hz4)
                | (at_builtin; refine wp_append_fld rfl _ _ rfl _ w3.heap.size _ _ (m, y) (HO.out.below hbw) rfl _ rfl rfl (by omega) (by omega) ?_; intro v5 w5 hown5 hb5 _; have HO5 := Lib.hid hown5; have hbw5 := Below.trans (hB.trans (hbw.mono hz)) hb5; clear hown5))
              go_roundw
              case rel => exact ⟨i + 1, d, out ++ [(m, y)], by go_num, rfl, by omega, HO5.out, T1.out trivial, hbw5⟩
              case measure => simp [intOf]; omega
            | true =>
              cases d with
              | false =>
                go_wp2_with (first
                  | (go_at_call 30; refine (C.out _).mono ?_; rintro e w4 ⟨rfl, hb4⟩; obtain ⟨hcc, hff⟩ := bk hb4 wr.heap.size (by simp); have hbw := Below.trans (show Below wr.heap.size wr _ by (repeat (first | (with_reducible exact Below.refl _ _) | (with_reducible assumption) | (with_reducible refine Below.drew ?_) | (focus ((with_reducible refine Below.setCell ?_ ?_ _); rotate_left; (first | omega | (simp <;> omega)))) | (focus ((with_reducible refine Below.alloc ?_ ?_ _); rotate_left; (first | omega | (simp <;> omega)))) | exact Below.refl _ _ | assumption | refine Below.drew ?_ | refine Below.alloc ?_ (by first | omega | (simp <;> omega)) _ | refine Below.setCell ?_ (by first | omega | (simp <;> omega)) _))) (hb4.mono (by simp)); have hz4 := hb4.size; simp at hz4; have f2 := (hbw.cell (p := ⟨w.heap.size, 0, none⟩) (show w.heap.size < _ by omega)).trans f0; have f3 := (hbw.cell (p := ⟨w.heap.size, 1, none⟩) (show w.heap.size < _ by omega)).trans f1)
                  | (at_builtin; refine wp_append_fld rfl _ _ rfl _ w3.heap.size _ _ (n, x) (HO.out.below hbw) rfl _ rfl rfl (by omega) (by omega) ?_; intro v5 w5 hown5 hb5 _; have HO5 := Lib.hid hown5; have hbw5 := Below.trans (hB.trans (hbw.mono hz)) hb5; clear hown5))
                go_roundw
                case rel => exact ⟨i + 1, true, out ++ [(n, x)], by go_num, rfl, by omega, HO5.out, T2.out HST.out trivial, hbw5⟩
                case measure => simp [intOf]; omega
              | true =>
                go_wp2_with (go_at_call 30; refine (C.out _).mono ?_; rintro e w4 ⟨rfl, hb4⟩; have hbw := Below.trans (show Below wr.heap.size wr _ by (repeat (first | (with_reducible exact Below.refl _ _) | (with_reducible assumption) | (with_reducible refine Below.drew ?_) | (focus ((with_reducible refine Below.setCell ?_ ?_ _); rotate_left; (first | omega | (simp <;> omega)))) | (focus ((with_reducible refine Below.alloc ?_ ?_ _); rotate_left; (first | omega | (simp <;> omega)))) | exact Below.refl _ _ | assumption | refine Below.drew ?_ | refine Below.alloc ?_ (by first | omega | (simp <;> omega)) _ | refine Below.setCell ?_ (by first | omega | (simp <;> omega)) _))) (hb4.mono (by simp)))
                go_roundw
                case rel => exact ⟨i + 1, true, out, by go_num, rfl, by omega, HO.out.below hbw, T3.out HST.out trivial, hB.trans (hbw.mono hz)⟩
                case measure => simp [intOf]; omega
          · obtain rfl : i = L.length := by omega
            have HEND := Lib.hid (set_end HST.out)
            cases d with
            | true =>
              have HO2 := Lib.hid (show ReadsF wr _ (setL L (n, x)) from by rw [E2.out, ← HEND.out]; exact HO.out.reads)
              go_wp2
              go_ret2
              exact ⟨_, by rw [E1.out]; rfl, HO2.out, HB3.out.trans (hB.mono hle3)⟩
            | false =>
              go_wp2_with (at_builtin; refine wp_append_fld rfl _ _ rfl _ w3.heap.size _ _ (n, x) HO.out rfl _ rfl rfl (by omega) (by omega) ?_; intro v5 w5 hown5 hb5 _; have HO5 := Lib.hid hown5; have hbw5 := hB.trans hb5; clear hown5)
              go_ret2
              exact ⟨_, by rw [E1.out]; rfl, by rw [E2.out, ← HEND.out]; exact HO5.out.reads, HB3.out.trans (hbw5.mono hle3)⟩
      · have e1 : setE L (n, x) = 4 := by rw [HE.out, if_pos rfl, hae]; simp [hl]
        have e2 : setL L (n, x) = [] := by rw [HL.out, e1]; rfl
        have E1 := Lib.hid e1
        have E2 := Lib.hid e2
        have hne : (((removeL L n).length : Int) == 40) = true := by simp; omega
        clear e1 e2 hae
        go_wp2_with (first
          | (go_at_call 11; refine Calls.mono (C2.out _ hB1) ?_; rintro e w2 ⟨rfl, hb2⟩; have hB2 := hB1.trans (hb2.mono hB1.size); have hcd0 := (hb2.cell (p := ⟨w.heap.size, 0, none⟩) (show w.heap.size < _ by omega)).trans hcc0; have hcd1 := (hb2.cell (p := ⟨w.heap.size, 1, none⟩) (show w.heap.size < _ by omega)).trans hcc1)
          | (go_at_call 31; refine (C3.out _).mono ?_; rintro e w3 ⟨rfl, hb3⟩; have hB3 := hB2.trans (hb3.mono hB2.size)))
        go_ret2
        exact ⟨_, by rw [E1.out]; rfl, by rw [E2.out]; exact ReadsF.nil _, hB3⟩
end Go.Proofs.YtcfihoniocamaaaGreatDoor
