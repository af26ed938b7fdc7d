/- The document's Parse of a head: the walk. -/
import Derived.Test.YtpklbelhdfkjpaaDoorHeadRef2
namespace Go.Proofs.YtpklbelhdfkjpaaDoor
open Go.RowKit Go.Sort Go.Shelf
set_option linter.unusedVariables false

theorem linesG_fst (t : List UInt8) : ∀ (n m : Nat) (cur : List UInt8), (linesG n cur t).map Prod.fst = (linesG m cur t).map Prod.fst := by
  induction t with
  | nil => intros; rfl
  | cons c t ih =>
    intro n m cur
    unfold linesG
    split
    · rw [List.map_cons, List.map_cons, ih _ (m + 1)]
    · exact ih _ _ _
theorem last_drop {s : List UInt8} {i : Nat} (h : i < s.length) : (s.drop i).getLast? = s.getLast? := by
  rw [List.getLast?_drop]
  rw [if_neg (by omega)]
theorem has_end {s : List UInt8} (h : s.getLast? = some 10) : ∃ i : Nat, Lib.indexByte s 10 = i := by
  have hm := List.mem_of_getLast? h
  have hge := Lib.indexByte_ge s 10
  have : Lib.indexByte s 10 ≠ -1 := fun e => idx10_none e hm
  exact ⟨(Lib.indexByte s 10).toNat, by omega⟩

theorem refParse_empty (w : World) : Calls Tryd.prog 13 #[.string (S [])] w fun e w' => ∃ v, e = .returned (.tuple #[v, .int .i64 0]) ∧ ReadsF w' v [] ∧ Below w.heap.size w w' := by
  go_enter Tryd.func13, Tryd.ntmps13
  go_wp2
  refine wp_loop_rounds 1 ?_
  rw [rounds_succ]
  go_wp2
  go_ret2
  exact ⟨_, rfl, (OwnsF.made w w.heap.size (Nat.le_refl _)).reads, by (repeat (first | (with_reducible exact Below.refl _ _) | (with_reducible assumption) | (with_reducible refine Below.drew ?_) | (focus ((with_reducible refine Below.setCell ?_ ?_ _); rotate_left; (first | omega | (simp <;> omega)))) | (focus ((with_reducible refine Below.alloc ?_ ?_ _); rotate_left; (first | omega | (simp <;> omega)))) | exact Below.refl _ _ | assumption | refine Below.drew ?_ | refine Below.alloc ?_ (by first | omega | (simp <;> omega)) _ | refine Below.setCell ?_ (by first | omega | (simp <;> omega)) _))⟩

set_option maxHeartbeats 2400000 in
set_option maxRecDepth 100000 in
theorem refParse_loop (s0 : List UInt8) (hs : s0.length ≤ 4000) (hend : s0.getLast? = some 10) (w : World) :
    Calls Tryd.prog 13 #[.string (S s0)] w fun e w' => ∃ v, e = .returned (.tuple #[v, .int .i64 (parseH [] ((linesG 0 [] s0).map Prod.fst)).2]) ∧ ReadsF w' v (parseH [] ((linesG 0 [] s0).map Prod.fst)).1 ∧ Below w.heap.size w w' := by
  obtain ⟨⟨rl, re⟩, hres⟩ : ∃ x, parseH [] ((linesG 0 [] s0).map Prod.fst) = x := ⟨_, rfl⟩
  rw [hres]
  simp only
  have HRES := Lib.hid hres
  clear hres
  have HEND := Lib.hid hend
  have hs1 : (s0.length : Int) ≤ 4000 := by omega
  have hpos : 0 < s0.length := by cases s0 with
    | nil => cases hend
    | cons a t => simp
  obtain ⟨he, hb1, hb2⟩ : s0.isEmpty = false ∧ bAt s0 (s0.length - 1) = 10 ∧ bAt s0 ((s0.length : Int) - 1).toNat = 10 := by
    rcases headParse_test (s := s0) (by simp [hend]) with h | ⟨a, b, c⟩
    · rw [h] at hpos; simp at hpos
    · exact ⟨a, b, by rw [show ((s0.length : Int) - 1).toNat = s0.length - 1 by omega]; exact b⟩
  clear hend
  go_enter Tryd.func13, Tryd.ntmps13
  go_wp2
  go_loopw [0, 4] (fun sv ov wr => ∃ (rest : List UInt8) (out : List Fl), sv = .string (S rest) ∧ rest.length ≤ s0.length ∧ (rest = [] ∨ rest.getLast? = some 10) ∧ OwnsF wr w.heap.size ov out ∧ parseH out ((linesG 0 [] rest).map Prod.fst) = (rl, re) ∧ rightL out = true ∧ Below w.heap.size w wr)
    (fun sv _ _ => strLen sv)
  case atStart => exact ⟨s0, [], rfl, Nat.le_refl _, Or.inr HEND.out, OwnsF.made w w.heap.size (Nat.le_refl _), HRES.out, right_nil, by (repeat (first | (with_reducible exact Below.refl _ _) | (with_reducible assumption) | (with_reducible refine Below.drew ?_) | (focus ((with_reducible refine Below.setCell ?_ ?_ _); rotate_left; (first | omega | (simp <;> omega)))) | (focus ((with_reducible refine Below.alloc ?_ ?_ _); rotate_left; (first | omega | (simp <;> omega)))) | exact Below.refl _ _ | assumption | refine Below.drew ?_ | refine Below.alloc ?_ (by first | omega | (simp <;> omega)) _ | refine Below.setCell ?_ (by first | omega | (simp <;> omega)) _))⟩
  case round =>
    obtain ⟨rest, out, rfl, hrl, hre, hown, hpar, hright, hB⟩ := hrel
    have HO := Lib.hid hown
    have HRI := Lib.hid hright
    have HBB := Lib.hid hB
    have hz := hB.size
    obtain ⟨oo, ocap, rfl, oc1, oc2, _, _⟩ := hown.reads
    have hm : maxLen = 9223372036854775807 := rfl
    rw [hm] at oc2
    have hol := (right_parts hright).1
    clear hown hright hB hm
    cases rest with
    | nil =>
      have HP := Lib.hid (show (out, (0 : Int)) = (rl, re) from hpar)
      clear hpar hre
      go_wp2
      go_ret2
      obtain ⟨rfl, rfl⟩ := Prod.mk.inj HP.out
      exact ⟨_, rfl, HO.out.reads, HBB.out⟩
    | cons c0 t0 =>
      have hlast : (c0 :: t0).getLast? = some 10 := by rcases hre with h | h
                                                       · cases h
                                                       · exact h
      obtain ⟨s, hs0⟩ : ∃ s, c0 :: t0 = s := ⟨_, rfl⟩
      have hse : s.isEmpty = false := by rw [← hs0]; rfl
      rw [hs0] at hlast hpar hrl ⊢
      clear hs0 hre
      obtain ⟨i, hii⟩ := has_end hlast
      obtain ⟨hi1, -, -⟩ := idx10_parts hii
      have F1 := Lib.hid (fun W => find_S (l := s) (c := 10) (ci := 10) rfl (by omega) hii W)
      rw [linesG_some hii, List.nil_append, List.map_cons, parseH_cons] at hpar
      simp only at hpar
      rw [linesG_fst _ (0 + i + 1) 0] at hpar
      obtain ⟨u, hu, hul⟩ : ∃ u, s.take i = u ∧ u.length = i := ⟨_, rfl, by rw [List.length_take]; omega⟩
      have e2 : (s.take i).drop 0 = u := hu
      obtain ⟨b, hb⟩ : ∃ b, bare u = b := ⟨_, rfl⟩
      have hbl : b.length ≤ i := by rw [← hb, ← hul]; exact bare_len u
      have BA := Lib.hid (fun W => refBare u b (by omega) hb W)
      rw [hu, hb] at hpar
      obtain ⟨r, hr⟩ : ∃ r, s.drop (i + 1) = r := ⟨_, rfl⟩
      have e3 : (s.take s.length).drop (i + 1) = r := by rw [List.take_length]; exact hr
      have hrlen : r.length = s.length - (i + 1) := by rw [← hr, List.length_drop]
      have HRE := Lib.hid (show r = [] ∨ r.getLast? = some 10 by
        by_cases h : i + 1 < s.length
        · right; rw [← hr, last_drop h]; exact hlast
        · left; rw [← hr]; exact List.drop_of_length_le (by omega))
      rw [hr] at hpar
      have HRR := Lib.hid hr
      have HLR := Lib.hid (show r.length ≤ s0.length ∧ r.length < s.length by omega)
      have hii2 : (i : Int) < (s.length : Int) := by omega
      have hi2 : i ≤ s.length := by omega
      have hi3 : i + 1 ≤ s.length := by omega
      -- the line's field
      have hge := Lib.indexByte_ge b 58
      have hltb := indexByte_lt b 58
      have hfo : fieldOf b = ((cut1 b 58).1, trim (cut1 b 58).2.1) := rfl
      have hstep : stepH out b = if (cut1 b 58).2.2 = true ∧ mayL (fieldOf b) = true then (if out.length < 40 then 0 else 4) else 31 := rfl
      unfold cut1 at hfo hstep
      obtain ⟨kk, hkk⟩ : ∃ x, Lib.indexByte b 58 = x := ⟨_, rfl⟩
      have F2 := Lib.hid (fun W => find_S (l := b) (c := 58) (ci := 58) rfl (by omega) hkk W)
      rw [hkk] at hfo hstep hge hltb
      have HPAR := Lib.hid hpar
      have HBL := Lib.hid hbl
      clear hpar hii hb hu hul hlast hkk hr hrlen hbl hi1
      by_cases hk0 : 0 ≤ kk
      · obtain ⟨k, rfl⟩ : ∃ k : Nat, kk = k := ⟨kk.toNat, by omega⟩
        rw [if_pos hk0, Int.toNat_natCast] at hfo hstep
        simp only at hfo hstep
        obtain ⟨n, hn⟩ : ∃ n, b.take k = n := ⟨_, rfl⟩
        obtain ⟨x0, hx0⟩ : ∃ x, b.drop (k + 1) = x := ⟨_, rfl⟩
        have e4 : (b.take k).drop 0 = n := hn
        have e5 : (b.take b.length).drop (k + 1) = x0 := by rw [List.take_length]; exact hx0
        have hkb : (k : Int) < (b.length : Int) := hltb
        have hkb2 : k + 1 ≤ b.length := by omega
        have hkb3 : (k : Int) + 1 ≤ (b.length : Int) := by omega
        have hbl := HBL.out
        have hbl4 : (b.length : Int) ≤ 4000 := by omega
        have hkb6 : (k : Int) + 1 ≤ 4000 := by omega
        have hkb9 : k ≤ b.length := by omega
        have hkw : IntKind.i64.wrap ((k : Int) + 1) = (k : Int) + 1 := by (first | rw [IntKind.wrap_i64] | simp only [IntKind.wrap, IntKind.bits, IntKind.signed]) <;> (try simp) <;> omega
        have hnl : n.length ≤ 4000 := by rw [← hn, List.length_take]; omega
        have hxl0 : x0.length ≤ 4000 := by rw [← hx0, List.length_drop]; omega
        obtain ⟨x, hx⟩ : ∃ x, trim x0 = x := ⟨_, rfl⟩
        have hxl : x.length ≤ 4000 := by rw [← hx]; exact Nat.le_trans (trim_len _) hxl0
        rw [hn, hx0, hx] at hfo
        have TR := Lib.hid (fun W => hx ▸ refTrim x0 (by omega) W)
        have MA := Lib.hid (fun W => refMay n x (by omega) (by omega) W)
        unfold fv at MA
        simp only at MA
        rw [hfo] at hstep
        have HFO := Lib.hid hfo
        obtain ⟨my, hmy⟩ : ∃ y, mayL (n, x) = y := ⟨_, rfl⟩
        rw [hmy] at MA hstep
        have HST := Lib.hid hstep
        have HMY := Lib.hid hmy
        clear hfo hstep hx hmy hge hltb hk0 HBL hnl hxl0 hxl hbl
        go_wp2_with (first
          | (go_at_call 26; with_reducible refine Calls.mono (F1.out _) ?_; rintro e w' ⟨rfl, hw'⟩; obtain rfl := hw'.symm)
          | (go_at_call 27; refine (BA.out _).mono ?_; rintro e w' ⟨rfl, hw'⟩; obtain rfl := hw'.symm)
          | (go_at_call 26; with_reducible refine Calls.mono (F2.out _) ?_; rintro e w' ⟨rfl, hw'⟩; obtain rfl := hw'.symm)
          | fail)
        go_cut [8] (fun bv wx => ∃ g, bv = .pointer (some ⟨g, 0, none⟩) ∧ wr.heap.size ≤ g ∧ g < wx.heap.size ∧ wx.cell? ⟨g, 0, none⟩ = some (.string (S n)) ∧ wx.cell? ⟨g, 1, none⟩ = some (.string (S x)) ∧ Below wr.heap.size wr wx)
        case first =>
          as_aux_lemma =>
            go_region_with (go_at_call 28; with_reducible refine Calls.mono (TR.out _) ?_; rintro e w' ⟨rfl, hw'⟩; obtain rfl := hw'.symm)
            all_goals (go_wp2_with fail; go_meet; refine ⟨_, rfl, ?_, ?_, ?_, ?_, ?_⟩)
            all_goals first | (simp; done) | (simp; omega) | (simp [go_sem, *]; done) | (repeat (first | (with_reducible exact Below.refl _ _) | (with_reducible assumption) | (with_reducible refine Below.drew ?_) | (focus ((with_reducible refine Below.setCell ?_ ?_ _); rotate_left; (first | omega | (simp <;> omega)))) | (focus ((with_reducible refine Below.alloc ?_ ?_ _); rotate_left; (first | omega | (simp <;> omega)))) | exact Below.refl _ _ | assumption | refine Below.drew ?_ | refine Below.alloc ?_ (by first | omega | (simp <;> omega)) _ | refine Below.setCell ?_ (by first | omega | (simp <;> omega)) _))
        case rest =>
          obtain ⟨g, rfl, hg1, hg2, c1, c2, hbx⟩ := hcut
          have hzx := hbx.size
          have HBX := Lib.hid hbx
          clear hbx
          cases my with
          | false =>
            go_wp2_with (go_at_call 29; refine (MA.out _).mono ?_; rintro e w2 ⟨rfl, hb2⟩; have c3 := (hb2.cell (p := ⟨g, 0, none⟩) hg2).trans c1; have c4 := (hb2.cell (p := ⟨g, 1, none⟩) hg2).trans c2; have hz2 := hb2.size; have HB2 := Lib.hid hb2)
            go_ret2
            have h6 := HPAR.out
            rw [HST.out] at h6
            simp only [Bool.false_eq_true, and_false, if_false] at h6
            rw [if_neg (by decide)] at h6
            obtain ⟨rfl, rfl⟩ := Prod.mk.inj h6
            exact ⟨_, rfl, ReadsF.nil _, HBB.out.trans ((HBX.out.trans (HB2.out.mono hzx)).mono hz)⟩
          | true =>
            by_cases h40 : out.length < 40
            · have h40b : ((out.length : Int) == 40) = false := by simp; omega
              go_wp2_with (first
                | (go_at_call 29; refine (MA.out _).mono ?_; rintro e w2 ⟨rfl, hb2⟩; have c3 := (hb2.cell (p := ⟨g, 0, none⟩) hg2).trans c1; have c4 := (hb2.cell (p := ⟨g, 1, none⟩) hg2).trans c2; have hz2 := hb2.size; have HB2 := Lib.hid hb2)
                | (at_builtin; refine wp_append_fld rfl _ _ rfl _ w.heap.size _ out (n, x) (HO.out.below (HBX.out.trans (HB2.out.mono hzx))) rfl _ rfl rfl (by omega) (by omega) ?_; intro v4 w4 hown4 hb4 hg4; have HO4 := Lib.hid hown4; have HB4 := Lib.hid hb4; clear hown4 hb4 hg4))
              go_roundw
              case rel =>
                refine ⟨s.drop (i + 1), out ++ [(n, x)], rfl, ?_, ?_, HO4.out, ?_, right_snoc HRI.out HMY.out h40, (HBB.out.trans ((HBX.out.trans (HB2.out.mono hzx)).mono hz)).trans HB4.out⟩
                · rw [HRR.out]; exact HLR.out.1
                · rw [HRR.out]; exact HRE.out
                · have h6 := HPAR.out
                  rw [HST.out, HFO.out] at h6
                  simp only [true_and, if_true] at h6
                  rw [if_pos h40, if_pos rfl] at h6
                  rw [HRR.out]
                  exact h6
              case measure => have := HLR.out.2; rw [← HRR.out] at this; simp only [strLen_S]; exact this
            · have h40b : ((out.length : Int) == 40) = true := by simp; omega
              have H40 := Lib.hid h40
              clear h40
              go_wp2_with (go_at_call 29; refine (MA.out _).mono ?_; rintro e w2 ⟨rfl, hb2⟩; have c3 := (hb2.cell (p := ⟨g, 0, none⟩) hg2).trans c1; have c4 := (hb2.cell (p := ⟨g, 1, none⟩) hg2).trans c2; have hz2 := hb2.size; have HB2 := Lib.hid hb2)
              go_ret2
              have h6 := HPAR.out
              rw [HST.out] at h6
              simp only [true_and, if_true] at h6
              rw [if_neg H40.out, if_neg (by decide)] at h6
              obtain ⟨rfl, rfl⟩ := Prod.mk.inj h6
              exact ⟨_, rfl, ReadsF.nil _, HBB.out.trans ((HBX.out.trans (HB2.out.mono hzx)).mono hz)⟩
      · have hkm : kk = -1 := by omega
        subst hkm
        rw [if_neg hk0] at hstep
        have HST := Lib.hid (show stepH out b = 31 by rw [hstep]; simp)
        clear hfo hstep hge hltb hk0 HBL
        go_wp2_with (first
          | (go_at_call 26; with_reducible refine Calls.mono (F1.out _) ?_; rintro e w' ⟨rfl, hw'⟩; obtain rfl := hw'.symm)
          | (go_at_call 27; refine (BA.out _).mono ?_; rintro e w' ⟨rfl, hw'⟩; obtain rfl := hw'.symm)
          | (go_at_call 26; with_reducible refine Calls.mono (F2.out _) ?_; rintro e w' ⟨rfl, hw'⟩; obtain rfl := hw'.symm)
          | fail)
        go_ret2
        have h6 := HPAR.out
        rw [HST.out, if_neg (by decide)] at h6
        obtain ⟨rfl, rfl⟩ := Prod.mk.inj h6
        exact ⟨_, rfl, ReadsF.nil _, HBB.out⟩

theorem refParse_c (s : List UInt8) (hs : s.length ≤ 1000000) (w : World) :
    Calls Tryd.prog 13 #[.string (S s)] w fun e w' => ∃ v, e = .returned (.tuple #[v, .int .i64 (headParse s).2]) ∧ ReadsF w' v (headParse s).1 ∧ Below w.heap.size w w' := by
  unfold headParse
  by_cases h1 : 4000 < s.length
  · rw [if_pos h1]
    have h2 : (4000 : Int) < (s.length : Int) := by omega
    go_enter Tryd.func13, Tryd.ntmps13
    go_wp2
    go_ret2
    exact ⟨_, rfl, ReadsF.nil _, by (repeat (first | (with_reducible exact Below.refl _ _) | (with_reducible assumption) | (with_reducible refine Below.drew ?_) | (focus ((with_reducible refine Below.setCell ?_ ?_ _); rotate_left; (first | omega | (simp <;> omega)))) | (focus ((with_reducible refine Below.alloc ?_ ?_ _); rotate_left; (first | omega | (simp <;> omega)))) | exact Below.refl _ _ | assumption | refine Below.drew ?_ | refine Below.alloc ?_ (by first | omega | (simp <;> omega)) _ | refine Below.setCell ?_ (by first | omega | (simp <;> omega)) _))⟩
  · rw [if_neg h1]
    have h1i : (s.length : Int) ≤ 4000 := by omega
    by_cases h2 : s ≠ [] ∧ s.getLast? ≠ some 10
    · rw [if_pos h2]
      obtain ⟨h0, h⟩ := h2
      have hl : 0 < s.length := List.length_pos_iff.2 h0
      have he : s.isEmpty = false := by cases s with
        | nil => exact absurd rfl h0
        | cons a t => rfl
      have hb : (bAt s (s.length - 1) != 10) = true := by
        rw [bAt_eq (by omega)]
        rw [List.getLast?_eq_getElem?, List.getElem?_eq_getElem (by omega)] at h
        simp only [bne_iff_ne, ne_eq]
        intro e
        apply h
        congr 1
        apply UInt8.toNat.inj
        have : (s[s.length - 1].toNat : Int) = 10 := e
        exact Int.ofNat.inj this
      obtain ⟨z, hz⟩ : ∃ z, bAt s (s.length - 1) = z := ⟨_, rfl⟩
      rw [hz] at hb
      have hz2 : bAt s ((s.length : Int) - 1).toNat = z := by rw [← hz]; congr 1; omega
      clear h h0
      go_enter Tryd.func13, Tryd.ntmps13
      go_wp2
      go_ret2
      exact ⟨_, rfl, ReadsF.nil _, by (repeat (first | (with_reducible exact Below.refl _ _) | (with_reducible assumption) | (with_reducible refine Below.drew ?_) | (focus ((with_reducible refine Below.setCell ?_ ?_ _); rotate_left; (first | omega | (simp <;> omega)))) | (focus ((with_reducible refine Below.alloc ?_ ?_ _); rotate_left; (first | omega | (simp <;> omega)))) | exact Below.refl _ _ | assumption | refine Below.drew ?_ | refine Below.alloc ?_ (by first | omega | (simp <;> omega)) _ | refine Below.setCell ?_ (by first | omega | (simp <;> omega)) _))⟩
    · rw [if_neg h2]
      rcases Classical.em (s = []) with h | h
      · subst h
        exact refParse_empty w
      · exact refParse_loop s (by omega) (Classical.byContradiction fun e => h2 ⟨h, e⟩) w
end Go.Proofs.YtpklbelhdfkjpaaDoor
