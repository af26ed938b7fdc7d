/- The document's Split: the walks. -/
import Derived.Test.YtcfihoniocamaaaDoorTextSplit
namespace Go.Proofs.YtcfihoniocamaaaDoor
open Go.RowKit Go.Sort Go.Shelf
set_option linter.unusedVariables false

theorem bAt_of {l : List UInt8} {i : Nat} {n : Int} (h : i < l.length) (c : UInt8) (hc : (c.toNat : Int) = n) : (l[i] = c → bAt l i = n) ∧ (l[i] ≠ c → (bAt l i == n) = false ∧ ¬ bAt l i = n) := by
  have hb := bAt_eq h
  refine ⟨fun e => by rw [hb, e, hc], fun e => ?_⟩
  have : ¬ bAt l i = n := fun e' => e (UInt8.toNat.inj (by omega))
  exact ⟨by simpa using this, this⟩

/-- What end answers. -/
def EndIs (l : List UInt8) (p : Nat) (r : Int) : Prop :=
  (r = -1 ∧ ∀ b f, f ≤ p + 1 → St b l true f (p + 1) = none) ∨ ∃ m : Nat, r = m ∧ p + 1 < m ∧ m ≤ l.length ∧ ∀ b f, f ≤ p + 1 → St b l true f (p + 1) = St b l false f m

set_option maxHeartbeats 1600000 in
theorem refEnd (l : List UInt8) (p : Nat) (hp : p < l.length) (hl : l.length ≤ 1099511627776) (w : World) : Calls Tryd.prog 54 #[.string (S l), .int .i64 p] w fun e w' => (∃ r, e = .returned (.int .i64 r) ∧ EndIs l p r) ∧ w' = w := by
  go_enter Tryd.func54, Tryd.ntmps54
  go_wp2
  go_loop [5] (fun iv => ∃ i : Nat, iv = .int .i64 i ∧ p + 1 ≤ i ∧ i ≤ l.length + 1 ∧ ∀ b f, f ≤ p + 1 → St b l true f (p + 1) = St b l true f i) (fun iv => l.length + 1 - (intOf iv).toNat)
  case atStart => exact ⟨p + 1, by go_num, Nat.le_refl _, by omega, fun _ _ _ => rfl⟩
  case round =>
    obtain ⟨i, rfl, hi1, hi2, hst⟩ := hrel
    have HS := Lib.hid hst
    clear hst
    by_cases hlt : i < l.length
    · obtain ⟨a1, a2⟩ := bAt_of hlt (n := 34) 34 rfl
      obtain ⟨b1, b2⟩ := bAt_of hlt (n := 92) 92 rfl
      by_cases h34 : l[i] = 34
      · have e1 := a1 h34
        have HE := Lib.hid (show EndIs l p ((i + 1 : Nat) : Int) from .inr ⟨i + 1, rfl, by omega, by omega, fun b f hf => by rw [HS.out b f hf, St_quote hlt (by omega) h34]; rfl⟩)
        clear a1 a2 b1 b2 h34
        go_wp2
        go_ret
        exact ⟨⟨_, rfl, by simpa using HE.out⟩, rfl⟩
      · obtain ⟨e1, e2⟩ := a2 h34
        by_cases h92 : l[i] = 92
        · have e3 := b1 h92
          have HN := Lib.hid (show ∀ b f, f ≤ p + 1 → St b l true f (p + 1) = St b l true f (i + 2) from fun b f hf => by rw [HS.out b f hf, St_esc hlt (by omega) h92])
          clear a1 a2 b1 b2 h34 h92 e1 e2
          go_wp2
          go_round
          case rel => exact ⟨i + 2, by go_num, by omega, by omega, HN.out⟩
          case measure => simp [intOf]; omega
        · obtain ⟨e3, e4⟩ := b2 h92
          have HN := Lib.hid (show ∀ b f, f ≤ p + 1 → St b l true f (p + 1) = St b l true f (i + 1) from fun b f hf => by rw [HS.out b f hf, St_plain hlt (by omega) h34 (fun _ => h92) (fun h => by cases h)])
          clear a1 a2 b1 b2 h34 h92
          go_wp2
          go_round
          case rel => exact ⟨i + 1, by go_num, by omega, by omega, HN.out⟩
          case measure => simp [intOf]; omega
    · have HE := Lib.hid (show EndIs l p (-1) from .inl ⟨rfl, fun b f hf => by rw [HS.out b f hf, St_in (by omega)]⟩)
      go_wp2
      go_ret
      exact ⟨⟨_, rfl, HE.out⟩, rfl⟩

theorem part_join {l : List UInt8} {f i m : Nat} (h1 : f ≤ i) (h2 : i ≤ m) : (l.take i).drop f ++ (l.take m).drop i = (l.take m).drop f := by
  have e : l.take m = l.take i ++ (l.take m).drop i := by
    have := List.take_append_drop i (l.take m)
    rw [List.take_take, Nat.min_eq_left h2] at this
    exact this.symm
  conv => rhs; rw [e]
  by_cases hi : i ≤ l.length
  · rw [List.drop_append_of_le_length (by simp; omega)]
  · rw [List.drop_eq_nil_of_le (by simp; omega : (l.take m).length ≤ i), List.append_nil, List.append_nil]

set_option maxHeartbeats 1600000 in
set_option maxRecDepth 100000 in
theorem refSplit (l : List UInt8) (b : UInt8) (hl : l.length ≤ 1099511627776) (w : World) : Calls Tryd.prog 36 #[.string (S l), .int .u8 (b.toNat : Int)] w fun e w' => SplitTo w (splitL b l) e w' := by
  have hb256 := b.toNat_lt
  by_cases hq : b = 34 ∨ b = 92
  · have e : splitL b l = none := by unfold splitL; rw [if_pos hq]
    rw [e]
    rcases hq with rfl | rfl
    · go_enter Tryd.func36, Tryd.ntmps36
      go_wp2
      go_ret2
      exact ⟨_, Owns.nil _ _, rfl, by (repeat (first | (with_reducible exact Below.refl _ _) | (with_reducible assumption) | (with_reducible refine Below.drew ?_) | (focus ((with_reducible refine Below.setCell ?_ ?_ _); rotate_left; (first | omega | (simp <;> omega)))) | (focus ((with_reducible refine Below.alloc ?_ ?_ _); rotate_left; (first | omega | (simp <;> omega)))) | exact Below.refl _ _ | assumption | refine Below.drew ?_ | refine Below.alloc ?_ (by first | omega | (simp <;> omega)) _ | refine Below.setCell ?_ (by first | omega | (simp <;> omega)) _))⟩
    · go_enter Tryd.func36, Tryd.ntmps36
      go_wp2
      go_ret2
      exact ⟨_, Owns.nil _ _, rfl, by (repeat (first | (with_reducible exact Below.refl _ _) | (with_reducible assumption) | (with_reducible refine Below.drew ?_) | (focus ((with_reducible refine Below.setCell ?_ ?_ _); rotate_left; (first | omega | (simp <;> omega)))) | (focus ((with_reducible refine Below.alloc ?_ ?_ _); rotate_left; (first | omega | (simp <;> omega)))) | exact Below.refl _ _ | assumption | refine Below.drew ?_ | refine Below.alloc ?_ (by first | omega | (simp <;> omega)) _ | refine Below.setCell ?_ (by first | omega | (simp <;> omega)) _))⟩
  · obtain ⟨h34, h92⟩ : b ≠ 34 ∧ b ≠ 92 := ⟨fun e => hq (.inl e), fun e => hq (.inr e)⟩
    have t34 : (34 : UInt8).toNat = 34 := rfl
    have t92 : (92 : UInt8).toNat = 92 := rfl
    have hn34 : ((b.toNat : Int) == 34) = false := by simp; exact fun e => h34 (UInt8.toNat.inj (by omega))
    have hn92 : ((b.toNat : Int) == 92) = false := by simp; exact fun e => h92 (UInt8.toNat.inj (by omega))
    obtain ⟨bi, hbi⟩ : ∃ bi : Int, (b.toNat : Int) = bi := ⟨_, rfl⟩
    have hbi0 : 0 ≤ bi ∧ bi < 256 := by omega
    obtain ⟨hbi0, hbi1⟩ := hbi0
    have HBI := Lib.hid hbi
    rw [hbi] at hn34 hn92 ⊢
    have hn34' : ((34 : Int) == bi) = false := by rw [BEq.comm]; exact hn34
    clear hbi hb256 t34 t92
    go_enter Tryd.func36, Tryd.ntmps36
    go_wp2
    simp only [mk_S]
    go_loopw [6, 7, 8] (fun ov pv iv wr => ∃ dn : List (List UInt8), ∃ f i : Nat, pv = .string (S ((l.take i).drop f)) ∧ iv = .int .i64 i ∧ f ≤ i ∧ i ≤ l.length ∧ Owns wr w.heap.size ov dn ∧ dn.length ≤ i ∧
        splitL b l = (St b l false f i).map (fun r => dn ++ r.map trim) ∧ Below w.heap.size w wr) (fun _ _ iv _ => l.length - (intOf iv).toNat)
    case atStart =>
      refine ⟨[], 0, 0, rfl, rfl, Nat.le_refl _, Nat.zero_le _, Owns.made _ _ (Nat.le_refl _), Nat.zero_le _, ?_, by (repeat (first | (with_reducible exact Below.refl _ _) | (with_reducible assumption) | (with_reducible refine Below.drew ?_) | (focus ((with_reducible refine Below.setCell ?_ ?_ _); rotate_left; (first | omega | (simp <;> omega)))) | (focus ((with_reducible refine Below.alloc ?_ ?_ _); rotate_left; (first | omega | (simp <;> omega)))) | exact Below.refl _ _ | assumption | refine Below.drew ?_ | refine Below.alloc ?_ (by first | omega | (simp <;> omega)) _ | refine Below.setCell ?_ (by first | omega | (simp <;> omega)) _))⟩
      unfold splitL
      rw [if_neg hq]
      rfl
    case round =>
      obtain ⟨dn, f, i, rfl, rfl, hfi, hil, hown, hdn, hst, hB⟩ := hrel
      have HO := Lib.hid hown
      have HS := Lib.hid hst
      have hz := hB.size
      clear hown hst
      have hpl : ((l.take i).drop f).length ≤ l.length := by simp; omega
      by_cases hlt : i < l.length
      · obtain ⟨a1, a2⟩ := bAt_of hlt (n := 34) 34 rfl
        obtain ⟨b1, b2⟩ := bAt_of hlt (n := bi) b HBI.out
        obtain ⟨x, hx⟩ : ∃ x, (l.take i).drop f = x := ⟨_, rfl⟩
        have HX := Lib.hid hx
        rw [hx] at hpl ⊢
        clear hx
        by_cases h1 : l[i] = 34
        · have h1' := a1 h1
          have HE := Lib.hid (fun W => refEnd l i hlt hl W)
          have HC := Lib.hid h1
          clear a1 a2 b1 b2 h1
          go_wp2_with (go_at_call 54; refine (HE.out _).mono ?_; rintro e w1 ⟨⟨r, rfl, he⟩, rfl⟩; rcases he with ⟨rfl, he⟩ | ⟨m, rfl, hm1, hm2, he⟩)
          · have hno : splitL b l = none := by rw [HS.out, St_quote hlt hfi HC.out]; show ((St b l true f (i + 1)).map _) = _; rw [he b f (by omega)]; rfl
            have HNO := Lib.hid hno
            clear hno he
            go_wp2
            go_ret2
            exact ⟨_, by rw [HNO.out]; exact Owns.nil _ _, by rw [HNO.out]; rfl, by (repeat (first | (with_reducible exact Below.refl _ _) | (with_reducible assumption) | (with_reducible refine Below.drew ?_) | (focus ((with_reducible refine Below.setCell ?_ ?_ _); rotate_left; (first | omega | (simp <;> omega)))) | (focus ((with_reducible refine Below.alloc ?_ ?_ _); rotate_left; (first | omega | (simp <;> omega)))) | exact Below.refl _ _ | assumption | refine Below.drew ?_ | refine Below.alloc ?_ (by first | omega | (simp <;> omega)) _ | refine Below.setCell ?_ (by first | omega | (simp <;> omega)) _))⟩
          · have HN := Lib.hid (show splitL b l = (St b l false f m).map (fun r => dn ++ r.map trim) by rw [HS.out, St_quote hlt hfi HC.out]; show ((St b l true f (i + 1)).map _) = _; rw [he b f (by omega)])
            have HP := Lib.hid (show x ++ (l.take m).drop i = (l.take m).drop f by rw [← HX.out]; exact part_join hfi (by omega))
            clear he
            have hil2 : (i : Int) ≤ m := by omega
            go_wp2
            go_roundw
            case rel => exact ⟨dn, f, m, by rw [HP.out], rfl, by omega, by omega, HO.out, by omega, HN.out, hB⟩
            case measure => simp [intOf]; omega
        · obtain ⟨h1', h1''⟩ := a2 h1
          by_cases h2 : l[i] = b
          · have h2' := b1 h2
            have HN := Lib.hid (show splitL b l = (St b l false (i + 1) (i + 1)).map (fun r => (dn ++ [trim x]) ++ r.map trim) by
              rw [HS.out, St_by hlt h2 h34, HX.out]
              cases St b l false (i + 1) (i + 1) <;> simp)
            have HT := Lib.hid (fun W => refTrim x (by omega) W)
            clear a1 a2 b1 b2 h1 h2 h1' h1''
            go_wp2_with (first
              | (go_at_call 30; refine (HT.out _).mono ?_; rintro e w1 ⟨rfl, rfl⟩)
              | (at_builtin; refine wp_append_text rfl _ _ rfl _ w.heap.size _ dn (trim x) HO.out rfl rfl (by omega) (by omega) ?_; intro v' w2 hown2 hb2; have HO2 := Lib.hid hown2; clear hown2))
            go_roundw
            case rel => exact ⟨dn ++ [trim x], i + 1, i + 1, by rw [List.drop_eq_nil_of_le (by simp; omega)], by go_num, Nat.le_refl _, by omega, HO2.out, by simp; omega, HN.out, hB.trans hb2⟩
            case measure => simp [intOf]; omega
          · obtain ⟨h2', h2''⟩ := b2 h2
            have HN := Lib.hid (show splitL b l = (St b l false f (i + 1)).map (fun r => dn ++ r.map trim) by rw [HS.out, St_plain hlt hfi h1 (fun h => by cases h) (fun _ => h2)])
            have HP := Lib.hid (show x ++ (l.take (i + 1)).drop i = (l.take (i + 1)).drop f by rw [← HX.out]; exact part_join hfi (by omega))
            clear a1 a2 b1 b2 h1 h2
            go_wp2
            go_roundw
            case rel => exact ⟨dn, f, i + 1, by rw [← HP.out], by go_num, by omega, by omega, HO.out, by omega, HN.out, hB⟩
            case measure => simp [intOf]; omega
      · obtain rfl : i = l.length := by omega
        have hyes : splitL b l = some (dn ++ [trim (l.drop f)]) := by rw [HS.out, St_end (by omega)]; rfl
        rw [List.take_length] at hpl ⊢
        have HY := Lib.hid hyes
        clear hyes
        have HT := Lib.hid (fun W => refTrim (l.drop f) (by omega) W)
        go_wp2_with (first
          | (go_at_call 30; refine (HT.out _).mono ?_; rintro e w1 ⟨rfl, rfl⟩)
          | (at_builtin; refine wp_append_text rfl _ _ rfl _ w.heap.size _ dn (trim (l.drop f)) HO.out rfl rfl (by omega) (by omega) ?_; intro v' w2 hown2 hb2; have HO2 := Lib.hid hown2; clear hown2))
        go_ret2
        exact ⟨_, by rw [HY.out]; exact HO2.out, by rw [HY.out]; rfl, hB.trans hb2⟩
end Go.Proofs.YtcfihoniocamaaaDoor
