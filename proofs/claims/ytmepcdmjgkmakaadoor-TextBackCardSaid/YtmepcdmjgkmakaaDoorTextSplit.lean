/- text.Split: the walk. -/
import Derived.Test.YtmepcdmjgkmakaaDoorOwnRow
import Derived.Test.YtmepcdmjgkmakaaDoorTextRef
import Derived.Test.YtmepcdmjgkmakaaDoorSplitMath
namespace Go.Proofs.YtmepcdmjgkmakaaDoor
open Go.RowKit Go.Sort Go.Shelf
set_option linter.unusedVariables false

/-- The parts of a text, trimmed; none: refused. -/
def splitL (b : UInt8) (l : List UInt8) : Option (List (List UInt8)) := if b = 34 ∨ b = 92 then none else (parts b false [] l).map (·.map trim)
/-- The error. -/
def errOf (r : Option (List (List UInt8))) : Int := match r with | some _ => 0 | none => 11
/-- What is answered: the row, the error. -/
def SplitTo (w : World) (r : Option (List (List UInt8))) (e : Ending) (w' : World) : Prop := ∃ v, Owns w' w.heap.size v (r.getD []) ∧ e = .returned (.tuple #[v, .int .i64 (errOf r)]) ∧ Below w.heap.size w w'

set_option maxHeartbeats 1600000 in
set_option maxRecDepth 100000 in
theorem textSplit (l : List UInt8) (b : UInt8) (hl : l.length ≤ 1099511627776) (w : World) : Calls Tryd.prog 9 #[.string (S l), .int .u8 (b.toNat : Int)] w fun e w' => SplitTo w (splitL b l) e w' := by
  have hb256 := b.toNat_lt
  by_cases hq : b = 34 ∨ b = 92
  · have e : splitL b l = none := by unfold splitL; rw [if_pos hq]
    rw [e]
    rcases hq with rfl | rfl
    · go_enter Tryd.func9, Tryd.ntmps9
      go_wp2
      go_ret2
      exact ⟨_, Owns.nil _ _, rfl, by (repeat (first | (with_reducible exact Below.refl _ _) | (with_reducible assumption) | (with_reducible refine Below.drew ?_) | (focus ((with_reducible refine Below.setCell ?_ ?_ _); rotate_left; (first | omega | (simp <;> omega)))) | (focus ((with_reducible refine Below.alloc ?_ ?_ _); rotate_left; (first | omega | (simp <;> omega)))) | exact Below.refl _ _ | assumption | refine Below.drew ?_ | refine Below.alloc ?_ (by first | omega | (simp <;> omega)) _ | refine Below.setCell ?_ (by first | omega | (simp <;> omega)) _))⟩
    · go_enter Tryd.func9, Tryd.ntmps9
      go_wp2
      go_ret2
      exact ⟨_, Owns.nil _ _, rfl, by (repeat (first | (with_reducible exact Below.refl _ _) | (with_reducible assumption) | (with_reducible refine Below.drew ?_) | (focus ((with_reducible refine Below.setCell ?_ ?_ _); rotate_left; (first | omega | (simp <;> omega)))) | (focus ((with_reducible refine Below.alloc ?_ ?_ _); rotate_left; (first | omega | (simp <;> omega)))) | exact Below.refl _ _ | assumption | refine Below.drew ?_ | refine Below.alloc ?_ (by first | omega | (simp <;> omega)) _ | refine Below.setCell ?_ (by first | omega | (simp <;> omega)) _))⟩
  · obtain ⟨h34, h92⟩ : b ≠ 34 ∧ b ≠ 92 := ⟨fun e => hq (.inl e), fun e => hq (.inr e)⟩
    have t34 : (34 : UInt8).toNat = 34 := rfl
    have t92 : (92 : UInt8).toNat = 92 := rfl
    have hn34 : ((b.toNat : Int) == 34) = false := by simp; exact fun e => h34 (UInt8.toNat.inj (by omega))
    have hn92 : ((b.toNat : Int) == 92) = false := by simp; exact fun e => h92 (UInt8.toNat.inj (by omega))
    have hbt : ∀ c : UInt8, c = b ↔ (c.toNat : Int) = (b.toNat : Int) := fun c => ⟨fun e => by rw [e], fun e => UInt8.toNat.inj (by omega)⟩
    have HB := Lib.hid hbt
    clear hbt t34 t92
    obtain ⟨bi, hbi⟩ : ∃ bi : Int, (b.toNat : Int) = bi := ⟨_, rfl⟩
    have hbi0 : 0 ≤ bi ∧ bi < 256 := by omega
    obtain ⟨hbi0, hbi1⟩ := hbi0
    rw [hbi] at HB hn34 hn92 ⊢
    clear hbi hb256
    go_enter Tryd.func9, Tryd.ntmps9
    go_wp2
    go_loopw [6, 7, 8, 9] (fun ov fv nv iv wr => ∃ dn : List (List UInt8), ∃ f i : Nat, ∃ q : Bool, fv = .int .i64 f ∧ nv = .bool q ∧ iv = .int .i64 i ∧ f ≤ i ∧ i ≤ l.length + 1 ∧ f ≤ l.length ∧ Owns wr w.heap.size ov dn ∧ dn.length ≤ i ∧
        splitL b l = (St b l q f i).map (fun r => dn ++ r.map trim) ∧ Below w.heap.size w wr) (fun _ _ _ iv _ => l.length + 1 - (intOf iv).toNat)
    case atStart =>
      refine ⟨[], 0, 0, false, rfl, rfl, rfl, Nat.le_refl _, Nat.zero_le _, Nat.zero_le _, Owns.nil _ _, Nat.zero_le _, ?_, by (repeat (first | (with_reducible exact Below.refl _ _) | (with_reducible assumption) | (with_reducible refine Below.drew ?_) | (focus ((with_reducible refine Below.setCell ?_ ?_ _); rotate_left; (first | omega | (simp <;> omega)))) | (focus ((with_reducible refine Below.alloc ?_ ?_ _); rotate_left; (first | omega | (simp <;> omega)))) | exact Below.refl _ _ | assumption | refine Below.drew ?_ | refine Below.alloc ?_ (by first | omega | (simp <;> omega)) _ | refine Below.setCell ?_ (by first | omega | (simp <;> omega)) _))⟩
      unfold splitL
      rw [if_neg hq]
      rfl
    case round =>
      obtain ⟨dn, f, i, q, rfl, rfl, rfl, hfi, hil, hfl, hown, hdn, hst, hB⟩ := hrel
      have HO := Lib.hid hown
      have HS := Lib.hid hst
      have hz := hB.size
      clear hown hst
      by_cases hlt : i < l.length
      · have hbk : bAt l i = (l[i].toNat : Int) := bAt_eq hlt
        by_cases h1 : l[i] = 34
        · have h1' : (bAt l i == 34) = true := by rw [hbk, h1]; rfl
          have HN := Lib.hid (show splitL b l = (St b l (!q) f (i + 1)).map (fun r => dn ++ r.map trim) by rw [HS.out, St_quote hlt hfi h1])
          clear hbk h1
          go_wp2
          go_roundw
          case rel => exact ⟨dn, f, i + 1, !q, rfl, rfl, by go_num, by omega, by omega, hfl, HO.out, by omega, HN.out, hB⟩
          case measure => simp [intOf]; omega
        · have h1' : (bAt l i == 34) = false := by rw [hbk]; simp; exact fun e => h1 (UInt8.toNat.inj (by have : (34 : UInt8).toNat = 34 := rfl; omega))
          cases q with
          | true =>
            by_cases h2 : l[i] = 92
            · have h2' : (bAt l i == 92) = true := by rw [hbk, h2]; rfl
              have HN := Lib.hid (show splitL b l = (St b l true f (i + 2)).map (fun r => dn ++ r.map trim) by rw [HS.out, St_esc hlt hfi h2])
              clear hbk h1 h2
              go_wp2
              go_roundw
              case rel => exact ⟨dn, f, i + 2, true, rfl, rfl, by go_num, by omega, by omega, hfl, HO.out, by omega, HN.out, hB⟩
              case measure => simp [intOf]; omega
            · have h2' : (bAt l i == 92) = false := by rw [hbk]; simp; exact fun e => h2 (UInt8.toNat.inj (by have : (92 : UInt8).toNat = 92 := rfl; omega))
              have HN := Lib.hid (show splitL b l = (St b l true f (i + 1)).map (fun r => dn ++ r.map trim) by rw [HS.out, St_plain hlt hfi h1 (fun _ => h2) (fun h => by cases h)])
              clear hbk h1 h2
              go_wp2
              all_goals
                go_roundw
                case rel => exact ⟨dn, f, i + 1, true, rfl, rfl, by go_num, by omega, by omega, hfl, HO.out, by omega, HN.out, hB⟩
                case measure => simp [intOf]; omega
          | false =>
            by_cases h2 : l[i] = b
            · have h2' : bAt l i = bi := by rw [hbk]; exact (HB.out _).1 h2
              have HN := Lib.hid (show splitL b l = (St b l false (i + 1) (i + 1)).map (fun r => (dn ++ [trim ((l.take i).drop f)]) ++ r.map trim) by
                rw [HS.out, St_by hlt h2 h34]
                cases St b l false (i + 1) (i + 1) <;> simp)
              have HT := Lib.hid (fun W => textTrim ((l.take i).drop f) (by simp; omega) W)
              clear hbk h1 h2 h1'
              go_wp2_with (first
                | (go_at_call 15; refine (HT.out _).mono ?_; rintro e w1 ⟨rfl, hb1⟩; have hz1 := hb1.size; have HO1 := Lib.hid (Owns.below HO.out hb1))
                | (at_builtin; refine wp_append_text rfl _ _ rfl _ w.heap.size _ dn (trim ((l.take i).drop f)) HO1.out rfl rfl (by omega) (by omega) ?_; intro v' w2 hown2 hb2; have HO2 := Lib.hid hown2; clear hown2))
              go_roundw
              case rel => exact ⟨dn ++ [trim ((l.take i).drop f)], i + 1, i + 1, false, by go_num, rfl, by go_num, Nat.le_refl _, by omega, by omega, HO2.out, by simp; omega, HN.out, (hB.trans (hb1.mono hz)).trans hb2⟩
              case measure => simp [intOf]; omega
            · have h2' : (bAt l i == bi) = false := by rw [hbk]; simp only [beq_eq_false_iff_ne, ne_eq]; exact fun e => h2 ((HB.out _).2 e)
              have h2'' : ¬ bAt l i = bi := by simpa using h2'
              have HN := Lib.hid (show splitL b l = (St b l false f (i + 1)).map (fun r => dn ++ r.map trim) by rw [HS.out, St_plain hlt hfi h1 (fun h => by cases h) (fun _ => h2)])
              clear hbk h1 h2
              go_wp2
              all_goals
                go_roundw
                case rel => exact ⟨dn, f, i + 1, false, rfl, rfl, by go_num, by omega, by omega, hfl, HO.out, by omega, HN.out, hB⟩
                case measure => simp [intOf]; omega
      · cases q with
        | true =>
          have hno : splitL b l = none := by rw [HS.out, St_in (by omega)]; rfl
          have HNO := Lib.hid hno
          clear hno
          go_wp2
          go_ret2
          exact ⟨_, by rw [HNO.out]; exact Owns.nil _ _, by rw [HNO.out]; rfl, by (repeat (first | (with_reducible exact Below.refl _ _) | (with_reducible assumption) | (with_reducible refine Below.drew ?_) | (focus ((with_reducible refine Below.setCell ?_ ?_ _); rotate_left; (first | omega | (simp <;> omega)))) | (focus ((with_reducible refine Below.alloc ?_ ?_ _); rotate_left; (first | omega | (simp <;> omega)))) | exact Below.refl _ _ | assumption | refine Below.drew ?_ | refine Below.alloc ?_ (by first | omega | (simp <;> omega)) _ | refine Below.setCell ?_ (by first | omega | (simp <;> omega)) _))⟩
        | false =>
          have hyes : splitL b l = some (dn ++ [trim (l.drop f)]) := by rw [HS.out, St_end (by omega)]; rfl
          have HY := Lib.hid hyes
          clear hyes
          have HT := Lib.hid (fun W => textTrim (l.drop f) (by simp; omega) W)
          go_wp2_with (first
            | (go_at_call 15; refine (HT.out _).mono ?_; rintro e w1 ⟨rfl, hb1⟩; have hz1 := hb1.size; have HO1 := Lib.hid (Owns.below HO.out hb1))
            | (at_builtin; refine wp_append_text rfl _ _ rfl _ w.heap.size _ dn (trim (l.drop f)) HO1.out rfl rfl (by omega) (by omega) ?_; intro v' w2 hown2 hb2; have HO2 := Lib.hid hown2; clear hown2))
          go_ret2
          exact ⟨_, by rw [HY.out]; exact HO2.out, by rw [HY.out]; rfl, (hB.trans (hb1.mono hz)).trans hb2⟩
end Go.Proofs.YtmepcdmjgkmakaaDoor
