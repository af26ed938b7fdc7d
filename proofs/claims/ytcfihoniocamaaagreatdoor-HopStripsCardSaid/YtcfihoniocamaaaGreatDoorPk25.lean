/- table.Set: the walk. -/
import Derived.Test.YtcfihoniocamaaaGreatDoorPk24
import Derived.Test.YtcfihoniocamaaaGreatDoorPk12
namespace Go.Proofs.YtcfihoniocamaaaGreatDoor
open Go.RowKit Go.Sort Go.Shelf
set_option linter.unusedVariables false

/-- Where a name stands first, or the row's end without it. -/
def setAt (L : List Fld) (m : List UInt8) : Nat := match L.findIdx? (fun f => sameN f.1 m) with | some i => i | none => (removeL L m).length
def setE (L : List Fld) (f : Fld) : Int := if rightL L = true then addE (removeL L f.1) f else 1
def setL (L : List Fld) (f : Fld) : List Fld := if setE L f = 0 then (removeL L f.1).take (setAt L f.1) ++ f :: (removeL L f.1).drop (setAt L f.1) else []

theorem IdxIs.findIdx {p : Fld → Bool} {L : List Fld} {r : Int} (h : IdxIs p L r) : (r = -1 ∧ L.findIdx? p = none) ∨ ∃ i : Nat, r = i ∧ i < L.length ∧ L.findIdx? p = some i ∧ i ≤ (L.filter fun f => !p f).length := by
  rcases h with ⟨rfl, h⟩ | ⟨i, rfl, hi, h1, h2⟩
  · refine .inl ⟨rfl, List.findIdx?_eq_none_iff.2 fun f hf => ?_⟩
    obtain ⟨j, hj, rfl⟩ := List.getElem_of_mem hf
    exact h j hj
  · refine .inr ⟨i, rfl, hi, ?_, ?_⟩
    · rw [List.findIdx?_eq_some_iff_getElem]
      exact ⟨hi, h1, fun j hj => by simp [h2 j (by omega) hj]⟩
    · have e : (L.take i).filter (fun f => !p f) = L.take i := by
        rw [List.filter_eq_self]
        intro f hf
        obtain ⟨j, hj, rfl⟩ := List.getElem_of_mem hf
        have hj2 : j < i ∧ j < L.length := by simp at hj; omega
        rw [List.getElem_take]
        simp [h2 j hj2.2 hj2.1]
      have hle := (List.Sublist.filter (fun f => !p f) (List.take_sublist i L)).length_le
      rw [e] at hle
      simp at hle
      simp
      omega

theorem right_remove {L : List Fld} (m : List UInt8) (h : rightL L = true) : rightL (removeL L m) = true := by
  unfold rightL at *
  simp only [Bool.and_eq_true, decide_eq_true_eq, List.all_eq_true] at *
  exact ⟨Nat.le_trans (List.length_filter_le _ _) h.1, fun f hf => h.2 f (List.mem_filter.1 hf).1⟩

set_option maxHeartbeats 6400000 in
set_option maxRecDepth 100000 in
theorem tableSet (v : Value) (L : List Fld) (n x : List UInt8) (w : World) (hr : ReadsF w v L) (hs : ∀ f ∈ L, Small f) (hf : Small (n, x)) (hlen : L.length ≤ 100) :
    Calls Tryz.prog 28 #[v, .string (S n), .string (S x)] w fun e w' => ∃ v', e = .returned (.tuple #[v', .int .i64 (setE L (n, x))]) ∧ ReadsF w' v' (setL L (n, x)) ∧ Below w.heap.size w w' := by
  have HR := Lib.hid hr
  have C1 := Lib.hid (tableRight v L w hr hs)
  have HS := Lib.hid hs
  have HF := Lib.hid hf
  have hn : n.length ≤ 4611686018427387903 := hf.1
  have HE := Lib.hid (show setE L (n, x) = if rightL L = true then addE (removeL L n) (n, x) else 1 from rfl)
  have HL := Lib.hid (show setL L (n, x) = if setE L (n, x) = 0 then (removeL L n).take (setAt L n) ++ (n, x) :: (removeL L n).drop (setAt L n) else [] from rfl)
  have hRs : ∀ f ∈ removeL L n, Small f := fun f hf => hs f (List.mem_filter.1 hf).1
  have hRl : (removeL L n).length ≤ 100 := Nat.le_trans (List.length_filter_le _ _) hlen
  have HRS := Lib.hid hRs
  clear hr hs hf hRs
  cases hright : rightL L with
  | false =>
    have e1 : setE L (n, x) = 1 := by rw [HE.out, hright]; rfl
    have e2 : setL L (n, x) = [] := by rw [HL.out, e1]; rfl
    rw [hright] at C1
    have E1 := Lib.hid e1
    have E2 := Lib.hid e2
    clear e1 e2
    go_enter Tryz.func28, Tryz.ntmps28
    go_wp2_with (go_at_call 32; refine C1.out.mono ?_; rintro e w1 ⟨rfl, hb⟩)
    go_ret2
    exact ⟨_, by rw [E1.out]; rfl, by rw [E2.out]; exact ReadsF.nil _, hb⟩
  | true =>
    have e1 : setE L (n, x) = addE (removeL L n) (n, x) := by rw [HE.out, hright]; rfl
    rw [hright] at C1
    have E1 := Lib.hid e1
    have HN := Lib.hid (fun W => named n W)
    have HIX := Lib.hid (fun W (hb : Below w.heap.size w W) g hc hg => idxNamed v L g n hn W (HR.out.below hb) HS.out hc hg)
    unfold isNamed at HN HIX
    clear e1
    go_enter Tryz.func28, Tryz.ntmps28
    go_wp2_with fail
    refine C1.out.mono ?_
    rintro e w1 ⟨rfl, hb1⟩
    go_wp2_with fail
    refine (HN.out _).mono ?_
    rintro e w2 ⟨rfl, hcell, hlt, hb2⟩
    have hB2 := hb1.trans (hb2.mono hb1.size)
    go_wp2_with fail
    refine (HIX.out w2 hB2 w1.heap.size hcell hlt).mono ?_
    rintro e w3 ⟨r, rfl, hr, hb3⟩
    have hB3 := hB2.trans (hb3.mono hB2.size)
    have HRI := Lib.hid hr.findIdx
    clear hr hcell
    go_wp2_with fail
    refine (tableRemove v L n hn _ (HR.out.below hB3) HS.out (by omega)).mono ?_
    rintro e w4 ⟨v1, rfl, ho4, hb4⟩
    have hB4 := hB3.trans (hb4.mono hB3.size)
    have R4 := ho4.reads
    go_wp2_with fail
    refine (tableAdd v1 (removeL L n) n x _ R4 HRS.out HF.out).mono ?_
    rintro e w5 ⟨v2, ho5, rfl, hb5⟩
    have hB5 := hB4.trans (hb5.mono hB4.size)
    have HO5 := Lib.hid ho5
    clear ho4 R4 ho5 hb1 hb2 hb3 hb4 hb5
    by_cases hz : addE (removeL L n) (n, x) = 0
    · have e2 : addL (removeL L n) (n, x) = removeL L n ++ [(n, x)] := by unfold addL; rw [if_pos hz]
      have e3 : setE L (n, x) = 0 := by rw [E1.out, hz]
      have e4 : setL L (n, x) = (removeL L n).take (setAt L n) ++ (n, x) :: (removeL L n).drop (setAt L n) := by rw [HL.out, if_pos e3]
      rw [e2] at HO5
      rw [hz]
      have E3 := Lib.hid e3
      have E4 := Lib.hid e4
      rcases HRI.out with ⟨rfl, hf⟩ | ⟨i, rfl, hi, hf, hiR⟩
      · have hat : setAt L n = (removeL L n).length := by unfold setAt; rw [hf]
        have e5 : setL L (n, x) = removeL L n ++ [(n, x)] := by rw [e4, hat, List.take_length, List.drop_length]
        have E5 := Lib.hid e5
        clear e2 e3 e4 e5 hat hf hz
        go_wp2
        go_ret2
        exact ⟨_, by rw [E3.out]; rfl, by rw [E5.out]; exact HO5.out.reads, hB5⟩
      · have hat : setAt L n = i := by unfold setAt; rw [hf]
        rw [hat] at E4
        obtain ⟨R, hR⟩ : ∃ R, removeL L n = R := ⟨_, rfl⟩
        have hiR' : i ≤ R.length := by rw [← hR]; exact hiR
        rw [hR] at HO5 E4 hRl
        obtain ⟨g2, cap2, rfl, k1, k2, k3, k4, k5⟩ := HO5.out.open (by simp)
        have hmx : maxLen = 9223372036854775807 := rfl
        rw [hmx] at k2
        have hl1 : (R ++ [(n, x)]).length = R.length + 1 := by simp
        obtain ⟨⟨c1, c2⟩, _⟩ := k5 R.length (by omega)
        simp only [List.getElem_append_right (Nat.le_refl _), Nat.sub_self, List.getElem_cons_zero] at c1 c2
        have RT := HO5.out.reads.take (q := R.length) (by omega)
        rw [List.take_left'  rfl] at RT
        rw [hl1] at k1 ⊢
        have HRT := Lib.hid RT
        have hsz5 := hB5.size
        clear e2 e3 e4 hat hf hz hiR k5 RT hR hl1 hmx
        have HCL := Lib.hid (fun W (hb : Below w5.heap.size w5 W) => clone (.slice (some ⟨g2, 0, none⟩) R.length cap2) R W (HRT.out.below hb) (by omega) (by simp))
        go_wp2_with fail
        go_region_with (first
          | (go_at_call 57; refine Calls.mono (HCL.out _ (by (repeat (first | (with_reducible exact Below.refl _ _) | (with_reducible assumption) | (with_reducible refine Below.drew ?_) | (focus ((with_reducible refine Below.setCell ?_ ?_ _); rotate_left; (first | omega | (simp <;> omega)))) | (focus ((with_reducible refine Below.alloc ?_ ?_ _); rotate_left; (first | omega | (simp <;> omega)))) | exact Below.refl _ _ | assumption | refine Below.drew ?_ | refine Below.alloc ?_ (by first | omega | (simp <;> omega)) _ | refine Below.setCell ?_ (by first | omega | (simp <;> omega)) _)))) ?_; rintro e w6 ⟨sv, rfl, ho6, hb6⟩; have hd1 := hb6.cell (p := ⟨g2, R.length * 2, none⟩) (show g2 < _ by (first | omega | (simp <;> omega))); have hd2 := hb6.cell (p := ⟨g2, R.length * 2 + 1, none⟩) (show g2 < _ by (first | omega | (simp <;> omega))); have hz6 := hb6.size; (try simp at hz6); have hbw6 := Below.trans (show Below w5.heap.size w5 _ by (repeat (first | (with_reducible exact Below.refl _ _) | (with_reducible assumption) | (with_reducible refine Below.drew ?_) | (focus ((with_reducible refine Below.setCell ?_ ?_ _); rotate_left; (first | omega | (simp <;> omega)))) | (focus ((with_reducible refine Below.alloc ?_ ?_ _); rotate_left; (first | omega | (simp <;> omega)))) | exact Below.refl _ _ | assumption | refine Below.drew ?_ | refine Below.alloc ?_ (by first | omega | (simp <;> omega)) _ | refine Below.setCell ?_ (by first | omega | (simp <;> omega)) _))) (hb6.mono (by (first | omega | (simp <;> omega)))))
          | (go_at_call 56; refine Calls.mono (insertF w5.heap.size sv R i _ (n, x) _ (OwnsF.below (ho6.base (by (first | omega | (simp <;> omega)))) (by (repeat (first | (with_reducible exact Below.refl _ _) | (with_reducible assumption) | (with_reducible refine Below.drew ?_) | (focus ((with_reducible refine Below.setCell ?_ ?_ _); rotate_left; (first | omega | (simp <;> omega)))) | (focus ((with_reducible refine Below.alloc ?_ ?_ _); rotate_left; (first | omega | (simp <;> omega)))) | exact Below.refl _ _ | assumption | refine Below.drew ?_ | refine Below.alloc ?_ (by first | omega | (simp <;> omega)) _ | refine Below.setCell ?_ (by first | omega | (simp <;> omega)) _)))) hiR' (by first | (show (Array.push _ _)[_]? = _; exact Array.getElem?_push_size) | (refine (hb6.block _ (by (first | omega | (simp <;> omega)))).trans ?_; show (Array.push _ _)[_]? = _; exact Array.getElem?_push_size)) (fun e => by have := World.ownsRow.lt ho6 _ e; first | omega | (simp at this; done) | (simp at this; omega)) (by (first | omega | (simp <;> omega))) (by omega)) ?_; rintro e w7 ⟨v7, rfl, hr7, hb7⟩; have HR7 := Lib.hid hr7; have hbw7 := Below.trans (show Below w5.heap.size w5 _ by (repeat (first | (with_reducible exact Below.refl _ _) | (with_reducible assumption) | (with_reducible refine Below.drew ?_) | (focus ((with_reducible refine Below.setCell ?_ ?_ _); rotate_left; (first | omega | (simp <;> omega)))) | (focus ((with_reducible refine Below.alloc ?_ ?_ _); rotate_left; (first | omega | (simp <;> omega)))) | exact Below.refl _ _ | assumption | refine Below.drew ?_ | refine Below.alloc ?_ (by first | omega | (simp <;> omega)) _ | refine Below.setCell ?_ (by first | omega | (simp <;> omega)) _))) hb7; clear hr7))
        all_goals
          go_wp2
          go_ret2
          exact ⟨_, by rw [E3.out]; rfl, by rw [E4.out]; exact HR7.out, hB5.trans (hbw7.mono hsz5)⟩
    · have e2 : addL (removeL L n) (n, x) = [] := by unfold addL; rw [if_neg hz]
      have e3 : setL L (n, x) = [] := by rw [HL.out, if_neg (by rw [E1.out]; exact hz)]
      have E3 := Lib.hid e3
      rw [e2] at HO5
      have hz' : (addE (removeL L n) (n, x) != 0) = true := by simpa using hz
      obtain ⟨ae, hae⟩ : ∃ ae, addE (removeL L n) (n, x) = ae := ⟨_, rfl⟩
      rw [hae] at hz' ⊢
      have HAE := Lib.hid hae
      clear e2 e3 hz hae
      go_wp2
      go_ret2
      exact ⟨_, by rw [E1.out, HAE.out]; rfl, by rw [E3.out]; exact HO5.out.reads, hB5⟩
end Go.Proofs.YtcfihoniocamaaaGreatDoor
