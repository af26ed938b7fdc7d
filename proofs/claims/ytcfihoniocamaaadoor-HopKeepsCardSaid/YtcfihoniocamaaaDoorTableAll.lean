/- All values of a name: the walk. -/
import Derived.Test.YtcfihoniocamaaaDoorTableKeep
namespace Go.Proofs.YtcfihoniocamaaaDoor
open Go.RowKit Go.Sort Go.Shelf
set_option linter.unusedVariables false

set_option maxHeartbeats 1600000 in
set_option maxRecDepth 100000 in
theorem tableAll (v : Value) (L : List Fld) (m : List UInt8) (hm : m.length ≤ 4611686018427387903) (w : World) (hr : ReadsF w v L) (hs : ∀ f ∈ L, Small f) (hlen : L.length ≤ 1099511627776) :
    Calls Tryd.prog 64 #[v, .string (S m)] w fun e w' => ∃ v', e = .returned v' ∧ Owns w' w.heap.size v' ((namedL L m).map (·.2)) ∧ Below w.heap.size w w' := by
  have HK := Lib.hid (show ∀ W g, Below w.heap.size w W → W.cell? ⟨g, 0, none⟩ = some (.string (S m)) → g < W.heap.size →
      Calls Tryd.prog 75 #[v, isNamed g] W fun e w' => ∃ v', e = .returned v' ∧ OwnsF w' W.heap.size v' (namedL L m) ∧ Below W.heap.size W w' from fun W g hb hc hg =>
    keepFld 94 #[.pointer (some ⟨g, 0, none⟩)] (fun f => sameN f.1 m) (enters_of Tryd.func94 (by kernel_rfl) rfl) v L W (hr.below hb) hlen
      (fun f hf W' hb' => named1 f (hs f hf) g m hm W' (by rw [hb'.cell (p := ⟨g, 0, none⟩) hg]; exact hc) (Nat.lt_of_lt_of_le hg hb'.size)))
  have hnl : (namedL L m).length ≤ 1099511627776 := Nat.le_trans (List.length_filter_le _ _) hlen
  obtain ⟨K, hK⟩ : ∃ K, namedL L m = K := ⟨_, rfl⟩
  rw [hK] at HK hnl ⊢
  have HN := Lib.hid (fun W => named m W)
  clear hr hs hm hlen hK
  go_enter Tryd.func64, Tryd.ntmps64
  go_wp2_with fail
  refine (HN.out _).mono ?_
  rintro e w1 ⟨rfl, hcell, hlt, hb1⟩
  go_wp2_with fail
  refine (HK.out w1 w.heap.size hb1 hcell hlt).mono ?_
  rintro e w2 ⟨v', rfl, hown, hb2⟩
  have hbw := hb1.trans (hb2.mono hb1.size)
  have HBW := Lib.hid hbw
  have hz := hbw.size
  obtain ⟨ao, cap, rfl, hc1, hc2, hc3, hcl⟩ := hown.reads
  have hm : maxLen = 9223372036854775807 := rfl
  rw [hm] at hc2
  have HC := Lib.hid hcl
  clear hown hcl hm hc3 hbw hb1 hb2 hcell
  go_wp2
  go_loopw [5, 13] (fun ov iv wr => ∃ i : Nat, iv = .int .i64 i ∧ i ≤ K.length ∧ Owns wr w2.heap.size ov ((K.take i).map (·.2)) ∧ Below w2.heap.size w2 wr) (fun _ iv _ => K.length - (intOf iv).toNat)
  case atStart => exact ⟨0, rfl, Nat.zero_le _, Owns.nil _ _, by (repeat (first | (with_reducible exact Below.refl _ _) | (with_reducible assumption) | (with_reducible refine Below.drew ?_) | (focus ((with_reducible refine Below.setCell ?_ ?_ _); rotate_left; (first | omega | (simp <;> omega)))) | (focus ((with_reducible refine Below.alloc ?_ ?_ _); rotate_left; (first | omega | (simp <;> omega)))) | exact Below.refl _ _ | assumption | refine Below.drew ?_ | refine Below.alloc ?_ (by first | omega | (simp <;> omega)) _ | refine Below.setCell ?_ (by first | omega | (simp <;> omega)) _))⟩
  case round =>
    obtain ⟨i, rfl, hi, hown, hB⟩ := hrel
    have HO := Lib.hid hown
    have hzr := hB.size
    clear hown
    by_cases hlt : i < K.length
    · obtain ⟨b, off, rfl, hb, hcl⟩ := HC.out (by omega)
      obtain ⟨e1, e2⟩ := hcl i hlt
      rw [← hB.cell (p := ⟨b, off + i * 2, none⟩) hb] at e1
      rw [← hB.cell (p := ⟨b, off + i * 2 + 1, none⟩) hb] at e2
      have HT := Lib.hid (show (K.take (i + 1)).map (·.2) = (K.take i).map (·.2) ++ [K[i].2] from by rw [List.take_succ_eq_append_getElem hlt, List.map_append]; rfl)
      obtain ⟨⟨n, x⟩, hf⟩ : ∃ f, K[i] = f := ⟨_, rfl⟩
      rw [hf] at e1 e2 HT
      simp only at e1 e2 HT
      clear hcl hf
      go_wp2_with (at_builtin; refine wp_append_text' rfl _ _ rfl _ w2.heap.size _ _ x (Owns.below HO.out (by (repeat (first | (with_reducible exact Below.refl _ _) | (with_reducible assumption) | (with_reducible refine Below.drew ?_) | (focus ((with_reducible refine Below.setCell ?_ ?_ _); rotate_left; (first | omega | (simp <;> omega)))) | (focus ((with_reducible refine Below.alloc ?_ ?_ _); rotate_left; (first | omega | (simp <;> omega)))) | exact Below.refl _ _ | assumption | refine Below.drew ?_ | refine Below.alloc ?_ (by first | omega | (simp <;> omega)) _ | refine Below.setCell ?_ (by first | omega | (simp <;> omega)) _)))) rfl _ rfl (by simp) (by (first | omega | (simp <;> omega))) (by (first | omega | (simp <;> omega))) ?_; intro v4 w4 hown4 hb4; have HO4 := Lib.hid hown4; have hbw4 := Below.trans (show Below w2.heap.size w2 _ by (repeat (first | (with_reducible exact Below.refl _ _) | (with_reducible assumption) | (with_reducible refine Below.drew ?_) | (focus ((with_reducible refine Below.setCell ?_ ?_ _); rotate_left; (first | omega | (simp <;> omega)))) | (focus ((with_reducible refine Below.alloc ?_ ?_ _); rotate_left; (first | omega | (simp <;> omega)))) | exact Below.refl _ _ | assumption | refine Below.drew ?_ | refine Below.alloc ?_ (by first | omega | (simp <;> omega)) _ | refine Below.setCell ?_ (by first | omega | (simp <;> omega)) _))) hb4; clear hown4)
      go_roundw
      case rel => exact ⟨i + 1, by go_num, by omega, by rw [HT.out]; exact HO4.out, hbw4⟩
      case measure => simp [intOf]; omega
    · obtain rfl : i = K.length := by omega
      have h := HO.out
      rw [List.take_length] at h
      have HO2 := Lib.hid h
      clear h
      go_wp2
      go_ret
      refine ⟨_, rfl, ?_, HBW.out.trans (hB.mono hz)⟩
      obtain ⟨h1, h2⟩ := HO2.out
      refine ⟨h1, ?_⟩
      rcases h2 with h2 | ⟨g, cap, cur, h3, h4, h5⟩
      · exact .inl h2
      · exact .inr ⟨g, cap, cur, h3, Nat.le_trans hz h4, h5⟩
end Go.Proofs.YtcfihoniocamaaaDoor
