/- The names that are gone: the walk of hop.gone. -/
import Derived.Test.YtcfihoniocamaaaDoorHopWalk
import Derived.Test.YtcfihoniocamaaaDoorTextRow2
namespace Go.Proofs.YtcfihoniocamaaaDoor
open Go.RowKit Go.Sort Go.Shelf
set_option linter.unusedVariables false

theorem SetIs.same {W w' : World} {b n : Nat} {L : List (List UInt8)} (h : SetIs W b n L) (hb : w'.heap[b]? = W.heap[b]?) : SetIs w' b n L := by
  obtain ⟨D, ⟨es, clock, h0, h1⟩, h2, h3⟩ := h
  exact ⟨D, ⟨es, clock, by rw [hb]; exact h0, h1⟩, h2, h3⟩
theorem Below.map_grown {W w' : World} {b B : Nat} (hg : W.grownBy w' (some b)) (hb : B ≤ b) (hB : B ≤ W.heap.size) : Below B W w' :=
  Below.grown (Below.refl _ _) hg hB (fun k hk => by cases hk; exact hb)
theorem fixed_cells (W : World) : ∀ j (h : j < fixed8.length), (W.alloc (.cells #[.string (S [99, 111, 110, 110, 101, 99, 116, 105, 111, 110]), .string (S [107, 101, 101, 112, 45, 97, 108, 105, 118, 101]), .string (S [112, 114, 111, 120, 121, 45, 99, 111, 110, 110, 101, 99, 116, 105, 111, 110]), .string (S [116, 101]), .string (S [116, 114, 97, 105, 108, 101, 114]), .string (S [116, 114, 97, 110, 115, 102, 101, 114, 45, 101, 110, 99, 111, 100, 105, 110, 103]), .string (S [117, 112, 103, 114, 97, 100, 101]), .string (S [99, 111, 110, 116, 101, 110, 116, 45, 108, 101, 110, 103, 116, 104])] 9)).cell? ⟨W.heap.size, j, none⟩ = some (.string (S fixed8[j])) := by
  intro j h
  have h8 : j < 8 := h
  rw [World.cell?_alloc_new]
  match j, h8 with
  | 0, _ | 1, _ | 2, _ | 3, _ | 4, _ | 5, _ | 6, _ | 7, _ => rfl

set_option maxHeartbeats 1600000 in
set_option maxRecDepth 100000 in
theorem hopGone (v : Value) (L : List Fld) (w : World) (hr : ReadsF w v L) (hL : HopRow L) (hM : ∃ m, w.cell? ⟨0, 0, none⟩ = some (.int .i64 m)) :
    Calls Tryd.prog 26 #[v] w fun e w' => ∃ n, e = .returned (.map (some w.heap.size)) ∧ SetIs w' w.heap.size n (hopWords L ++ fixed8) ∧ Below w.heap.size w w' := by
  have hb0 : Below w.heap.size w (w.alloc (.map #[] 0)) := (Below.refl _ _).alloc (Nat.le_refl _) _
  have S0 := Lib.hid (SetIs.made w)
  have WO := Lib.hid (hopWords_c v L (w.alloc (.map #[] 0)) (hr.below hb0) hL (by obtain ⟨m, hm⟩ := hM; exact ⟨m, (hb0.cell (p := ⟨0, 0, none⟩) (block_lt_of_cell hm)).trans hm⟩))
  have hwl := words_len (joinedL L connL)
  have hwe := words_each (joinedL L connL)
  have hjl := hL.joined connL
  have hWd : hopWords L = wordsOf (joinedL L connL) := rfl
  rw [← hWd] at hwl hwe
  obtain ⟨A, hA⟩ : ∃ A, hopWords L = A := ⟨_, rfl⟩
  rw [hA] at WO hwl hwe ⊢
  have hfe : ∀ x ∈ A ++ fixed8, x.length ≤ 100000 := fun x hx => by
    rcases List.mem_append.1 hx with h | h
    · have := hwe x h; omega
    · have : ∀ x ∈ fixed8, x.length ≤ 20 := by decide
      have := this x h; omega
  have hfl : (A ++ fixed8).length ≤ 70000 := by rw [List.length_append]; have : fixed8.length = 8 := rfl; omega
  obtain ⟨all, hall⟩ : ∃ all, A ++ fixed8 = all := ⟨_, rfl⟩
  rw [hall] at hfe hfl ⊢
  have hfl2 : A.length + fixed8.length ≤ 70000 := by rw [← List.length_append, hall]; exact hfl
  have HALL := Lib.hid hall
  have hall1 : (all.length : Int) ≤ 70000 := by omega
  have HFE := Lib.hid hfe
  have FC := Lib.hid (fun W => fixed_cells W)
  have hmm := @run_makeMap Tryd.prog
  clear hr hL hM hwe hfe hA hWd hjl hall
  go_enter Tryd.func26, Tryd.ntmps26
  go_wp2_with (first
    | (go_at_call 33; refine Calls.mono WO.out ?_; rintro e w1 ⟨v1, rfl, ho1, hb1⟩; (rw [World.size_alloc] at ho1); have HO1 := Lib.hid ho1; have HB1 := Lib.hid hb1; have hz1 := hb1.size; (try simp at hz1); clear ho1 hb1)
    | (at_builtin; refine wp_append_texts rfl _ _ rfl _ (w.heap.size + 1) _ A fixed8 (HO1.out.below (show Below w1.heap.size w1 _ from (Below.refl _ _).alloc (Nat.le_refl _) _)) rfl w1.heap.size _ rfl (FC.out w1) (by omega) (by (first | omega | (simp <;> omega))) ?_; intro v2 w2 hown2 hb2 hg2; (rw [HALL.out] at hown2); have HO2 := Lib.hid hown2; have HB2 := Lib.hid (Below.trans (show Below (w.heap.size + 1) w1 _ from (Below.refl _ _).alloc (by omega) _) hb2); obtain ⟨ao2, cap2, h2, hc2, hm2, _, _⟩ := hown2.shape; subst h2; clear hown2 hb2 hg2)
    | fail)
  have hz2 := HB2.out.size
  have S2 := Lib.hid (((S0.out.below (show Below (w.alloc (.map #[] 0)).heap.size _ w1 by simpa using HB1.out)).same (w' := w2) (HB2.out.block w.heap.size (by omega))))
  have HBW := Lib.hid (hb0.trans (Below.trans (show Below w.heap.size (w.alloc (.map #[] 0)) w1 from HB1.out.mono (by simp)) (HB2.out.mono (by omega))))
  have hmx : maxLen = 9223372036854775807 := rfl
  rw [hmx] at hm2
  go_wp2_with fail
  go_loopw [12] (fun iv wr => ∃ k : Nat, iv = .int .i64 k ∧ k ≤ all.length ∧ SetIs wr w.heap.size k (all.take k) ∧ Owns wr (w.heap.size + 1) (.slice ao2 all.length cap2) all ∧ Below w.heap.size w wr) (fun iv _ => all.length - (intOf iv).toNat)
  case atStart => exact ⟨0, rfl, Nat.zero_le _, S2.out, HO2.out, HBW.out⟩
  case round =>
    obtain ⟨k, rfl, hk, hset, hown, hB⟩ := hrel
    have HS := Lib.hid hset
    have HO := Lib.hid hown
    have HB := Lib.hid hB
    clear hset hown hB
    by_cases hkl : k < all.length
    · obtain ⟨g, cap, h1, _, _, hg, hcells⟩ := HO.out.at k hkl
      injection h1 with h2 h3 h4
      subst h2
      have e1 := hcells k hkl
      have hxl := HFE.out _ (List.getElem_mem hkl)
      have htk := List.take_succ_eq_append_getElem hkl
      obtain ⟨x, hx⟩ : ∃ x, all[k] = x := ⟨_, rfl⟩
      rw [hx] at e1 hxl htk
      have HT := Lib.hid htk
      have hgb := (World.ownsRow.lt HO.out g rfl).1
      clear hcells hx htk h4
      go_wp2_with (at_mapUpdate; refine wp_set_add rfl _ _ _ rfl _ w.heap.size k (all.take k) HS.out (by omega) x (by omega) rfl rfl rfl ?_; intro w5 hs5 hg5; have HS5 := Lib.hid hs5; have HB5 := Lib.hid (Below.map_grown (B := w.heap.size) hg5 (Nat.le_refl _) (by have := HB.out.size; omega)); have HO5 := Lib.hid (World.ownsRow.kept HO.out hg5 (.inr (by simp [Value.ownBlock]; omega))); clear hs5 hg5)
      go_roundw
      case rel => exact ⟨k + 1, by go_num, by omega, by rw [HT.out]; exact HS5.out, HO5.out, HB.out.trans HB5.out⟩
      case measure => simp [intOf]; omega
    · obtain rfl : k = all.length := by omega
      have hs := HS.out
      rw [List.take_length] at hs
      have HSS := Lib.hid hs
      clear hs
      go_wp2
      go_ret
      exact ⟨_, rfl, HSS.out, HB.out⟩
end Go.Proofs.YtcfihoniocamaaaDoor
