/- The law NumberOdd: its walk. -/
import Derived.Test.YtbnfnbedjgmeiaaDoorNumBack
namespace Go.Proofs.YtbnfnbedjgmeiaaDoor
open Go.RowKit Go.Sort Go.Shelf
set_option linter.unusedVariables false

theorem no45 {l : List UInt8} (h : badN decV 10 l = false) : (45 : UInt8) ∉ l := by
  intro hm
  unfold badN at h
  rw [List.any_eq_false] at h
  exact h 45 hm (by decide)
theorem odd_read {s : List UInt8} {c : UInt8} {k : Nat} (hs : badN decV 10 s = false) (hc : 10 ≤ decV c.toNat) (h45 : c ≠ 45) :
    readN decV 10 (s.take k ++ [c] ++ s.drop k) = (0, 10) ∧ signedN (s.take k ++ [c] ++ s.drop k) = (0, 10) := by
  have hbad : badN decV 10 (s.take k ++ [c] ++ s.drop k) = true := by
    unfold badN
    rw [List.any_append, List.any_append]
    simp [hc]
  have e1 := readN_bad hbad
  refine ⟨e1, ?_⟩
  have hp : Lib.hasPrefix (s.take k ++ [c] ++ s.drop k) [45] = false := by
    cases hx : Lib.hasPrefix (s.take k ++ [c] ++ s.drop k) [45] with
    | false => rfl
    | true =>
      exfalso
      have hm : (45 : UInt8) ∈ s.take k ++ [c] ++ s.drop k := by
        unfold Lib.hasPrefix at hx
        obtain ⟨t, ht⟩ := List.isPrefixOf_iff_prefix.1 hx
        rw [← ht]; simp
      have h1 := no45 hs
      simp only [List.mem_append, List.mem_singleton] at hm
      rcases hm with (hm | hm) | hm
      · exact h1 (List.mem_of_mem_take hm)
      · exact h45 hm.symm
      · exact h1 (List.mem_of_mem_drop hm)
  unfold signedN
  rw [if_neg (by rw [hp]; simp), e1]
  rfl

set_option maxHeartbeats 2000000 in
set_option maxRecDepth 100000 in
theorem numberOdd (n : Nat) (hn : n < 18446744073709551616) (at' : Int) (c : Nat) (hc : c < 256) (w : World) (hL : Laid w) :
    Calls Tryd.prog 6 #[.int .u64 n, .int .i64 at', .int .u8 c] w fun e w' => e = .returned (.bool true) ∧ Below w.heap.size w w' := by
  have hdl : (Lib.decDigits n).length ≤ 20 := by rw [Lib.decDigits_length]; exact Lib.nDigits_le20 n hn
  have hgd := (good_dec n).2.1
  obtain ⟨s, hs⟩ : ∃ s, Lib.decDigits n = s := ⟨_, rfl⟩
  have C7 := Lib.hid (via_alive hL); have C8 := Lib.hid (via_dec hL hn)
  clear hL
  rw [hs] at hdl hgd C8
  obtain ⟨k, hk⟩ : ∃ k : Nat, min (max at' 0) (s.length : Int) = (k : Int) := ⟨(min (max at' 0) (s.length : Int)).toNat, by omega⟩
  have hks : k ≤ s.length := by omega
  have hb := Below.refl w.heap.size w
  by_cases hdig : 48 ≤ c ∧ c ≤ 57
  · obtain ⟨h1, h2⟩ := hdig
    clear hs
    go_enter Tryd.func6, Tryd.ntmps6
    go_wp2_with (first
      | (go_at_call 10; refine (C8.out _ (by assumption)).mono ?_; rintro e w' ⟨rfl, hb⟩)
      | (go_at_call 9; refine (C7.out _ (by assumption)).mono ?_; rintro e w' ⟨rfl, hb⟩))
    go_ret
    exact ⟨rfl, by assumption⟩
  by_cases h45 : c = 45
  · subst h45
    clear hs
    go_enter Tryd.func6, Tryd.ntmps6
    go_wp2_with (first
      | (go_at_call 10; refine (C8.out _ (by assumption)).mono ?_; rintro e w' ⟨rfl, hb⟩)
      | (go_at_call 9; refine (C7.out _ (by assumption)).mono ?_; rintro e w' ⟨rfl, hb⟩))
    go_ret
    exact ⟨rfl, by assumption⟩
  obtain ⟨b, hbc⟩ : ∃ b : UInt8, b.toNat = c := ⟨UInt8.ofNat c, by simp; omega⟩
  have hodd := odd_read (k := k) hgd (c := b) (by rw [hbc]; unfold decV; split <;> omega) (by intro e; subst e; exact h45 hbc.symm)
  obtain ⟨t, ht⟩ : ∃ t, s.take k ++ [b] ++ s.drop k = t := ⟨_, rfl⟩
  have htl : t.length ≤ 21 := by rw [← ht]; simp; omega
  rw [ht] at hodd
  have C1 := Lib.hid (fun l (hl : l = t) => (show Via w 11 #[.string (S l)] (.tuple #[.int .u64 0, .int .i64 10]) from by
    subst hl
    have h := via_same (w := w) fun W => readDec l (by omega) W
    rw [hodd.1] at h
    exact h))
  have C2 := Lib.hid (fun l (hl : l = t) => (show Via w 13 #[.string (S l)] (.tuple #[.int .i64 0, .int .i64 10]) from by
    subst hl
    have h := via_same (w := w) fun W => signed l (by omega) W
    rw [hodd.2] at h
    exact h))
  have hcv : ∀ (W : World) (bb : Nat), W.cell? ⟨bb, 0, none⟩ = some (.int .u8 c) → (convert 24 9 (.slice (some ⟨bb, 0, none⟩) 1 1)).run Tryd.prog W = .ok (.string (S [b])) W := fun W bb h => by
    have := run_convert_bytes_back (P := Tryd.prog) W 24 9 5 ⟨bb, 0, none⟩ 1 [b] Tryd.underlying24 Tryd.underlying5 Tryd.underlying9 (fun j hj => by
      have : j = 0 := by simp at hj; omega
      subst this
      rw [Lib.add_plain]; simp [h, hbc])
    exact this
  have HT := Lib.hid ht
  have hne : ((c : Int) == 45) = false := by simp; omega
  have h57 : c < 48 ∨ 57 < c := by omega
  clear hs hodd ht hgd
  rcases h57 with h57 | h57
  · go_enter Tryd.func6, Tryd.ntmps6
    go_wp2_with (first
      | (go_at_call 10; refine (C8.out _ (by assumption)).mono ?_; rintro e w' ⟨rfl, hb⟩; have hz := hb.size))
    go_wp2_with go_region
    all_goals go_wp2_with (first
      | (go_at_call 11; refine (C1.out _ (by rw [← HT.out]; simp) _ (by (repeat (first | exact Below.refl _ _ | assumption | refine Below.drew ?_ | refine Below.alloc ?_ (by first | omega | (simp <;> omega)) _ | refine Below.setCell ?_ (by first | omega | (simp <;> omega)) _)))).mono ?_; rintro e w' ⟨rfl, hb⟩)
      | (go_at_call 13; refine (C2.out _ (by rw [← HT.out]; simp) _ (by (repeat (first | exact Below.refl _ _ | assumption | refine Below.drew ?_ | refine Below.alloc ?_ (by first | omega | (simp <;> omega)) _ | refine Below.setCell ?_ (by first | omega | (simp <;> omega)) _)))).mono ?_; rintro e w' ⟨rfl, hb⟩)
      | (go_at_call 9; refine (C7.out _ (by assumption)).mono ?_; rintro e w' ⟨rfl, hb⟩))
    all_goals go_ret
    all_goals exact ⟨rfl, by assumption⟩
  · go_enter Tryd.func6, Tryd.ntmps6
    go_wp2_with (first
      | (go_at_call 10; refine (C8.out _ (by assumption)).mono ?_; rintro e w' ⟨rfl, hb⟩; have hz := hb.size))
    go_wp2_with go_region
    all_goals go_wp2_with (first
      | (go_at_call 11; refine (C1.out _ (by rw [← HT.out]; simp) _ (by (repeat (first | exact Below.refl _ _ | assumption | refine Below.drew ?_ | refine Below.alloc ?_ (by first | omega | (simp <;> omega)) _ | refine Below.setCell ?_ (by first | omega | (simp <;> omega)) _)))).mono ?_; rintro e w' ⟨rfl, hb⟩)
      | (go_at_call 13; refine (C2.out _ (by rw [← HT.out]; simp) _ (by (repeat (first | exact Below.refl _ _ | assumption | refine Below.drew ?_ | refine Below.alloc ?_ (by first | omega | (simp <;> omega)) _ | refine Below.setCell ?_ (by first | omega | (simp <;> omega)) _)))).mono ?_; rintro e w' ⟨rfl, hb⟩)
      | (go_at_call 9; refine (C7.out _ (by assumption)).mono ?_; rintro e w' ⟨rfl, hb⟩))
    all_goals go_ret
    all_goals exact ⟨rfl, by assumption⟩

theorem u8_nat {n : Int} (h : (Lit.int .u8 n).wf = true) : ∃ m : Nat, n = m ∧ m < 256 := by
  have : 0 ≤ n ∧ n ≤ 255 := by simpa [Lit.wf, show IntKind.u8.min = 0 from rfl, show IntKind.u8.max = 255 from rfl] using h
  exact ⟨n.toNat, by omega, by omega⟩
theorem numberOdd_any (n at' c : Int) (w : World) (h0 : (Lit.int .u64 n).wf = true) (_h1 : (Lit.int .i64 at').wf = true) (h2 : (Lit.int .u8 c).wf = true) (hL : Laid w) :
    Calls Tryd.prog 6 #[.int .u64 n, .int .i64 at', .int .u8 c] w fun e w' => e = .returned (.bool true) ∧ Below w.heap.size w w' := by
  obtain ⟨m, rfl, hm⟩ := u64_nat h0
  obtain ⟨d, rfl, hd⟩ := u8_nat h2
  exact numberOdd m hm at' d hd w hL
end Go.Proofs.YtbnfnbedjgmeiaaDoor
