/- strings.Split at one byte: its parts. pairs.parts, pairs.Query: the walks. -/
import Derived.Test.YtenflcaalckdfaaGreatDoorVv9
import Derived.Lib.SplitLaws
namespace Go.Proofs.YtenflcaalckdfaaGreatDoor
open Go.RowKit Go.Sort Go.Shelf
set_option linter.unusedVariables false

theorem index_at (a r : List UInt8) (c : UInt8) (h : c ∉ a) : Lib.indexByte (a ++ c :: r) c = a.length := by
  have h0 := Lib.indexByte_ge (a ++ c :: r) c
  have hne : Lib.indexByte (a ++ c :: r) c ≠ -1 := fun e => Lib.indexByte_none e a.length (by simp)
  obtain ⟨i, hi⟩ : ∃ i : Nat, Lib.indexByte (a ++ c :: r) c = i := ⟨(Lib.indexByte (a ++ c :: r) c).toNat, by omega⟩
  obtain ⟨h1, h2⟩ := Lib.indexByte_some hi
  rw [hi]
  rcases Nat.lt_trichotomy i a.length with h3 | h3 | h3
  · rw [List.getElem?_append_left h3] at h1
    exact absurd (List.mem_of_getElem? h1) h
  · rw [h3]
  · exact absurd (by simp) (h2 a.length h3)
theorem index_no (a : List UInt8) (c : UInt8) (h : c ∉ a) : Lib.indexByte a c = -1 := by
  have h0 := Lib.indexByte_ge a c
  refine Decidable.byContradiction fun hne => ?_
  obtain ⟨i, hi⟩ : ∃ i : Nat, Lib.indexByte a c = i := ⟨(Lib.indexByte a c).toNat, by omega⟩
  exact h (List.mem_of_getElem? (Lib.indexByte_some hi).1)
theorem split_none (a : List UInt8) (c : UInt8) (h : c ∉ a) : Lib.split a [c] = [a] := by
  have h1 : Lib.index a [c] = -1 := by rw [Lib.index_one]; exact index_no _ _ h
  unfold Lib.split
  rw [Lib.count_miss h1]
  rfl
theorem split_at (a r : List UInt8) (c : UInt8) (h : c ∉ a) : Lib.split (a ++ c :: r) [c] = a :: Lib.split r [c] := by
  have h1 : Lib.index (a ++ c :: r) [c] = (a.length : Nat) := by rw [Lib.index_one]; exact index_at _ _ _ h
  have h2 : (a ++ c :: r).drop (a.length + 1) = r := by rw [List.drop_append]; simp
  unfold Lib.split
  rw [Lib.count_hit (by simp) h1, show ([c] : List UInt8).length = 1 from rfl, h2, Nat.add_comm]
  conv => lhs; unfold Lib.splitK
  have hm : ¬ (Lib.index (a ++ c :: r) [c] == -1) = true := by rw [h1]; simp
  rw [if_neg hm, h1, Int.toNat_natCast, Nat.add_zero, show ([c] : List UInt8).length = 1 from rfl, h2, List.take_left]
theorem first_part (s : List UInt8) (c : UInt8) : c ∉ s ∨ ∃ a r, c ∉ a ∧ s = a ++ c :: r := by
  induction s with
  | nil => left; simp
  | cons d t ih =>
    by_cases h : d = c
    · right; exact ⟨[], t, by simp, by simp [h]⟩
    · rcases ih with h1 | ⟨a, r, h1, h2⟩
      · left; simp [h1, Ne.symm h]
      · right; exact ⟨d :: a, r, by simp [h1, Ne.symm h], by simp [h2]⟩
theorem split_join (s t : List UInt8) (c : UInt8) : Lib.split (s ++ c :: t) [c] = Lib.split s [c] ++ Lib.split t [c] := by
  obtain ⟨n, hn⟩ : ∃ n, s.length = n := ⟨_, rfl⟩
  induction n using Nat.strongRecOn generalizing s with
  | ind n ih =>
    rcases first_part s c with h | ⟨a, r, h1, h2⟩
    · rw [split_at _ _ _ h, split_none _ _ h]; rfl
    · subst h2
      rw [List.append_assoc, List.cons_append, split_at _ _ _ h1, split_at _ _ _ h1, ih r.length (by rw [← hn]; simp; omega) r rfl]
      rfl
theorem split_len (s : List UInt8) (c : UInt8) : ∀ x ∈ Lib.split s [c], x.length ≤ s.length := by
  obtain ⟨n, hn⟩ : ∃ n, s.length = n := ⟨_, rfl⟩
  induction n using Nat.strongRecOn generalizing s with
  | ind n ih =>
    intro x hx
    rcases first_part s c with h | ⟨a, r, h1, h2⟩
    · rw [split_none _ _ h] at hx
      obtain rfl : x = s := by simpa using hx
      exact Nat.le_refl _
    · subst h2
      rw [split_at _ _ _ h1] at hx
      simp only [List.length_append, List.length_cons] at hn ⊢
      rcases List.mem_cons.1 hx with rfl | hx
      · omega
      · have := ih r.length (by omega) r rfl x hx
        omega
theorem S_data' (b : ByteArray) : S b.data.toList = b := by
  obtain ⟨l, rfl⟩ := S_of b
  rw [S_data]
theorem split_cells (l : List UInt8) (c : UInt8) : Lib.splitB (S [c]) 0 (Lib.countB (S l) (S [c])) (S l) = (Lib.split l [c]).map S ∧ (Lib.split l [c]).length = Lib.countB (S l) (S [c]) + 1 := by
  have h1 := Lib.splitB_data (S [c]) 0 (Lib.countB (S l) (S [c])) (S l)
  have h2 := Lib.splitB_all (S [c]) (by rw [S_size]; simp) 0 _ (S l) rfl
  rw [show Lib.splitK (S [c]).data.toList 0 (Lib.countB (S l) (S [c])) (S l).data.toList = Lib.split l [c] by unfold Lib.split Lib.countB; rw [S_data, S_data]] at h1
  refine ⟨?_, by rw [← h1, List.length_map, h2]⟩
  rw [← h1, List.map_map]
  conv => lhs; rw [← List.map_id (Lib.splitB (S [c]) 0 (Lib.countB (S l) (S [c])) (S l))]
  exact List.map_congr_left fun b _ => (S_data' b).symm

theorem split1_S (l : List UInt8) (c : UInt8) (hl : l.length ≤ 1000000) (w : World) (hM : ∃ m, w.cell? ⟨0, 0, none⟩ = some (.int .i64 m)) : Calls Tryz.prog 125 #[.string (S l), .string (S [c])] w fun e w' =>
    e = .returned (.slice (some ⟨w.heap.size, 0, none⟩) (Lib.split l [c]).length (Lib.split l [c]).length) ∧ Below w.heap.size w w' ∧ w.heap.size < w'.heap.size ∧ ∀ j (hj : j < (Lib.split l [c]).length), w'.cell? ⟨w.heap.size, j, none⟩ = some (.string (S (Lib.split l [c])[j])) := by
  obtain ⟨m, hm⟩ := hM
  obtain ⟨h1, h2⟩ := split_cells l c
  refine (Tryz.strings_Split (S l) (S [c]) m w (by rw [S_size]; omega) hm (by rw [S_size]; simp)).mono fun e w' ⟨he, hw⟩ => ?_
  subst hw
  refine ⟨by rw [he, h2], (Below.refl _ _).alloc (Nat.le_refl _) _, by simp, fun j hj => ?_⟩
  rw [h1]
  simp [hj]
end Go.Proofs.YtenflcaalckdfaaGreatDoor
namespace Go.Proofs.YtenflcaalckdfaaGreatDoor
open Go.RowKit Go.Sort Go.Shelf
set_option linter.unusedVariables false

def someL (L : List (List UInt8)) : List (List UInt8) := L.filter fun p => !p.isEmpty
theorem someL_snoc (L : List (List UInt8)) (p : List UInt8) : someL (L ++ [p]) = someL L ++ (if p.isEmpty then [] else [p]) := by
  unfold someL
  rw [List.filter_append]
  cases h : p.isEmpty <;> simp [h]
theorem someL_len (L : List (List UInt8)) : (someL L).length ≤ L.length := List.length_filter_le _ _
theorem split_count (s : List UInt8) (c : UInt8) : (Lib.split s [c]).length ≤ s.length + 1 := by
  obtain ⟨n, hn⟩ : ∃ n, s.length = n := ⟨_, rfl⟩
  induction n using Nat.strongRecOn generalizing s with
  | ind n ih =>
    rcases first_part s c with h | ⟨a, r, h1, h2⟩
    · rw [split_none _ _ h]; simp
    · subst h2
      simp only [List.length_append, List.length_cons] at hn
      rw [split_at _ _ _ h1]
      have := ih r.length (by omega) r rfl
      simp only [List.length_append, List.length_cons]
      omega

set_option maxHeartbeats 1600000 in
set_option maxRecDepth 100000 in
theorem pairsParts (fn : Nat) (lb : Array Value) (eg : ∀ args w, (callFunc fn args).run Tryz.prog w = .ok (.enter fn args) w) (s : List UInt8) (c : UInt8) (hs : s.length ≤ 1000000) (w : World) (hM : ∃ m, w.cell? ⟨0, 0, none⟩ = some (.int .i64 m)) (J : List (List UInt8) → World → Prop)
    (h0 : ∀ W, Below w.heap.size w W → w.heap.size < W.heap.size → J [] W)
    (hJ : ∀ pre p W, J pre W → p.isEmpty = false → p.length ≤ s.length → pre.length ≤ 1000001 → w.heap.size < W.heap.size → Calls Tryz.prog fn (#[.string (S p)] ++ lb) W fun e W' => (∃ r, e = .returned r) ∧ J (pre ++ [p]) W' ∧ W.heap.size ≤ W'.heap.size ∧ W'.heap[w.heap.size]? = W.heap[w.heap.size]?) :
    Calls Tryz.prog 98 #[.string (S s), .string (S [c]), .func (.func fn) #[] lb] w fun e w' => (∃ r, e = .returned r) ∧ J (someL (Lib.split s [c])) w' := by
  have SP := Lib.hid (split1_S s c hs w hM)
  have hlen := split_len s c
  have hcnt := split_count s c
  obtain ⟨ss, hss⟩ : ∃ x, Lib.split s [c] = x := ⟨_, rfl⟩
  rw [hss] at SP hlen hcnt ⊢
  have H0 := Lib.hid h0
  have HJ := Lib.hid hJ
  have HL := Lib.hid hlen
  have hss1 : (ss.length : Int) ≤ 1000001 := by omega
  clear hss hlen h0 hJ hM
  go_enter Tryz.func98, Tryz.ntmps98
  go_wp2_with (go_at_call 125; refine Calls.mono SP.out ?_; rintro e w1 ⟨rfl, hb1, hlt1, hcell⟩; have HC := Lib.hid hcell; have HB1 := Lib.hid hb1; clear hcell hb1)
  simp only [mk_S]
  go_loopw [12] (fun iv wr => ∃ k : Nat, iv = .int .i64 k ∧ k ≤ ss.length ∧ J (someL (ss.take k)) wr ∧ wr.heap[w.heap.size]? = w1.heap[w.heap.size]? ∧ w.heap.size < wr.heap.size) (fun iv _ => ss.length - (intOf iv).toNat)
  case atStart => exact ⟨0, rfl, Nat.zero_le _, H0.out _ HB1.out hlt1, rfl, hlt1⟩
  case round =>
    obtain ⟨k, rfl, hk, hj, hblk, hlt⟩ := hrel
    have HJJ := Lib.hid hj
    have HBK := Lib.hid hblk
    clear hj hblk
    by_cases hkl : k < ss.length
    · have e1 := (World.cell?_of_block (a := ⟨w.heap.size, k, none⟩) HBK.out).trans (HC.out k hkl)
      have hpl := HL.out _ (List.getElem_mem hkl)
      have htk : someL (ss.take (k + 1)) = someL (ss.take k) ++ (if ss[k].isEmpty then [] else [ss[k]]) := by
        rw [List.take_succ_eq_append_getElem hkl, someL_snoc]
      have hpre : (someL (ss.take k)).length ≤ 1000001 := by have := someL_len (ss.take k); rw [List.length_take] at this; omega
      obtain ⟨p, hp⟩ : ∃ p, ss[k] = p := ⟨_, rfl⟩
      rw [hp] at e1 hpl htk
      have HT := Lib.hid htk
      clear htk hp
      cases he : p.isEmpty with
      | true =>
        go_wp2
        go_roundw
        case rel => exact ⟨k + 1, by go_num, by omega, by rw [HT.out, he]; simpa using HJJ.out, HBK.out, hlt⟩
        case measure => simp [intOf]; omega
      | false =>
        have hcall := HJ.out _ p wr HJJ.out he hpl hpre hlt
        go_wp2_with (go_at_fn fn; refine hcall.mono ?_; rintro e w2 ⟨⟨r, rfl⟩, hj2, hz2, hk2⟩)
        go_roundw
        case rel => exact ⟨k + 1, by go_num, by omega, by rw [HT.out, he]; exact hj2, hk2.trans HBK.out, by omega⟩
        case measure => simp [intOf]; omega
    · obtain rfl : k = ss.length := by omega
      have hj := HJJ.out
      rw [List.take_length] at hj
      go_wp2
      go_end0
      exact ⟨⟨_, rfl⟩, hj⟩
end Go.Proofs.YtenflcaalckdfaaGreatDoor
