/- Data as a chunk, and the end: plain words. -/
import Derived.Test.YtngaofoedkankaaDoorChunkMath
import Derived.Test.YtngaofoedkankaaDoorNumFmt
namespace Go.Proofs.YtngaofoedkankaaDoor
set_option linter.unusedVariables false
set_option linter.unusedSimpArgs false

theorem digC (d : Nat) (h : d < 16) : hexV (hexDig d).toNat = d ∧ 48 ≤ (hexDig d).toNat ∧ (hexDig d).toNat ≤ 102 ∧ (hexDig d).toNat ≠ 59 := by
  have : ∀ d : Fin 16, hexV (hexDig d.val).toNat = d.val ∧ 48 ≤ (hexDig d.val).toNat ∧ (hexDig d.val).toNat ≤ 102 ∧ (hexDig d.val).toNat ≠ 59 := by decide
  exact this ⟨d, h⟩
theorem hexGood (n : Nat) (hn : n < 18446744073709551616) : valN hexV 16 (hexL n) = n ∧ badN hexV 16 (hexL n) = false ∧ hexL n ≠ [] ∧ ∀ c ∈ hexL n, 48 ≤ c.toNat ∧ c.toNat ≤ 102 ∧ c.toNat ≠ 59 := by
  induction n using Nat.strongRecOn with
  | ind n ih =>
    by_cases h : n < 16
    · rw [hexL_one h]
      refine ⟨?_, ?_, by simp, fun c hc => ?_⟩
      · simp [valN, (digC n h).1]
      · simp [badN, (digC n h).1]; omega
      · rw [List.mem_singleton.1 hc]; exact (digC n h).2
    · obtain ⟨i1, i2, i3, i4⟩ := ih (n / 16) (by omega) (by omega)
      rw [hexL_step (by omega) hn]
      refine ⟨?_, ?_, by simp, fun c hc => ?_⟩
      · rw [valN_snoc, i1, (digC _ (by omega)).1]; omega
      · rw [badN_snoc, i2, (digC _ (by omega)).1]; simp; omega
      · rcases List.mem_append.1 hc with hc | hc
        · exact i4 c hc
        · rw [List.mem_singleton.1 hc]; exact (digC _ (by omega)).2
theorem hexC_fuel : ∀ f n, (hexF f n).length ≤ f
  | 0, _ => Nat.le_refl _
  | f + 1, n => by
    unfold hexF
    split
    · simp
    · rw [List.length_append, List.length_cons, List.length_nil]
      have := hexC_fuel f (n / 16)
      omega
theorem hexC_len (n : Nat) : (hexL n).length ≤ 16 := hexC_fuel 16 n
theorem idxC_none {l : List UInt8} {c : UInt8} (h : c ∉ l) : Lib.indexByte l c = -1 := by
  have h0 := Lib.indexByte_ge l c
  by_cases e : Lib.indexByte l c = -1
  · exact e
  · obtain ⟨i, hi⟩ : ∃ i : Nat, Lib.indexByte l c = i := ⟨(Lib.indexByte l c).toNat, by omega⟩
    exact absurd (List.mem_of_getElem? (Lib.indexByte_some hi).1) h
theorem cutC_none {l : List UInt8} {c : UInt8} (h : c ∉ l) : cut1 l c = (l, [], false) := by
  unfold cut1; rw [idxC_none h, if_neg (by decide)]
theorem idxC_at (a r : List UInt8) (c : UInt8) (h : c ∉ a) : Lib.indexByte (a ++ c :: r) c = a.length := by
  have h0 := Lib.indexByte_ge (a ++ c :: r) c
  have hne : Lib.indexByte (a ++ c :: r) c ≠ -1 := fun e => Lib.indexByte_none e a.length (by simp)
  obtain ⟨i, hi⟩ : ∃ i : Nat, Lib.indexByte (a ++ c :: r) c = i := ⟨(Lib.indexByte (a ++ c :: r) c).toNat, by omega⟩
  obtain ⟨h1, h2⟩ := Lib.indexByte_some hi
  rw [hi]
  rcases Nat.lt_trichotomy i a.length with h3 | h3 | h3
  · rw [List.getElem?_append_left h3] at h1
    exact absurd (List.mem_of_getElem? h1) h
  · rw [h3]
  · exact absurd (by simp) (h2 a.length h3)
theorem cutC_at (a r : List UInt8) (c : UInt8) (h : c ∉ a) : cut1 (a ++ c :: r) c = (a, r, true) := by
  unfold cut1
  rw [idxC_at a r c h, if_pos (by omega), Int.toNat_natCast, List.take_left]
  congr 2
  rw [List.drop_append]
  simp
theorem trimC_same {l : List UInt8} (h : ∀ c ∈ l, blankB c = false) : trim l = l := by
  have hL : ∀ l : List UInt8, (∀ c ∈ l, blankB c = false) → trimL l = l := fun l h => by
    cases l with
    | nil => rfl
    | cons a t => exact trimL_stay (h a (by simp))
  unfold trim trimR
  have h1 := hL l.reverse (fun c hc => h c (List.mem_reverse.1 hc))
  unfold trimL at h1
  rw [h1, List.reverse_reverse, hL l h]
theorem suffixC (x : List UInt8) : Lib.hasSuffix x [13] = true ↔ x.getLast? = some 13 := by
  unfold Lib.hasSuffix
  rw [List.isSuffixOf_iff_suffix, List.getLast?_eq_some_iff]
  constructor
  · rintro ⟨t, h⟩; exact ⟨t, h.symm⟩
  · rintro ⟨t, h⟩; exact ⟨t, h.symm⟩
theorem bareC_cut (l : List UInt8) : bareC (l ++ [13]) = l := by
  unfold bareC Lib.trimSuffix
  rw [if_pos ((suffixC _).2 (by simp))]
  simp
/-- A number's digits as a size. -/
theorem size_hex (n : Nat) (hn : n ≤ 1099511627776) : sizeR (hexL n) = (n, 0) := by
  obtain ⟨h1, h2, h3, h4⟩ := hexGood n (by omega)
  unfold sizeR
  rw [cutC_none (fun hm => (h4 _ hm).2.2 rfl)]
  simp only
  rw [trimC_same (fun c hc => by
    have := (h4 c hc).1
    unfold blankB
    simp only [Bool.or_eq_false_iff, beq_eq_false_iff_ne]
    constructor <;> (intro e; subst e; revert this; decide))]
  rw [readN_ok h3 h2 (by rw [h1]; omega), h1]
def encL (s : List UInt8) : List UInt8 := if s = [] then [] else hexL s.length ++ ([13, 10] ++ (s ++ [13, 10]))
def endL : List UInt8 := [48, 13, 10, 13, 10]
/-- Nothing was begun, after so many bytes. -/
def ck0 (sz : Nat) : Ck := ⟨0, [], 0, sz⟩
theorem ck0_ok {n : Nat} (h : n ≤ 20000) : (ck0 n).Ok := ⟨by simp [ck0], h, by simp [ck0], by simp [ck0], fun e => by simp [ck0] at e, fun _ => rfl, fun _ => rfl⟩
theorem hex_no10 (n : Nat) (hn : n < 18446744073709551616) : (10 : UInt8) ∉ hexL n ++ [13] := fun hm => by
  rcases List.mem_append.1 hm with hm | hm
  · have := ((hexGood n hn).2.2.2 _ hm).1; revert this; decide
  · exact absurd hm (by decide)
theorem enc_split (s r : List UInt8) (hs : s ≠ []) : encL s ++ r = (hexL s.length ++ [13]) ++ 10 :: (s ++ ([13] ++ 10 :: r)) := by
  unfold encL; rw [if_neg hs]; simp
theorem enc_len (s : List UInt8) (hs : s ≠ []) : (encL s).length = (hexL s.length).length + s.length + 4 := by
  unfold encL; rw [if_neg hs]; simp; omega
/-- A chunk's line. -/
theorem size_line (sz : Nat) (s : List UInt8) (hl : s.length ≤ 1099511627776) : lineC (ck0 sz) (bareC (hexL s.length ++ [13])) = if 20000 - sz < s.length then .inl 2 else if s.length = 0 then .inr { ck0 sz with st := 3 } else .inr { ck0 sz with st := 1, lf := s.length } := by
  rw [bareC_cut]
  unfold lineC
  rw [if_neg (by simp [ck0]), if_neg (by simp [ck0]), size_hex _ hl, if_neg (by simp)]
  show (if (0 : Nat) ≠ 0 ∨ 20000 - sz < s.length then (.inl 2 : Nat ⊕ Ck) else if s.length = 0 then .inr { ck0 sz with st := 3 } else .inr { ck0 sz with st := 1, lf := s.length }) = _
  by_cases h : 20000 - sz < s.length
  · rw [if_pos (Or.inr h), if_pos h]
  · rw [if_neg (by rintro (h' | h'); exact h' rfl; exact h h'), if_neg h]
theorem run_enc (sz : Nat) (s r : List UInt8) (hs : s ≠ []) (hl : s.length + sz ≤ 20000) : runC (ck0 sz) (encL s ++ r) = thenC s (encL s).length (runC (ck0 (sz + s.length)) r) := by
  have hpos : 0 < s.length := List.length_pos_iff.2 hs
  have hxl := hexC_len s.length
  rw [enc_split s r hs, run_whole (c := ck0 sz) (by simp [ck0]) (by simp [ck0]) _ (hex_no10 _ (by omega)) (by simp [ck0]; omega)]
  have e := size_line sz s (by omega)
  rw [if_neg (by omega), if_neg (by omega)] at e
  have e' : lineC { ck0 sz with ln := [] } (bareC ((ck0 sz).ln ++ (hexL s.length ++ [13]))) = .inr { ck0 sz with st := 1, lf := s.length } := e
  rw [e']
  simp only
  rw [run_data_all s { ck0 sz with st := 1, lf := s.length } _ rfl rfl hs, run_whole (c := { ck0 sz with st := 2, lf := 0, sz := (ck0 sz).sz + s.length }) (by simp) (by simp) [13] (by decide) (by simp [ck0])]
  have e2 : lineC { ({ ck0 sz with st := 2, lf := 0, sz := (ck0 sz).sz + s.length } : Ck) with ln := [] } (bareC (([] : List UInt8) ++ [13])) = .inr (ck0 (sz + s.length)) := by
    have : bareC (([] : List UInt8) ++ [13]) = [] := bareC_cut []
    rw [this]; rfl
  rw [show ({ ck0 sz with st := 2, lf := 0, sz := (ck0 sz).sz + s.length } : Ck).ln = [] from rfl, e2]
  simp only
  rw [thenC_thenC, thenC_thenC, enc_len s hs]
  simp only [List.nil_append, List.append_nil, List.length_append, List.length_cons, List.length_nil]
  congr 1
  omega
theorem run_enc' (sz : Nat) (s r : List UInt8) (hl : s.length + sz ≤ 20000) : runC (ck0 sz) (encL s ++ r) = thenC s (encL s).length (runC (ck0 (sz + s.length)) r) := by
  by_cases hs : s = []
  · subst hs
    exact (thenC_nil _).symm
  · exact run_enc sz s r hs hl
theorem run_enc_long (sz : Nat) (s r : List UInt8) (hs : s ≠ []) (hl : 20000 < s.length + sz) (hb : s.length ≤ 1099511627776) : runC (ck0 sz) (encL s ++ r) = .inl 2 := by
  have hpos : 0 < s.length := List.length_pos_iff.2 hs
  have hxl := hexC_len s.length
  rw [enc_split s r hs, run_whole (c := ck0 sz) (by simp [ck0]) (by simp [ck0]) _ (hex_no10 _ (by omega)) (by simp [ck0]; omega)]
  have e := size_line sz s hb
  rw [if_pos (by omega)] at e
  have e' : lineC { ck0 sz with ln := [] } (bareC ((ck0 sz).ln ++ (hexL s.length ++ [13]))) = .inl 2 := e
  rw [e']
/-- The last chunk's line, whatever stands behind its semicolon. -/
theorem run_last (sz : Nat) (x r : List UInt8) (hx : (10 : UInt8) ∉ x) (hxl : x.length ≤ 100) (hz : sizeR (bareC x) = (0, 0)) : runC (ck0 sz) (x ++ 10 :: r) = thenC [] (x.length + 1) (runC { ck0 sz with st := 3 } r) := by
  rw [run_whole (c := ck0 sz) (by simp [ck0]) (by simp [ck0]) _ hx (by simp [ck0]; omega)]
  have e' : lineC { ck0 sz with ln := [] } (bareC ((ck0 sz).ln ++ x)) = .inr { ck0 sz with st := 3 } := by
    rw [show (ck0 sz).ln ++ x = x from rfl]
    unfold lineC
    rw [hz, if_neg (by simp [ck0]), if_neg (by simp [ck0]), if_neg (by simp), if_neg (by simp), if_pos rfl]
    rfl
  rw [e']
/-- A line behind the last chunk. -/
theorem run_behind (sz : Nat) (x r : List UInt8) (hx : (10 : UInt8) ∉ x) (hxl : x.length ≤ 100) (hz : bareC x ≠ []) : runC { ck0 sz with st := 3 } (x ++ 10 :: r) = thenC [] (x.length + 1) (runC { ck0 sz with st := 3 } r) := by
  rw [run_whole (c := { ck0 sz with st := 3 }) (by simp [ck0]) (by simp [ck0]) _ hx (by simp [ck0]; omega)]
  have e' : lineC { ({ ck0 sz with st := 3 } : Ck) with ln := [] } (bareC (({ ck0 sz with st := 3 } : Ck).ln ++ x)) = .inr { ck0 sz with st := 3 } := by
    rw [show ({ ck0 sz with st := 3 } : Ck).ln ++ x = x from rfl]
    unfold lineC
    rw [if_neg (by simp [ck0]), if_pos rfl, if_neg hz]
    rfl
  rw [e']
theorem run_empty (sz : Nat) (r : List UInt8) : runC { ck0 sz with st := 3 } (13 :: 10 :: r) = .inr ({ ck0 sz with st := 4 }, [], 2) := by
  have := run_whole (c := { ck0 sz with st := 3 }) (by simp [ck0]) (by simp [ck0]) [13] (by decide) (by simp [ck0]) r
  rw [show ([13] ++ 10 :: r : List UInt8) = 13 :: 10 :: r from rfl] at this
  rw [this]
  have e' : lineC { ({ ck0 sz with st := 3 } : Ck) with ln := [] } (bareC (({ ck0 sz with st := 3 } : Ck).ln ++ [13])) = .inr { ck0 sz with st := 4 } := by
    have : bareC (({ ck0 sz with st := 3 } : Ck).ln ++ [13]) = [] := bareC_cut []
    rw [this]; rfl
  rw [e']
  simp only
  rw [run_done (c := { ck0 sz with st := 4 }) rfl]
  rfl
theorem run_end (sz : Nat) (r : List UInt8) : runC (ck0 sz) (endL ++ r) = .inr ({ ck0 sz with st := 4 }, [], 5) := by
  have := run_last sz [48, 13] (13 :: 10 :: r) (by decide) (by decide) (by decide)
  rw [show ([48, 13] ++ 10 :: 13 :: 10 :: r : List UInt8) = endL ++ r from rfl] at this
  rw [this, run_empty]
  rfl
/-- Chunks, one behind the other. -/
theorem run_chunks (L : List (List UInt8)) : ∀ (sz : Nat) (r : List UInt8), sz + (L.flatMap id).length ≤ 20000 → runC (ck0 sz) (L.flatMap encL ++ r) = thenC (L.flatMap id) (L.flatMap encL).length (runC (ck0 (sz + (L.flatMap id).length)) r) := by
  induction L with
  | nil => intro sz r h; exact (thenC_nil _).symm
  | cons s L ih =>
    intro sz r h
    simp only [List.flatMap_cons, List.length_append, id_eq] at h ⊢
    rw [List.append_assoc, run_enc' sz s _ (by omega), ih (sz + s.length) r (by omega), thenC_thenC, Nat.add_assoc]
end Go.Proofs.YtngaofoedkankaaDoor
