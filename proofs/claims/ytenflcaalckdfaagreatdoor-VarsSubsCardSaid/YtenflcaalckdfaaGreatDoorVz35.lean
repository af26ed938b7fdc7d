/- The document's Ref: the words that its walk needs. The reference that a text begins with, the document's: the walk of Ref, one theorem a way through it. Printed by tools/docref.py. -/
import Derived.Test.YtenflcaalckdfaaGreatDoorVz34
import Derived.Test.YtenflcaalckdfaaGreatDoorVz26
namespace Go.Proofs.YtenflcaalckdfaaGreatDoor
open Go Go.RowKit Go.Sort Go.Shelf
set_option linter.unusedVariables false

theorem let_in {s r : List UInt8} {n : Nat} (hr : s.drop 2 = r) (hn : (r.takeWhile letterB).length = n) : ∀ p, 2 ≤ p → p < 2 + n → ∃ z, hdI (s.drop p) = z ∧ ((65 ≤ z ∧ z ≤ 90) ∨ z = 95) := by
  intro p h2 hp
  have hl := takeWhile_len letterB r
  have hk : p - 2 < r.length := by omega
  have e : s.drop p = r.drop (p - 2) := by rw [← hr, List.drop_drop, show 2 + (p - 2) = p by omega]
  refine ⟨_, rfl, ?_⟩
  rw [e, List.drop_eq_getElem_cons hk]
  have hk2 : p - 2 < (r.takeWhile letterB).length := by omega
  have hm : letterB r[p - 2] = true := by
    have h1 : (r.takeWhile letterB)[p - 2] = r[p - 2] := List.IsPrefix.getElem (List.takeWhile_prefix letterB) hk2
    rw [← h1]
    exact (List.all_eq_true.1 (List.all_takeWhile (p := letterB) (l := r))) _ (List.getElem_mem hk2)
  unfold letterB at hm
  simp only [Bool.or_eq_true, Bool.and_eq_true, decide_eq_true_eq] at hm
  show (65 ≤ (r[p - 2].toNat : Int) ∧ (r[p - 2].toNat : Int) ≤ 90) ∨ (r[p - 2].toNat : Int) = 95
  omega
theorem end_not : ∀ (r : List UInt8) (z : Int), hdI (r.drop (r.takeWhile letterB).length) = z → ¬ (65 ≤ z ∧ z ≤ 90) ∧ z ≠ 95
  | [], z, h => by
    have : z = 0 := h.symm
    omega
  | c :: t, z, h => by
    cases hc : letterB c with
    | true =>
      rw [List.takeWhile_cons_of_pos hc, List.length_cons, List.drop_succ_cons] at h
      exact end_not t z h
    | false =>
      rw [List.takeWhile_cons_of_neg (by simp [hc]), List.length_nil, List.drop_zero] at h
      have hz : (c.toNat : Int) = z := h
      unfold letterB at hc
      simp only [Bool.or_eq_false_iff, Bool.and_eq_false_iff, decide_eq_false_iff_not] at hc
      omega
theorem let_end {s r : List UInt8} {n : Nat} (hr : s.drop 2 = r) (hn : (r.takeWhile letterB).length = n) : ∀ z, hdI (s.drop (2 + n)) = z → ¬ (65 ≤ z ∧ z ≤ 90) ∧ z ≠ 95 := by
  intro z h
  rw [← List.drop_drop, hr, ← hn] at h
  exact end_not r z h
theorem hd_pre (r : List UInt8) (c : UInt8) (hc : c ≠ 0) : Lib.hasPrefix r [c] = decide (hdI r = (c.toNat : Int)) := by
  cases r with
  | nil =>
    have : ¬ (0 : Int) = (c.toNat : Int) := fun e => hc (UInt8.toNat.inj (by rw [show (0 : UInt8).toNat = 0 from rfl]; omega))
    simp only [hdI, this, decide_false]
    rfl
  | cons a b =>
    unfold Lib.hasPrefix
    simp only [hdI, List.isPrefixOf, Bool.and_true]
    by_cases h : c = a
    · subst h; simp
    · have : ¬ (a.toNat : Int) = (c.toNat : Int) := fun e => h (UInt8.toNat.inj (by omega))
      simp [h, this]
theorem hd_pre2 (r : List UInt8) (c d : UInt8) (hc : c ≠ 0) (hd : d ≠ 0) : Lib.hasPrefix r [c, d] = (decide (hdI r = (c.toNat : Int)) && decide (hdI (r.drop 1) = (d.toNat : Int))) := by
  rw [← hd_pre r c hc, ← hd_pre (r.drop 1) d hd]
  cases r with
  | nil => rfl
  | cons a b => unfold Lib.hasPrefix; simp [List.isPrefixOf]
theorem neq_two {p : Nat} (h : 2 < p) : ((p : Int) == 2) = false ∧ ((p : Int) = 2) = False := ⟨by simp only [beq_eq_false_iff_ne, ne_eq]; omega, by simp; omega⟩
theorem while_all {p : UInt8 → Bool} {l : List UInt8} (h : ∀ x ∈ l, p x = true) : l.takeWhile p = l := by
  induction l with
  | nil => rfl
  | cons a b ih => rw [List.takeWhile_cons_of_pos (h a (by simp)), ih (fun x hx => h x (by simp [hx]))]
theorem cut_no {z o r3 : List UInt8} (h : cut1 z 39 = (o, r3, false)) : z.takeWhile (notIn [39]) = z := by
  have hn : (39 : UInt8) ∉ z := fun hm => by
    unfold cut1 at h
    have hg := Lib.indexByte_ge z 39
    have : Lib.indexByte z 39 ≠ -1 := fun e => by
      obtain ⟨k, hk, e2⟩ := List.getElem_of_mem hm
      exact Lib.indexByte_none e k (by rw [List.getElem?_eq_getElem hk, e2])
    rw [if_pos (by omega)] at h
    have := congrArg (fun x => x.2.2) h
    simp at this
  exact while_all fun x hx => notIn_not (fun hm => hn (by rw [List.mem_singleton] at hm; rw [← hm]; exact hx))
theorem cut_yes {z o r3 : List UInt8} (h : cut1 z 39 = (o, r3, true)) : z.takeWhile (notIn [39]) = o ∧ z = o ++ 39 :: r3 := by
  unfold cut1 at h
  split at h
  · obtain ⟨i, hi⟩ : ∃ i : Nat, Lib.indexByte z 39 = i := ⟨(Lib.indexByte z 39).toNat, by omega⟩
    obtain ⟨h1, h2⟩ := Lib.indexByte_some hi
    rw [hi] at h
    simp only [Int.toNat_natCast, Prod.mk.injEq, and_true] at h
    obtain ⟨rfl, rfl⟩ := h
    obtain ⟨hl, e⟩ := List.getElem?_eq_some_iff.1 h1
    have hz : z = z.take i ++ 39 :: z.drop (i + 1) := by
      conv => lhs; rw [← List.take_append_drop i z, List.drop_eq_getElem_cons hl, e]
    refine ⟨?_, hz⟩
    conv => lhs; rw [hz]
    refine while_app (fun x hx => notIn_not fun hm => ?_) (by decide)
    obtain ⟨k, hk, e2⟩ := List.getElem_of_mem hx
    rw [List.length_take] at hk
    rw [List.getElem_take] at e2
    exact h2 k (by omega) (by rw [List.getElem?_eq_getElem (by omega), e2, List.mem_singleton.1 hm])
  · have := congrArg (fun x => x.2.2) h
    simp at this
end Go.Proofs.YtenflcaalckdfaaGreatDoor
namespace Go.Proofs.YtenflcaalckdfaaGreatDoor
open Go Go.RowKit Go.Sort Go.Shelf
set_option linter.unusedVariables false
set_option linter.unusedSimpArgs false

set_option maxHeartbeats 3200000 in
set_option maxRecDepth 100000 in
theorem dr_A (e : En) (hf : e.few) (s : List UInt8) (hs : s.length ≤ 100000) (w : World) (hp0 : Lib.hasPrefix s [36, 40] = false) :
    Calls Tryz.prog 9 #[e.v, .string (S s)] w fun x w' => x = .returned (.tuple #[.string (S []), .int .i64 0]) ∧ Below w.heap.size w w' := by
  have hsi : (s.length : Int) ≤ 100000 := by omega
  obtain ⟨r, hr⟩ : ∃ r, s.drop 2 = r := ⟨_, rfl⟩
  obtain ⟨n, hn⟩ : ∃ n, (r.takeWhile letterB).length = n := ⟨_, rfl⟩
  have lr : r.length ≤ s.length := by rw [← hr, List.length_drop]; omega
  have hnr : n ≤ r.length := by rw [← hn]; exact takeWhile_len _ _
  have HLT := Lib.hid (let_in hr hn)
  have HLE := Lib.hid (let_end hr hn)
  obtain ⟨p1, hp1⟩ : ∃ p1, 2 + n = p1 := ⟨_, rfl⟩
  rw [hp1] at HLT HLE
  have hp2 := hd_pre2 s 36 40 (by decide) (by decide)
  rw [hp0] at hp2
  obtain ⟨zA, hzA⟩ : ∃ z, hdI s = z := ⟨_, rfl⟩
  obtain ⟨zB, hzB⟩ : ∃ z, hdI (s.drop 1) = z := ⟨_, rfl⟩
  rw [hzA, hzB] at hp2
  have HP2 := Lib.hid hp2
  clear hp2
  have AT0 := Lib.hid (fun W => docAt (s := s) (i := 0) (ii := 0) (z := zA) rfl rfl hzA (by omega) W)
  have AT1 := Lib.hid (fun W => docAt (s := s) (i := 1) (ii := 1) (z := zB) rfl rfl hzB (by omega) W)
  obtain ⟨z0, hz0⟩ : ∃ z, hdI (s.drop p1) = z := ⟨_, rfl⟩
  have HZ0 := HLE.out z0 hz0
  have ATz := Lib.hid (fun W => docAt (s := s) (i := p1) (ii := ((p1 : Nat) : Int)) (z := z0) rfl rfl hz0 (by omega) W)
  have HBX := Lib.hid (show Below w.heap.size w (w.alloc (.cells #[.string (S e.host), .string (S e.ref), .string (S e.agent), .string (S e.cookie), .string (S e.lang), .string (S e.query)] 23)) by (repeat (first | (with_reducible exact Below.refl _ _) | (with_reducible assumption) | (with_reducible refine Below.drew ?_) | (focus ((with_reducible refine Below.setCell ?_ ?_ _); rotate_left; (first | omega | (simp <;> omega)))) | (focus ((with_reducible refine Below.alloc ?_ ?_ _); rotate_left; (first | omega | (simp <;> omega)))) | exact Below.refl _ _ | assumption | refine Below.drew ?_ | refine Below.alloc ?_ (by first | omega | (simp <;> omega)) _ | refine Below.setCell ?_ (by first | omega | (simp <;> omega)) _)))
  have h2p : 2 ≤ p1 := by omega
  have hp1s : (p1 : Int) ≤ 100010 := by omega
  clear hf
  go_enter Tryz.func9, Tryz.ntmps9
  go_wp2
  try simp only [mk_S]
  go_loop [6] (fun iv => ∃ p : Nat, iv = .int .i64 p ∧ 2 ≤ p ∧ p ≤ p1) (fun iv => p1 - (intOf iv).toNat)
  case atStart => exact ⟨2, rfl, Nat.le_refl _, h2p⟩
  case round =>
  obtain ⟨p, rfl, hp2', hpp⟩ := hrel
  by_cases hlt : p < p1
  · obtain ⟨z, hz', hlz⟩ := HLT.out p hp2' hlt
    have ATL := Lib.hid (fun W => docAt (s := s) (i := p) (ii := (p : Int)) (z := z) rfl rfl hz' (by omega) W)
    rcases hlz with ⟨g1, g2⟩ | g3
    · clear hz'
      go_wp2_with (go_at_call 26; (with_reducible refine Calls.mono (ATL.out _) ?_); rintro x wq ⟨rfl, hwq⟩; obtain rfl := hwq.symm)
      go_round
      case rel => exact ⟨p + 1, by go_num, by omega, by omega⟩
      case measure => simp [intOf]; omega
    · subst g3
      clear hz'
      go_wp2_with (go_at_call 26; (with_reducible refine Calls.mono (ATL.out _) ?_); rintro x wq ⟨rfl, hwq⟩; obtain rfl := hwq.symm)
      go_round
      case rel => exact ⟨p + 1, by go_num, by omega, by omega⟩
      case measure => simp [intOf]; omega
  obtain rfl : p = p1 := by omega
  by_cases g0 : 65 ≤ z0
  · have g1 : ¬ z0 ≤ 90 := by omega
    have g21 : ((z0 : Int) == 95) = false := by simp only [beq_eq_false_iff_ne, ne_eq]; omega
    have g22 : ((z0 : Int) != 95) = true := by unfold bne; rw [g21]; rfl
    by_cases c0 : zA = 36
    · obtain rfl : zA = 36 := by omega
      have c1 : zB ≠ 40 := by simpa using HP2.out
      have hB1 : ((zB : Int) == 40) = false := by simp only [beq_eq_false_iff_ne, ne_eq]; omega
      have hB2 : ((zB : Int) != 40) = true := by unfold bne; rw [hB1]; rfl
      go_wp2_with (first
        | (go_at_call 26; (with_reducible refine Calls.mono (AT0.out _) ?_); rintro x wq ⟨rfl, hwq⟩; obtain rfl := hwq.symm)
        | (go_at_call 26; (with_reducible refine Calls.mono (AT1.out _) ?_); rintro x wq ⟨rfl, hwq⟩; obtain rfl := hwq.symm)
        | (go_at_call 26; (with_reducible refine Calls.mono (ATz.out _) ?_); rintro x wq ⟨rfl, hwq⟩; obtain rfl := hwq.symm)
        | fail)
      go_ret2
      exact ⟨by first | rfl | (simp [*]; done) | (simp; omega), by (have := HBX.out; (repeat (first | (with_reducible exact Below.refl _ _) | (with_reducible assumption) | (with_reducible refine Below.drew ?_) | (focus ((with_reducible refine Below.setCell ?_ ?_ _); rotate_left; (first | omega | (simp <;> omega)))) | (focus ((with_reducible refine Below.alloc ?_ ?_ _); rotate_left; (first | omega | (simp <;> omega)))) | exact Below.refl _ _ | assumption | refine Below.drew ?_ | refine Below.alloc ?_ (by first | omega | (simp <;> omega)) _ | refine Below.setCell ?_ (by first | omega | (simp <;> omega)) _)))⟩
    · have c1 : zA ≠ 36 := c0
      have hA1 : ((zA : Int) == 36) = false := by simp only [beq_eq_false_iff_ne, ne_eq]; omega
      have hA2 : ((zA : Int) != 36) = true := by unfold bne; rw [hA1]; rfl
      go_wp2_with (first
        | (go_at_call 26; (with_reducible refine Calls.mono (AT0.out _) ?_); rintro x wq ⟨rfl, hwq⟩; obtain rfl := hwq.symm)
        | (go_at_call 26; (with_reducible refine Calls.mono (AT1.out _) ?_); rintro x wq ⟨rfl, hwq⟩; obtain rfl := hwq.symm)
        | (go_at_call 26; (with_reducible refine Calls.mono (ATz.out _) ?_); rintro x wq ⟨rfl, hwq⟩; obtain rfl := hwq.symm)
        | fail)
      go_ret2
      exact ⟨by first | rfl | (simp [*]; done) | (simp; omega), by (have := HBX.out; (repeat (first | (with_reducible exact Below.refl _ _) | (with_reducible assumption) | (with_reducible refine Below.drew ?_) | (focus ((with_reducible refine Below.setCell ?_ ?_ _); rotate_left; (first | omega | (simp <;> omega)))) | (focus ((with_reducible refine Below.alloc ?_ ?_ _); rotate_left; (first | omega | (simp <;> omega)))) | exact Below.refl _ _ | assumption | refine Below.drew ?_ | refine Below.alloc ?_ (by first | omega | (simp <;> omega)) _ | refine Below.setCell ?_ (by first | omega | (simp <;> omega)) _)))⟩
  · have g21 : ((z0 : Int) == 95) = false := by simp only [beq_eq_false_iff_ne, ne_eq]; omega
    have g22 : ((z0 : Int) != 95) = true := by unfold bne; rw [g21]; rfl
    by_cases c0 : zA = 36
    · obtain rfl : zA = 36 := by omega
      have c1 : zB ≠ 40 := by simpa using HP2.out
      have hB1 : ((zB : Int) == 40) = false := by simp only [beq_eq_false_iff_ne, ne_eq]; omega
      have hB2 : ((zB : Int) != 40) = true := by unfold bne; rw [hB1]; rfl
      go_wp2_with (first
        | (go_at_call 26; (with_reducible refine Calls.mono (AT0.out _) ?_); rintro x wq ⟨rfl, hwq⟩; obtain rfl := hwq.symm)
        | (go_at_call 26; (with_reducible refine Calls.mono (AT1.out _) ?_); rintro x wq ⟨rfl, hwq⟩; obtain rfl := hwq.symm)
        | (go_at_call 26; (with_reducible refine Calls.mono (ATz.out _) ?_); rintro x wq ⟨rfl, hwq⟩; obtain rfl := hwq.symm)
        | fail)
      go_ret2
      exact ⟨by first | rfl | (simp [*]; done) | (simp; omega), by (have := HBX.out; (repeat (first | (with_reducible exact Below.refl _ _) | (with_reducible assumption) | (with_reducible refine Below.drew ?_) | (focus ((with_reducible refine Below.setCell ?_ ?_ _); rotate_left; (first | omega | (simp <;> omega)))) | (focus ((with_reducible refine Below.alloc ?_ ?_ _); rotate_left; (first | omega | (simp <;> omega)))) | exact Below.refl _ _ | assumption | refine Below.drew ?_ | refine Below.alloc ?_ (by first | omega | (simp <;> omega)) _ | refine Below.setCell ?_ (by first | omega | (simp <;> omega)) _)))⟩
    · have c1 : zA ≠ 36 := c0
      have hA1 : ((zA : Int) == 36) = false := by simp only [beq_eq_false_iff_ne, ne_eq]; omega
      have hA2 : ((zA : Int) != 36) = true := by unfold bne; rw [hA1]; rfl
      go_wp2_with (first
        | (go_at_call 26; (with_reducible refine Calls.mono (AT0.out _) ?_); rintro x wq ⟨rfl, hwq⟩; obtain rfl := hwq.symm)
        | (go_at_call 26; (with_reducible refine Calls.mono (AT1.out _) ?_); rintro x wq ⟨rfl, hwq⟩; obtain rfl := hwq.symm)
        | (go_at_call 26; (with_reducible refine Calls.mono (ATz.out _) ?_); rintro x wq ⟨rfl, hwq⟩; obtain rfl := hwq.symm)
        | fail)
      go_ret2
      exact ⟨by first | rfl | (simp [*]; done) | (simp; omega), by (have := HBX.out; (repeat (first | (with_reducible exact Below.refl _ _) | (with_reducible assumption) | (with_reducible refine Below.drew ?_) | (focus ((with_reducible refine Below.setCell ?_ ?_ _); rotate_left; (first | omega | (simp <;> omega)))) | (focus ((with_reducible refine Below.alloc ?_ ?_ _); rotate_left; (first | omega | (simp <;> omega)))) | exact Below.refl _ _ | assumption | refine Below.drew ?_ | refine Below.alloc ?_ (by first | omega | (simp <;> omega)) _ | refine Below.setCell ?_ (by first | omega | (simp <;> omega)) _)))⟩

set_option maxHeartbeats 3200000 in
set_option maxRecDepth 100000 in
theorem dr_B (e : En) (hf : e.few) (s : List UInt8) (hs : s.length ≤ 100000) (w : World) (r : List UInt8) (n : Nat) (hp0 : Lib.hasPrefix s [36, 40] = true) (hr : s.drop 2 = r) (hn : (r.takeWhile letterB).length = n) (hn0 : n = 0) :
    Calls Tryz.prog 9 #[e.v, .string (S s)] w fun x w' => x = .returned (.tuple #[.string (S []), .int .i64 0]) ∧ Below w.heap.size w w' := by
  have hsi : (s.length : Int) ≤ 100000 := by omega
  have lr : r.length ≤ s.length := by rw [← hr, List.length_drop]; omega
  have hnr : n ≤ r.length := by rw [← hn]; exact takeWhile_len _ _
  have HLT := Lib.hid (let_in hr hn)
  have HLE := Lib.hid (let_end hr hn)
  obtain ⟨p1, hp1⟩ : ∃ p1, 2 + n = p1 := ⟨_, rfl⟩
  rw [hp1] at HLT HLE
  have hp2 := hd_pre2 s 36 40 (by decide) (by decide)
  rw [hp0] at hp2
  have s2 : 2 ≤ s.length := (List.isPrefixOf_iff_prefix.1 hp0).length_le
  have lr2 : 2 + r.length = s.length := by rw [← hr, List.length_drop]; omega
  have z36 : hdI s = 36 := by simp at hp2; exact hp2.1
  have z40 : hdI (s.drop 1) = 40 := by simp at hp2; simpa using hp2.2
  clear hp2
  have AT0 := Lib.hid (fun W => docAt (s := s) (i := 0) (ii := 0) (z := 36) rfl rfl z36 (by omega) W)
  have AT1 := Lib.hid (fun W => docAt (s := s) (i := 1) (ii := 1) (z := 40) rfl rfl z40 (by omega) W)
  obtain rfl : p1 = 2 := by omega
  obtain ⟨z0, hz0⟩ : ∃ z, hdI (s.drop 2) = z := ⟨_, rfl⟩
  have HZ0 := HLE.out z0 hz0
  have ATz := Lib.hid (fun W => docAt (s := s) (i := 2) (ii := 2) (z := z0) rfl rfl hz0 (by omega) W)
  have HBX := Lib.hid (show Below w.heap.size w (w.alloc (.cells #[.string (S e.host), .string (S e.ref), .string (S e.agent), .string (S e.cookie), .string (S e.lang), .string (S e.query)] 23)) by (repeat (first | (with_reducible exact Below.refl _ _) | (with_reducible assumption) | (with_reducible refine Below.drew ?_) | (focus ((with_reducible refine Below.setCell ?_ ?_ _); rotate_left; (first | omega | (simp <;> omega)))) | (focus ((with_reducible refine Below.alloc ?_ ?_ _); rotate_left; (first | omega | (simp <;> omega)))) | exact Below.refl _ _ | assumption | refine Below.drew ?_ | refine Below.alloc ?_ (by first | omega | (simp <;> omega)) _ | refine Below.setCell ?_ (by first | omega | (simp <;> omega)) _)))
  have h2p : 2 ≤ 2 := by omega
  have h2s : (2 : Int) ≤ 100010 := by omega
  clear hf
  go_enter Tryz.func9, Tryz.ntmps9
  go_wp2
  try simp only [mk_S]
  go_loop [6] (fun iv => ∃ p : Nat, iv = .int .i64 p ∧ 2 ≤ p ∧ p ≤ 2) (fun iv => 2 - (intOf iv).toNat)
  case atStart => exact ⟨2, rfl, Nat.le_refl _, h2p⟩
  case round =>
  obtain ⟨p, rfl, hp2', hpp⟩ := hrel
  by_cases hlt : p < 2
  · obtain ⟨z, hz', hlz⟩ := HLT.out p hp2' hlt
    have ATL := Lib.hid (fun W => docAt (s := s) (i := p) (ii := (p : Int)) (z := z) rfl rfl hz' (by omega) W)
    rcases hlz with ⟨g1, g2⟩ | g3
    · clear hz'
      go_wp2_with (go_at_call 26; (with_reducible refine Calls.mono (ATL.out _) ?_); rintro x wq ⟨rfl, hwq⟩; obtain rfl := hwq.symm)
      go_round
      case rel => exact ⟨p + 1, by go_num, by omega, by omega⟩
      case measure => simp [intOf]; omega
    · subst g3
      clear hz'
      go_wp2_with (go_at_call 26; (with_reducible refine Calls.mono (ATL.out _) ?_); rintro x wq ⟨rfl, hwq⟩; obtain rfl := hwq.symm)
      go_round
      case rel => exact ⟨p + 1, by go_num, by omega, by omega⟩
      case measure => simp [intOf]; omega
  obtain rfl : p = 2 := by omega
  by_cases g0 : 65 ≤ z0
  · have g1 : ¬ z0 ≤ 90 := by omega
    have g21 : ((z0 : Int) == 95) = false := by simp only [beq_eq_false_iff_ne, ne_eq]; omega
    have g22 : ((z0 : Int) != 95) = true := by unfold bne; rw [g21]; rfl
    go_wp2_with (first
      | (go_at_call 26; (with_reducible refine Calls.mono (AT0.out _) ?_); rintro x wq ⟨rfl, hwq⟩; obtain rfl := hwq.symm)
      | (go_at_call 26; (with_reducible refine Calls.mono (AT1.out _) ?_); rintro x wq ⟨rfl, hwq⟩; obtain rfl := hwq.symm)
      | (go_at_call 26; (with_reducible refine Calls.mono (ATz.out _) ?_); rintro x wq ⟨rfl, hwq⟩; obtain rfl := hwq.symm)
      | fail)
    go_ret2
    exact ⟨by first | rfl | (simp [*]; done) | (simp; omega), by (have := HBX.out; (repeat (first | (with_reducible exact Below.refl _ _) | (with_reducible assumption) | (with_reducible refine Below.drew ?_) | (focus ((with_reducible refine Below.setCell ?_ ?_ _); rotate_left; (first | omega | (simp <;> omega)))) | (focus ((with_reducible refine Below.alloc ?_ ?_ _); rotate_left; (first | omega | (simp <;> omega)))) | exact Below.refl _ _ | assumption | refine Below.drew ?_ | refine Below.alloc ?_ (by first | omega | (simp <;> omega)) _ | refine Below.setCell ?_ (by first | omega | (simp <;> omega)) _)))⟩
  · have g21 : ((z0 : Int) == 95) = false := by simp only [beq_eq_false_iff_ne, ne_eq]; omega
    have g22 : ((z0 : Int) != 95) = true := by unfold bne; rw [g21]; rfl
    go_wp2_with (first
      | (go_at_call 26; (with_reducible refine Calls.mono (AT0.out _) ?_); rintro x wq ⟨rfl, hwq⟩; obtain rfl := hwq.symm)
      | (go_at_call 26; (with_reducible refine Calls.mono (AT1.out _) ?_); rintro x wq ⟨rfl, hwq⟩; obtain rfl := hwq.symm)
      | (go_at_call 26; (with_reducible refine Calls.mono (ATz.out _) ?_); rintro x wq ⟨rfl, hwq⟩; obtain rfl := hwq.symm)
      | fail)
    go_ret2
    exact ⟨by first | rfl | (simp [*]; done) | (simp; omega), by (have := HBX.out; (repeat (first | (with_reducible exact Below.refl _ _) | (with_reducible assumption) | (with_reducible refine Below.drew ?_) | (focus ((with_reducible refine Below.setCell ?_ ?_ _); rotate_left; (first | omega | (simp <;> omega)))) | (focus ((with_reducible refine Below.alloc ?_ ?_ _); rotate_left; (first | omega | (simp <;> omega)))) | exact Below.refl _ _ | assumption | refine Below.drew ?_ | refine Below.alloc ?_ (by first | omega | (simp <;> omega)) _ | refine Below.setCell ?_ (by first | omega | (simp <;> omega)) _)))⟩

set_option maxHeartbeats 3200000 in
set_option maxRecDepth 100000 in
theorem dr_C1a (e : En) (hf : e.few) (s : List UInt8) (hs : s.length ≤ 100000) (w : World) (r : List UInt8) (n : Nat) (hp0 : Lib.hasPrefix s [36, 40] = true) (hr : s.drop 2 = r) (hn : (r.takeWhile letterB).length = n) (hn0 : 0 < n) (name r1 : List UInt8) (hnm : r.take n = name) (hr1 : r.drop n = r1) (hb : Lib.hasPrefix r1 [123] = true) (x : List UInt8) (hx : r1.drop 1 = x) (m : Nat) (hm : (x.takeWhile (notIn badK)).length = m) (key : List UInt8) (hkey : x.take m = key) (hm0 : m = 0) :
    Calls Tryz.prog 9 #[e.v, .string (S s)] w fun x w' => x = .returned (.tuple #[.string (S []), .int .i64 0]) ∧ Below w.heap.size w w' := by
  have hsi : (s.length : Int) ≤ 100000 := by omega
  have lr : r.length ≤ s.length := by rw [← hr, List.length_drop]; omega
  have hnr : n ≤ r.length := by rw [← hn]; exact takeWhile_len _ _
  have HLT := Lib.hid (let_in hr hn)
  have HLE := Lib.hid (let_end hr hn)
  obtain ⟨p1, hp1⟩ : ∃ p1, 2 + n = p1 := ⟨_, rfl⟩
  rw [hp1] at HLT HLE
  have hp2 := hd_pre2 s 36 40 (by decide) (by decide)
  rw [hp0] at hp2
  have s2 : 2 ≤ s.length := (List.isPrefixOf_iff_prefix.1 hp0).length_le
  have lr2 : 2 + r.length = s.length := by rw [← hr, List.length_drop]; omega
  have z36 : hdI s = 36 := by simp at hp2; exact hp2.1
  have z40 : hdI (s.drop 1) = 40 := by simp at hp2; simpa using hp2.2
  clear hp2
  have AT0 := Lib.hid (fun W => docAt (s := s) (i := 0) (ii := 0) (z := 36) rfl rfl z36 (by omega) W)
  have AT1 := Lib.hid (fun W => docAt (s := s) (i := 1) (ii := 1) (z := 40) rfl rfl z40 (by omega) W)
  have hd1 : s.drop p1 = r1 := by rw [← hp1, ← hr1, ← hr, List.drop_drop]
  have l1 : p1 + r1.length = s.length := by rw [← hd1, List.length_drop]; omega
  have hp12 := neq_two (show 2 < p1 by omega)
  have hnm2 : (s.take p1).drop 2 = name := by rw [List.drop_take, hr, show p1 - 2 = n by omega, hnm]
  obtain ⟨hp12a, hp12b⟩ := hp12
  have zb : hdI r1 = 123 := by have h := hd_pre r1 123 (by decide); rw [hb] at h; simpa using h
  have l2 : 1 ≤ r1.length := (List.isPrefixOf_iff_prefix.1 hb).length_le
  have l3 : 1 + x.length = r1.length := by rw [← hx, List.length_drop]; omega
  have l4 : m ≤ x.length := by rw [← hm]; exact takeWhile_len _ _
  obtain ⟨a1, ha1⟩ : ∃ a1, p1 + 1 = a1 := ⟨_, rfl⟩
  have ia1 : (p1 : Int) + 1 = (a1 : Int) := by omega
  have hda1 : s.drop a1 = x := by rw [← ha1, ← hx, ← hd1, List.drop_drop]
  obtain ⟨K, hK⟩ : ∃ K, a1 + m = K := ⟨_, rfl⟩
  have TO1 := Lib.hid (fun W => docTo s badK a1 (a1 : Int) rfl (by omega) (by omega) (by decide) K (by rw [hda1, hm, hK]) W)
  unfold badK at TO1
  have ATb := Lib.hid (fun W => docAt (s := s) (i := p1) (ii := ((p1 : Nat) : Int)) (z := 123) rfl hd1 zb (by omega) W)
  have hkey2 : (s.take K).drop a1 = key := by rw [List.drop_take, hda1, show K - a1 = m by omega, hkey]
  have hKa : ((K : Int) == (a1 : Int)) = true := by simp; omega
  have HBX := Lib.hid (show Below w.heap.size w (w.alloc (.cells #[.string (S e.host), .string (S e.ref), .string (S e.agent), .string (S e.cookie), .string (S e.lang), .string (S e.query)] 23)) by (repeat (first | (with_reducible exact Below.refl _ _) | (with_reducible assumption) | (with_reducible refine Below.drew ?_) | (focus ((with_reducible refine Below.setCell ?_ ?_ _); rotate_left; (first | omega | (simp <;> omega)))) | (focus ((with_reducible refine Below.alloc ?_ ?_ _); rotate_left; (first | omega | (simp <;> omega)))) | exact Below.refl _ _ | assumption | refine Below.drew ?_ | refine Below.alloc ?_ (by first | omega | (simp <;> omega)) _ | refine Below.setCell ?_ (by first | omega | (simp <;> omega)) _)))
  have h2p : 2 ≤ p1 := by omega
  have hp1s : (p1 : Int) ≤ 100010 := by omega
  clear hf
  go_enter Tryz.func9, Tryz.ntmps9
  go_wp2
  try simp only [mk_S]
  go_loop [6] (fun iv => ∃ p : Nat, iv = .int .i64 p ∧ 2 ≤ p ∧ p ≤ p1) (fun iv => p1 - (intOf iv).toNat)
  case atStart => exact ⟨2, rfl, Nat.le_refl _, h2p⟩
  case round =>
  obtain ⟨p, rfl, hp2', hpp⟩ := hrel
  by_cases hlt : p < p1
  · obtain ⟨z, hz', hlz⟩ := HLT.out p hp2' hlt
    have ATL := Lib.hid (fun W => docAt (s := s) (i := p) (ii := (p : Int)) (z := z) rfl rfl hz' (by omega) W)
    rcases hlz with ⟨g1, g2⟩ | g3
    · clear hz'
      go_wp2_with (go_at_call 26; (with_reducible refine Calls.mono (ATL.out _) ?_); rintro x wq ⟨rfl, hwq⟩; obtain rfl := hwq.symm)
      go_round
      case rel => exact ⟨p + 1, by go_num, by omega, by omega⟩
      case measure => simp [intOf]; omega
    · subst g3
      clear hz'
      go_wp2_with (go_at_call 26; (with_reducible refine Calls.mono (ATL.out _) ?_); rintro x wq ⟨rfl, hwq⟩; obtain rfl := hwq.symm)
      go_round
      case rel => exact ⟨p + 1, by go_num, by omega, by omega⟩
      case measure => simp [intOf]; omega
  obtain rfl : p = p1 := by omega
  go_wp2_with (first
    | (go_at_call 26; (with_reducible refine Calls.mono (AT0.out _) ?_); rintro x wq ⟨rfl, hwq⟩; obtain rfl := hwq.symm)
    | (go_at_call 26; (with_reducible refine Calls.mono (AT1.out _) ?_); rintro x wq ⟨rfl, hwq⟩; obtain rfl := hwq.symm)
    | (go_at_call 26; (with_reducible refine Calls.mono (ATb.out _) ?_); rintro x wq ⟨rfl, hwq⟩; obtain rfl := hwq.symm)
    | (go_at_call 27; (with_reducible refine Calls.mono (TO1.out _) ?_); rintro x w3 ⟨rfl, hb3⟩; have HBX := Lib.hid (Below.trans (show Below w.heap.size w _ by (have := HBX.out; (repeat (first | (with_reducible exact Below.refl _ _) | (with_reducible assumption) | (with_reducible refine Below.drew ?_) | (focus ((with_reducible refine Below.setCell ?_ ?_ _); rotate_left; (first | omega | (simp <;> omega)))) | (focus ((with_reducible refine Below.alloc ?_ ?_ _); rotate_left; (first | omega | (simp <;> omega)))) | exact Below.refl _ _ | assumption | refine Below.drew ?_ | refine Below.alloc ?_ (by first | omega | (simp <;> omega)) _ | refine Below.setCell ?_ (by first | omega | (simp <;> omega)) _)))) (hb3.mono (by (try simp only [World.size_alloc, World.size_setCell, World.size_drew]); omega))); obtain ⟨cc_hb3, ff_hb3⟩ := bk hb3 w.heap.size (by (try simp only [World.size_alloc, World.size_setCell, World.size_drew]); omega); have hz_hb3 := hb3.size; (try simp only [World.size_alloc, World.size_setCell, World.size_drew] at hz_hb3); clear hb3)
    | fail)
  go_ret2
  exact ⟨by first | rfl | (simp [*]; done) | (simp; omega), by (have := HBX.out; (repeat (first | (with_reducible exact Below.refl _ _) | (with_reducible assumption) | (with_reducible refine Below.drew ?_) | (focus ((with_reducible refine Below.setCell ?_ ?_ _); rotate_left; (first | omega | (simp <;> omega)))) | (focus ((with_reducible refine Below.alloc ?_ ?_ _); rotate_left; (first | omega | (simp <;> omega)))) | exact Below.refl _ _ | assumption | refine Below.drew ?_ | refine Below.alloc ?_ (by first | omega | (simp <;> omega)) _ | refine Below.setCell ?_ (by first | omega | (simp <;> omega)) _)))⟩

set_option maxHeartbeats 3200000 in
set_option maxRecDepth 100000 in
theorem dr_C1b (e : En) (hf : e.few) (s : List UInt8) (hs : s.length ≤ 100000) (w : World) (r : List UInt8) (n : Nat) (hp0 : Lib.hasPrefix s [36, 40] = true) (hr : s.drop 2 = r) (hn : (r.takeWhile letterB).length = n) (hn0 : 0 < n) (name r1 : List UInt8) (hnm : r.take n = name) (hr1 : r.drop n = r1) (hb : Lib.hasPrefix r1 [123] = true) (x : List UInt8) (hx : r1.drop 1 = x) (m : Nat) (hm : (x.takeWhile (notIn badK)).length = m) (key : List UInt8) (hkey : x.take m = key) (hm0 : 0 < m) (y : List UInt8) (hy : r1.drop (1 + m) = y) (hc : Lib.hasPrefix y [125] = false) :
    Calls Tryz.prog 9 #[e.v, .string (S s)] w fun x w' => x = .returned (.tuple #[.string (S []), .int .i64 0]) ∧ Below w.heap.size w w' := by
  have hsi : (s.length : Int) ≤ 100000 := by omega
  have lr : r.length ≤ s.length := by rw [← hr, List.length_drop]; omega
  have hnr : n ≤ r.length := by rw [← hn]; exact takeWhile_len _ _
  have HLT := Lib.hid (let_in hr hn)
  have HLE := Lib.hid (let_end hr hn)
  obtain ⟨p1, hp1⟩ : ∃ p1, 2 + n = p1 := ⟨_, rfl⟩
  rw [hp1] at HLT HLE
  have hp2 := hd_pre2 s 36 40 (by decide) (by decide)
  rw [hp0] at hp2
  have s2 : 2 ≤ s.length := (List.isPrefixOf_iff_prefix.1 hp0).length_le
  have lr2 : 2 + r.length = s.length := by rw [← hr, List.length_drop]; omega
  have z36 : hdI s = 36 := by simp at hp2; exact hp2.1
  have z40 : hdI (s.drop 1) = 40 := by simp at hp2; simpa using hp2.2
  clear hp2
  have AT0 := Lib.hid (fun W => docAt (s := s) (i := 0) (ii := 0) (z := 36) rfl rfl z36 (by omega) W)
  have AT1 := Lib.hid (fun W => docAt (s := s) (i := 1) (ii := 1) (z := 40) rfl rfl z40 (by omega) W)
  have hd1 : s.drop p1 = r1 := by rw [← hp1, ← hr1, ← hr, List.drop_drop]
  have l1 : p1 + r1.length = s.length := by rw [← hd1, List.length_drop]; omega
  have hp12 := neq_two (show 2 < p1 by omega)
  have hnm2 : (s.take p1).drop 2 = name := by rw [List.drop_take, hr, show p1 - 2 = n by omega, hnm]
  obtain ⟨hp12a, hp12b⟩ := hp12
  have zb : hdI r1 = 123 := by have h := hd_pre r1 123 (by decide); rw [hb] at h; simpa using h
  have l2 : 1 ≤ r1.length := (List.isPrefixOf_iff_prefix.1 hb).length_le
  have l3 : 1 + x.length = r1.length := by rw [← hx, List.length_drop]; omega
  have l4 : m ≤ x.length := by rw [← hm]; exact takeWhile_len _ _
  obtain ⟨a1, ha1⟩ : ∃ a1, p1 + 1 = a1 := ⟨_, rfl⟩
  have ia1 : (p1 : Int) + 1 = (a1 : Int) := by omega
  have hda1 : s.drop a1 = x := by rw [← ha1, ← hx, ← hd1, List.drop_drop]
  obtain ⟨K, hK⟩ : ∃ K, a1 + m = K := ⟨_, rfl⟩
  have TO1 := Lib.hid (fun W => docTo s badK a1 (a1 : Int) rfl (by omega) (by omega) (by decide) K (by rw [hda1, hm, hK]) W)
  unfold badK at TO1
  have ATb := Lib.hid (fun W => docAt (s := s) (i := p1) (ii := ((p1 : Nat) : Int)) (z := 123) rfl hd1 zb (by omega) W)
  have hkey2 : (s.take K).drop a1 = key := by rw [List.drop_take, hda1, show K - a1 = m by omega, hkey]
  have hdK : s.drop K = y := by rw [← hK, ← ha1, ← hy, ← hd1, List.drop_drop]; congr 1; omega
  have hKa1 : ((K : Int) == (a1 : Int)) = false := by simp only [beq_eq_false_iff_ne, ne_eq]; omega
  have hKa2 : ((K : Int) != (a1 : Int)) = true := by unfold bne; rw [hKa1]; rfl
  obtain ⟨zy, hzy⟩ : ∃ z, hdI y = z := ⟨_, rfl⟩
  have zyn : zy ≠ 125 := by have h := hd_pre y 125 (by decide); rw [hc, hzy] at h; simpa using h
  have hzy1 : ((zy : Int) == 125) = false := by simp only [beq_eq_false_iff_ne, ne_eq]; omega
  have hzy2 : ((zy : Int) != 125) = true := by unfold bne; rw [hzy1]; rfl
  have ATy := Lib.hid (fun W => docAt (s := s) (i := K) (ii := ((K : Nat) : Int)) (z := zy) rfl hdK hzy (by omega) W)
  have HBX := Lib.hid (show Below w.heap.size w (w.alloc (.cells #[.string (S e.host), .string (S e.ref), .string (S e.agent), .string (S e.cookie), .string (S e.lang), .string (S e.query)] 23)) by (repeat (first | (with_reducible exact Below.refl _ _) | (with_reducible assumption) | (with_reducible refine Below.drew ?_) | (focus ((with_reducible refine Below.setCell ?_ ?_ _); rotate_left; (first | omega | (simp <;> omega)))) | (focus ((with_reducible refine Below.alloc ?_ ?_ _); rotate_left; (first | omega | (simp <;> omega)))) | exact Below.refl _ _ | assumption | refine Below.drew ?_ | refine Below.alloc ?_ (by first | omega | (simp <;> omega)) _ | refine Below.setCell ?_ (by first | omega | (simp <;> omega)) _)))
  have h2p : 2 ≤ p1 := by omega
  have hp1s : (p1 : Int) ≤ 100010 := by omega
  clear hf
  go_enter Tryz.func9, Tryz.ntmps9
  go_wp2
  try simp only [mk_S]
  go_loop [6] (fun iv => ∃ p : Nat, iv = .int .i64 p ∧ 2 ≤ p ∧ p ≤ p1) (fun iv => p1 - (intOf iv).toNat)
  case atStart => exact ⟨2, rfl, Nat.le_refl _, h2p⟩
  case round =>
  obtain ⟨p, rfl, hp2', hpp⟩ := hrel
  by_cases hlt : p < p1
  · obtain ⟨z, hz', hlz⟩ := HLT.out p hp2' hlt
    have ATL := Lib.hid (fun W => docAt (s := s) (i := p) (ii := (p : Int)) (z := z) rfl rfl hz' (by omega) W)
    rcases hlz with ⟨g1, g2⟩ | g3
    · clear hz'
      go_wp2_with (go_at_call 26; (with_reducible refine Calls.mono (ATL.out _) ?_); rintro x wq ⟨rfl, hwq⟩; obtain rfl := hwq.symm)
      go_round
      case rel => exact ⟨p + 1, by go_num, by omega, by omega⟩
      case measure => simp [intOf]; omega
    · subst g3
      clear hz'
      go_wp2_with (go_at_call 26; (with_reducible refine Calls.mono (ATL.out _) ?_); rintro x wq ⟨rfl, hwq⟩; obtain rfl := hwq.symm)
      go_round
      case rel => exact ⟨p + 1, by go_num, by omega, by omega⟩
      case measure => simp [intOf]; omega
  obtain rfl : p = p1 := by omega
  go_wp2_with (first
    | (go_at_call 26; (with_reducible refine Calls.mono (AT0.out _) ?_); rintro x wq ⟨rfl, hwq⟩; obtain rfl := hwq.symm)
    | (go_at_call 26; (with_reducible refine Calls.mono (AT1.out _) ?_); rintro x wq ⟨rfl, hwq⟩; obtain rfl := hwq.symm)
    | (go_at_call 26; (with_reducible refine Calls.mono (ATb.out _) ?_); rintro x wq ⟨rfl, hwq⟩; obtain rfl := hwq.symm)
    | (go_at_call 27; (with_reducible refine Calls.mono (TO1.out _) ?_); rintro x w3 ⟨rfl, hb3⟩; have HBX := Lib.hid (Below.trans (show Below w.heap.size w _ by (have := HBX.out; (repeat (first | (with_reducible exact Below.refl _ _) | (with_reducible assumption) | (with_reducible refine Below.drew ?_) | (focus ((with_reducible refine Below.setCell ?_ ?_ _); rotate_left; (first | omega | (simp <;> omega)))) | (focus ((with_reducible refine Below.alloc ?_ ?_ _); rotate_left; (first | omega | (simp <;> omega)))) | exact Below.refl _ _ | assumption | refine Below.drew ?_ | refine Below.alloc ?_ (by first | omega | (simp <;> omega)) _ | refine Below.setCell ?_ (by first | omega | (simp <;> omega)) _)))) (hb3.mono (by (try simp only [World.size_alloc, World.size_setCell, World.size_drew]); omega))); obtain ⟨cc_hb3, ff_hb3⟩ := bk hb3 w.heap.size (by (try simp only [World.size_alloc, World.size_setCell, World.size_drew]); omega); have hz_hb3 := hb3.size; (try simp only [World.size_alloc, World.size_setCell, World.size_drew] at hz_hb3); clear hb3)
    | (go_at_call 26; (with_reducible refine Calls.mono (ATy.out _) ?_); rintro x wq ⟨rfl, hwq⟩; obtain rfl := hwq.symm)
    | fail)
  go_ret2
  exact ⟨by first | rfl | (simp [*]; done) | (simp; omega), by (have := HBX.out; (repeat (first | (with_reducible exact Below.refl _ _) | (with_reducible assumption) | (with_reducible refine Below.drew ?_) | (focus ((with_reducible refine Below.setCell ?_ ?_ _); rotate_left; (first | omega | (simp <;> omega)))) | (focus ((with_reducible refine Below.alloc ?_ ?_ _); rotate_left; (first | omega | (simp <;> omega)))) | exact Below.refl _ _ | assumption | refine Below.drew ?_ | refine Below.alloc ?_ (by first | omega | (simp <;> omega)) _ | refine Below.setCell ?_ (by first | omega | (simp <;> omega)) _)))⟩
end Go.Proofs.YtenflcaalckdfaaGreatDoor
