/- The reference that a text begins with, the document's: the walk of Ref, one theorem a way through it. Printed by tools/docref.py. The reference that a text begins with, the document's: the walk of Ref, one theorem a way through it. Printed by tools/docref.py. -/
import Derived.Test.YtenflcaalckdfaaGreatDoorVz35
namespace Go.Proofs.YtenflcaalckdfaaGreatDoor
open Go Go.RowKit Go.Sort Go.Shelf
set_option linter.unusedVariables false
set_option linter.unusedSimpArgs false

set_option maxHeartbeats 3200000 in
set_option maxRecDepth 100000 in
theorem dr_C1_D1n (e : En) (hf : e.few) (s : List UInt8) (hs : s.length ≤ 100000) (w : World) (r : List UInt8) (n : Nat) (hp0 : Lib.hasPrefix s [36, 40] = true) (hr : s.drop 2 = r) (hn : (r.takeWhile letterB).length = n) (hn0 : 0 < n) (name r1 : List UInt8) (hnm : r.take n = name) (hr1 : r.drop n = r1) (hb : Lib.hasPrefix r1 [123] = true) (x : List UInt8) (hx : r1.drop 1 = x) (m : Nat) (hm : (x.takeWhile (notIn badK)).length = m) (key : List UInt8) (hkey : x.take m = key) (hm0 : 0 < m) (y : List UInt8) (hy : r1.drop (1 + m) = y) (hc : Lib.hasPrefix y [125] = true) (r2 : List UInt8) (hr2 : r1.drop (2 + m) = r2) (hd : Lib.hasPrefix r2 [124, 39] = true) (z o r3 : List UInt8) (hz : r2.drop 2 = z) (hcu : cut1 z 39 = (o, r3, false)) :
    Calls Tryz.prog 9 #[e.v, .string (S s)] w fun x w' => x = .returned (.tuple #[.string (S []), .int .i64 0]) ∧ Below w.heap.size w w' := by
  have hsi : (s.length : Int) ≤ 100000 := by omega
  have lr : r.length ≤ s.length := by rw [← hr, List.length_drop]; omega
  have hnr : n ≤ r.length := by rw [← hn]; exact takeWhile_len _ _
  have HLT := Lib.hid (let_in hr hn)
  have HLE := Lib.hid (let_end hr hn)
  obtain ⟨p1, hp1⟩ : ∃ p1, 2 + n = p1 := ⟨_, rfl⟩
  rw [hp1] at HLT HLE
  have hp2 := hd_pre2 s 36 40 (by decide) (by decide)
  rw [hp0] at hp2
  have s2 : 2 ≤ s.length := (List.isPrefixOf_iff_prefix.1 hp0).length_le
  have lr2 : 2 + r.length = s.length := by rw [← hr, List.length_drop]; omega
  have z36 : hdI s = 36 := by simp at hp2; exact hp2.1
  have z40 : hdI (s.drop 1) = 40 := by simp at hp2; simpa using hp2.2
  clear hp2
  have AT0 := Lib.hid (fun W => docAt (s := s) (i := 0) (ii := 0) (z := 36) rfl rfl z36 (by omega) W)
  have AT1 := Lib.hid (fun W => docAt (s := s) (i := 1) (ii := 1) (z := 40) rfl rfl z40 (by omega) W)
  have hd1 : s.drop p1 = r1 := by rw [← hp1, ← hr1, ← hr, List.drop_drop]
  have l1 : p1 + r1.length = s.length := by rw [← hd1, List.length_drop]; omega
  have hp12 := neq_two (show 2 < p1 by omega)
  have hnm2 : (s.take p1).drop 2 = name := by rw [List.drop_take, hr, show p1 - 2 = n by omega, hnm]
  obtain ⟨hp12a, hp12b⟩ := hp12
  have zb : hdI r1 = 123 := by have h := hd_pre r1 123 (by decide); rw [hb] at h; simpa using h
  have l2 : 1 ≤ r1.length := (List.isPrefixOf_iff_prefix.1 hb).length_le
  have l3 : 1 + x.length = r1.length := by rw [← hx, List.length_drop]; omega
  have l4 : m ≤ x.length := by rw [← hm]; exact takeWhile_len _ _
  obtain ⟨a1, ha1⟩ : ∃ a1, p1 + 1 = a1 := ⟨_, rfl⟩
  have ia1 : (p1 : Int) + 1 = (a1 : Int) := by omega
  have hda1 : s.drop a1 = x := by rw [← ha1, ← hx, ← hd1, List.drop_drop]
  obtain ⟨K, hK⟩ : ∃ K, a1 + m = K := ⟨_, rfl⟩
  have TO1 := Lib.hid (fun W => docTo s badK a1 (a1 : Int) rfl (by omega) (by omega) (by decide) K (by rw [hda1, hm, hK]) W)
  unfold badK at TO1
  have ATb := Lib.hid (fun W => docAt (s := s) (i := p1) (ii := ((p1 : Nat) : Int)) (z := 123) rfl hd1 zb (by omega) W)
  have hkey2 : (s.take K).drop a1 = key := by rw [List.drop_take, hda1, show K - a1 = m by omega, hkey]
  have hdK : s.drop K = y := by rw [← hK, ← ha1, ← hy, ← hd1, List.drop_drop]; congr 1; omega
  have hKa1 : ((K : Int) == (a1 : Int)) = false := by simp only [beq_eq_false_iff_ne, ne_eq]; omega
  have hKa2 : ((K : Int) != (a1 : Int)) = true := by unfold bne; rw [hKa1]; rfl
  have zy : hdI y = 125 := by have h := hd_pre y 125 (by decide); rw [hc] at h; simpa using h
  have l5 : 1 ≤ y.length := (List.isPrefixOf_iff_prefix.1 hc).length_le
  have l6 : K + y.length = s.length := by rw [← hdK, List.length_drop]; omega
  have ATy := Lib.hid (fun W => docAt (s := s) (i := K) (ii := ((K : Nat) : Int)) (z := 125) rfl hdK zy (by omega) W)
  obtain ⟨p2, hp2e⟩ : ∃ p2, K + 1 = p2 := ⟨_, rfl⟩
  have ip2 : (K : Int) + 1 = (p2 : Int) := by omega
  have hd2 : s.drop p2 = r2 := by rw [← hp2e, ← hK, ← ha1, ← hr2, ← hd1, List.drop_drop]; congr 1; omega
  have l7 : p2 + r2.length = s.length := by rw [← hd2, List.length_drop]; omega
  have hq2 := hd_pre2 r2 124 39 (by decide) (by decide)
  rw [hd] at hq2
  have zq : hdI r2 = 124 := by simp at hq2; exact hq2.1
  have zq1 : hdI (r2.drop 1) = 39 := by simp at hq2; simpa using hq2.2
  clear hq2
  have l8 : 2 ≤ r2.length := (List.isPrefixOf_iff_prefix.1 hd).length_le
  obtain ⟨b1, hb1⟩ : ∃ b1, p2 + 1 = b1 := ⟨_, rfl⟩
  have ib1 : (p2 : Int) + 1 = (b1 : Int) := by omega
  obtain ⟨b2, hb2⟩ : ∃ b2, p2 + 2 = b2 := ⟨_, rfl⟩
  have ib2 : (p2 : Int) + 2 = (b2 : Int) := by omega
  have hdb1 : s.drop b1 = r2.drop 1 := by rw [← hb1, ← hd2, List.drop_drop]
  have hdb2 : s.drop b2 = z := by rw [← hb2, ← hz, ← hd2, List.drop_drop]
  have l9 : b2 + z.length = s.length := by rw [← hdb2, List.length_drop]; omega
  have ATq := Lib.hid (fun W => docAt (s := s) (i := p2) (ii := ((p2 : Nat) : Int)) (z := 124) rfl hd2 zq (by omega) W)
  have ATq1 := Lib.hid (fun W => docAt (s := s) (i := b1) (ii := ((b1 : Nat) : Int)) (z := 39) rfl hdb1 zq1 (by omega) W)
  have hw := cut_no hcu
  have TO2 := Lib.hid (fun W => docTo s [39] b2 (b2 : Int) rfl (by omega) (by omega) (by decide) s.length (by rw [hdb2, hw]; exact l9) W)
  have HBX := Lib.hid (show Below w.heap.size w (w.alloc (.cells #[.string (S e.host), .string (S e.ref), .string (S e.agent), .string (S e.cookie), .string (S e.lang), .string (S e.query)] 23)) by (repeat (first | (with_reducible exact Below.refl _ _) | (with_reducible assumption) | (with_reducible refine Below.drew ?_) | (focus ((with_reducible refine Below.setCell ?_ ?_ _); rotate_left; (first | omega | (simp <;> omega)))) | (focus ((with_reducible refine Below.alloc ?_ ?_ _); rotate_left; (first | omega | (simp <;> omega)))) | exact Below.refl _ _ | assumption | refine Below.drew ?_ | refine Below.alloc ?_ (by first | omega | (simp <;> omega)) _ | refine Below.setCell ?_ (by first | omega | (simp <;> omega)) _)))
  have h2p : 2 ≤ p1 := by omega
  have hp1s : (p1 : Int) ≤ 100010 := by omega
  clear hf
  go_enter Tryz.func9, Tryz.ntmps9
  go_wp2
  try simp only [mk_S]
  go_loop [6] (fun iv => ∃ p : Nat, iv = .int .i64 p ∧ 2 ≤ p ∧ p ≤ p1) (fun iv => p1 - (intOf iv).toNat)
  case atStart => exact ⟨2, rfl, Nat.le_refl _, h2p⟩
  case round =>
  obtain ⟨p, rfl, hp2', hpp⟩ := hrel
  by_cases hlt : p < p1
  · obtain ⟨z, hz', hlz⟩ := HLT.out p hp2' hlt
    have ATL := Lib.hid (fun W => docAt (s := s) (i := p) (ii := (p : Int)) (z := z) rfl rfl hz' (by omega) W)
    rcases hlz with ⟨g1, g2⟩ | g3
    · clear hz'
      go_wp2_with (go_at_call 26; (with_reducible refine Calls.mono (ATL.out _) ?_); rintro x wq ⟨rfl, hwq⟩; obtain rfl := hwq.symm)
      go_round
      case rel => exact ⟨p + 1, by go_num, by omega, by omega⟩
      case measure => simp [intOf]; omega
    · subst g3
      clear hz'
      go_wp2_with (go_at_call 26; (with_reducible refine Calls.mono (ATL.out _) ?_); rintro x wq ⟨rfl, hwq⟩; obtain rfl := hwq.symm)
      go_round
      case rel => exact ⟨p + 1, by go_num, by omega, by omega⟩
      case measure => simp [intOf]; omega
  obtain rfl : p = p1 := by omega
  go_wp2_with (first
    | (go_at_call 26; (with_reducible refine Calls.mono (AT0.out _) ?_); rintro x wq ⟨rfl, hwq⟩; obtain rfl := hwq.symm)
    | (go_at_call 26; (with_reducible refine Calls.mono (AT1.out _) ?_); rintro x wq ⟨rfl, hwq⟩; obtain rfl := hwq.symm)
    | (go_at_call 26; (with_reducible refine Calls.mono (ATb.out _) ?_); rintro x wq ⟨rfl, hwq⟩; obtain rfl := hwq.symm)
    | (go_at_call 27; (with_reducible refine Calls.mono (TO1.out _) ?_); rintro x w3 ⟨rfl, hb3⟩; have HBX := Lib.hid (Below.trans (show Below w.heap.size w _ by (have := HBX.out; (repeat (first | (with_reducible exact Below.refl _ _) | (with_reducible assumption) | (with_reducible refine Below.drew ?_) | (focus ((with_reducible refine Below.setCell ?_ ?_ _); rotate_left; (first | omega | (simp <;> omega)))) | (focus ((with_reducible refine Below.alloc ?_ ?_ _); rotate_left; (first | omega | (simp <;> omega)))) | exact Below.refl _ _ | assumption | refine Below.drew ?_ | refine Below.alloc ?_ (by first | omega | (simp <;> omega)) _ | refine Below.setCell ?_ (by first | omega | (simp <;> omega)) _)))) (hb3.mono (by (try simp only [World.size_alloc, World.size_setCell, World.size_drew]); omega))); obtain ⟨cc_hb3, ff_hb3⟩ := bk hb3 w.heap.size (by (try simp only [World.size_alloc, World.size_setCell, World.size_drew]); omega); have hz_hb3 := hb3.size; (try simp only [World.size_alloc, World.size_setCell, World.size_drew] at hz_hb3); clear hb3)
    | (go_at_call 26; (with_reducible refine Calls.mono (ATy.out _) ?_); rintro x wq ⟨rfl, hwq⟩; obtain rfl := hwq.symm)
    | (go_at_call 26; (with_reducible refine Calls.mono (ATq.out _) ?_); rintro x wq ⟨rfl, hwq⟩; obtain rfl := hwq.symm)
    | (go_at_call 26; (with_reducible refine Calls.mono (ATq1.out _) ?_); rintro x wq ⟨rfl, hwq⟩; obtain rfl := hwq.symm)
    | (go_at_call 27; (with_reducible refine Calls.mono (TO2.out _) ?_); rintro x w5 ⟨rfl, hb5⟩; have HBX := Lib.hid (Below.trans (show Below w.heap.size w _ by (have := HBX.out; (repeat (first | (with_reducible exact Below.refl _ _) | (with_reducible assumption) | (with_reducible refine Below.drew ?_) | (focus ((with_reducible refine Below.setCell ?_ ?_ _); rotate_left; (first | omega | (simp <;> omega)))) | (focus ((with_reducible refine Below.alloc ?_ ?_ _); rotate_left; (first | omega | (simp <;> omega)))) | exact Below.refl _ _ | assumption | refine Below.drew ?_ | refine Below.alloc ?_ (by first | omega | (simp <;> omega)) _ | refine Below.setCell ?_ (by first | omega | (simp <;> omega)) _)))) (hb5.mono (by (try simp only [World.size_alloc, World.size_setCell, World.size_drew]); omega))); obtain ⟨cc_hb5, ff_hb5⟩ := bk hb5 w.heap.size (by (try simp only [World.size_alloc, World.size_setCell, World.size_drew]); omega); have hz_hb5 := hb5.size; (try simp only [World.size_alloc, World.size_setCell, World.size_drew] at hz_hb5); clear hb5)
    | fail)
  go_ret2
  exact ⟨by first | rfl | (simp [*]; done) | (simp; omega), by (have := HBX.out; (repeat (first | (with_reducible exact Below.refl _ _) | (with_reducible assumption) | (with_reducible refine Below.drew ?_) | (focus ((with_reducible refine Below.setCell ?_ ?_ _); rotate_left; (first | omega | (simp <;> omega)))) | (focus ((with_reducible refine Below.alloc ?_ ?_ _); rotate_left; (first | omega | (simp <;> omega)))) | exact Below.refl _ _ | assumption | refine Below.drew ?_ | refine Below.alloc ?_ (by first | omega | (simp <;> omega)) _ | refine Below.setCell ?_ (by first | omega | (simp <;> omega)) _)))⟩

set_option maxHeartbeats 3200000 in
set_option maxRecDepth 100000 in
theorem dr_C1_D1_no (e : En) (hf : e.few) (s : List UInt8) (hs : s.length ≤ 100000) (w : World) (r : List UInt8) (n : Nat) (hp0 : Lib.hasPrefix s [36, 40] = true) (hr : s.drop 2 = r) (hn : (r.takeWhile letterB).length = n) (hn0 : 0 < n) (name r1 : List UInt8) (hnm : r.take n = name) (hr1 : r.drop n = r1) (hb : Lib.hasPrefix r1 [123] = true) (x : List UInt8) (hx : r1.drop 1 = x) (m : Nat) (hm : (x.takeWhile (notIn badK)).length = m) (key : List UInt8) (hkey : x.take m = key) (hm0 : 0 < m) (y : List UInt8) (hy : r1.drop (1 + m) = y) (hc : Lib.hasPrefix y [125] = true) (r2 : List UInt8) (hr2 : r1.drop (2 + m) = r2) (hd : Lib.hasPrefix r2 [124, 39] = true) (z o r3 : List UInt8) (hz : r2.drop 2 = z) (hcu : cut1 z 39 = (o, r3, true)) (hE : Lib.hasPrefix r3 [41] = false) :
    Calls Tryz.prog 9 #[e.v, .string (S s)] w fun x w' => x = .returned (.tuple #[.string (S []), .int .i64 0]) ∧ Below w.heap.size w w' := by
  have hsi : (s.length : Int) ≤ 100000 := by omega
  have lr : r.length ≤ s.length := by rw [← hr, List.length_drop]; omega
  have hnr : n ≤ r.length := by rw [← hn]; exact takeWhile_len _ _
  have HLT := Lib.hid (let_in hr hn)
  have HLE := Lib.hid (let_end hr hn)
  obtain ⟨p1, hp1⟩ : ∃ p1, 2 + n = p1 := ⟨_, rfl⟩
  rw [hp1] at HLT HLE
  have hp2 := hd_pre2 s 36 40 (by decide) (by decide)
  rw [hp0] at hp2
  have s2 : 2 ≤ s.length := (List.isPrefixOf_iff_prefix.1 hp0).length_le
  have lr2 : 2 + r.length = s.length := by rw [← hr, List.length_drop]; omega
  have z36 : hdI s = 36 := by simp at hp2; exact hp2.1
  have z40 : hdI (s.drop 1) = 40 := by simp at hp2; simpa using hp2.2
  clear hp2
  have AT0 := Lib.hid (fun W => docAt (s := s) (i := 0) (ii := 0) (z := 36) rfl rfl z36 (by omega) W)
  have AT1 := Lib.hid (fun W => docAt (s := s) (i := 1) (ii := 1) (z := 40) rfl rfl z40 (by omega) W)
  have hd1 : s.drop p1 = r1 := by rw [← hp1, ← hr1, ← hr, List.drop_drop]
  have l1 : p1 + r1.length = s.length := by rw [← hd1, List.length_drop]; omega
  have hp12 := neq_two (show 2 < p1 by omega)
  have hnm2 : (s.take p1).drop 2 = name := by rw [List.drop_take, hr, show p1 - 2 = n by omega, hnm]
  obtain ⟨hp12a, hp12b⟩ := hp12
  have zb : hdI r1 = 123 := by have h := hd_pre r1 123 (by decide); rw [hb] at h; simpa using h
  have l2 : 1 ≤ r1.length := (List.isPrefixOf_iff_prefix.1 hb).length_le
  have l3 : 1 + x.length = r1.length := by rw [← hx, List.length_drop]; omega
  have l4 : m ≤ x.length := by rw [← hm]; exact takeWhile_len _ _
  obtain ⟨a1, ha1⟩ : ∃ a1, p1 + 1 = a1 := ⟨_, rfl⟩
  have ia1 : (p1 : Int) + 1 = (a1 : Int) := by omega
  have hda1 : s.drop a1 = x := by rw [← ha1, ← hx, ← hd1, List.drop_drop]
  obtain ⟨K, hK⟩ : ∃ K, a1 + m = K := ⟨_, rfl⟩
  have TO1 := Lib.hid (fun W => docTo s badK a1 (a1 : Int) rfl (by omega) (by omega) (by decide) K (by rw [hda1, hm, hK]) W)
  unfold badK at TO1
  have ATb := Lib.hid (fun W => docAt (s := s) (i := p1) (ii := ((p1 : Nat) : Int)) (z := 123) rfl hd1 zb (by omega) W)
  have hkey2 : (s.take K).drop a1 = key := by rw [List.drop_take, hda1, show K - a1 = m by omega, hkey]
  have hdK : s.drop K = y := by rw [← hK, ← ha1, ← hy, ← hd1, List.drop_drop]; congr 1; omega
  have hKa1 : ((K : Int) == (a1 : Int)) = false := by simp only [beq_eq_false_iff_ne, ne_eq]; omega
  have hKa2 : ((K : Int) != (a1 : Int)) = true := by unfold bne; rw [hKa1]; rfl
  have zy : hdI y = 125 := by have h := hd_pre y 125 (by decide); rw [hc] at h; simpa using h
  have l5 : 1 ≤ y.length := (List.isPrefixOf_iff_prefix.1 hc).length_le
  have l6 : K + y.length = s.length := by rw [← hdK, List.length_drop]; omega
  have ATy := Lib.hid (fun W => docAt (s := s) (i := K) (ii := ((K : Nat) : Int)) (z := 125) rfl hdK zy (by omega) W)
  obtain ⟨p2, hp2e⟩ : ∃ p2, K + 1 = p2 := ⟨_, rfl⟩
  have ip2 : (K : Int) + 1 = (p2 : Int) := by omega
  have hd2 : s.drop p2 = r2 := by rw [← hp2e, ← hK, ← ha1, ← hr2, ← hd1, List.drop_drop]; congr 1; omega
  have l7 : p2 + r2.length = s.length := by rw [← hd2, List.length_drop]; omega
  have hq2 := hd_pre2 r2 124 39 (by decide) (by decide)
  rw [hd] at hq2
  have zq : hdI r2 = 124 := by simp at hq2; exact hq2.1
  have zq1 : hdI (r2.drop 1) = 39 := by simp at hq2; simpa using hq2.2
  clear hq2
  have l8 : 2 ≤ r2.length := (List.isPrefixOf_iff_prefix.1 hd).length_le
  obtain ⟨b1, hb1⟩ : ∃ b1, p2 + 1 = b1 := ⟨_, rfl⟩
  have ib1 : (p2 : Int) + 1 = (b1 : Int) := by omega
  obtain ⟨b2, hb2⟩ : ∃ b2, p2 + 2 = b2 := ⟨_, rfl⟩
  have ib2 : (p2 : Int) + 2 = (b2 : Int) := by omega
  have hdb1 : s.drop b1 = r2.drop 1 := by rw [← hb1, ← hd2, List.drop_drop]
  have hdb2 : s.drop b2 = z := by rw [← hb2, ← hz, ← hd2, List.drop_drop]
  have l9 : b2 + z.length = s.length := by rw [← hdb2, List.length_drop]; omega
  have ATq := Lib.hid (fun W => docAt (s := s) (i := p2) (ii := ((p2 : Nat) : Int)) (z := 124) rfl hd2 zq (by omega) W)
  have ATq1 := Lib.hid (fun W => docAt (s := s) (i := b1) (ii := ((b1 : Nat) : Int)) (z := 39) rfl hdb1 zq1 (by omega) W)
  obtain ⟨hw, hzo⟩ := cut_yes hcu
  obtain ⟨K2, hK2⟩ : ∃ K2, b2 + o.length = K2 := ⟨_, rfl⟩
  have l10 : o.length + 1 + r3.length = z.length := by rw [hzo]; simp; omega
  have TO2 := Lib.hid (fun W => docTo s [39] b2 (b2 : Int) rfl (by omega) (by omega) (by decide) K2 (by rw [hdb2, hw]; exact hK2) W)
  have hK2s1 : ((K2 : Int) == (s.length : Int)) = false := by simp only [beq_eq_false_iff_ne, ne_eq]; omega
  have hK2s2 : ((K2 : Int) != (s.length : Int)) = true := by unfold bne; rw [hK2s1]; rfl
  obtain ⟨p3, hp3⟩ : ∃ p3, K2 + 1 = p3 := ⟨_, rfl⟩
  have ip3 : (K2 : Int) + 1 = (p3 : Int) := by omega
  have ho2 : (s.take K2).drop b2 = o := by rw [List.drop_take, hdb2, show K2 - b2 = o.length by omega, hzo, List.take_left]
  have hd3 : s.drop p3 = r3 := by rw [← hp3, ← hK2, show b2 + o.length + 1 = b2 + (o.length + 1) by omega, ← List.drop_drop, hdb2, hzo, show o ++ 39 :: r3 = (o ++ [39]) ++ r3 by simp]; exact List.drop_left' (by simp)
  have l11 : p3 + r3.length = s.length := by have h := congrArg List.length hd3; rw [List.length_drop] at h; omega
  obtain ⟨zE, hzE⟩ : ∃ z, hdI r3 = z := ⟨_, rfl⟩
  have zEn : zE ≠ 41 := by have h := hd_pre r3 41 (by decide); rw [hE, hzE] at h; simpa using h
  have hzE1 : ((zE : Int) == 41) = false := by simp only [beq_eq_false_iff_ne, ne_eq]; omega
  have hzE2 : ((zE : Int) != 41) = true := by unfold bne; rw [hzE1]; rfl
  have ATe := Lib.hid (fun W => docAt (s := s) (i := p3) (ii := ((p3 : Nat) : Int)) (z := zE) rfl hd3 hzE (by omega) W)
  have HBX := Lib.hid (show Below w.heap.size w (w.alloc (.cells #[.string (S e.host), .string (S e.ref), .string (S e.agent), .string (S e.cookie), .string (S e.lang), .string (S e.query)] 23)) by (repeat (first | (with_reducible exact Below.refl _ _) | (with_reducible assumption) | (with_reducible refine Below.drew ?_) | (focus ((with_reducible refine Below.setCell ?_ ?_ _); rotate_left; (first | omega | (simp <;> omega)))) | (focus ((with_reducible refine Below.alloc ?_ ?_ _); rotate_left; (first | omega | (simp <;> omega)))) | exact Below.refl _ _ | assumption | refine Below.drew ?_ | refine Below.alloc ?_ (by first | omega | (simp <;> omega)) _ | refine Below.setCell ?_ (by first | omega | (simp <;> omega)) _)))
  have h2p : 2 ≤ p1 := by omega
  have hp1s : (p1 : Int) ≤ 100010 := by omega
  clear hf
  go_enter Tryz.func9, Tryz.ntmps9
  go_wp2
  try simp only [mk_S]
  go_loop [6] (fun iv => ∃ p : Nat, iv = .int .i64 p ∧ 2 ≤ p ∧ p ≤ p1) (fun iv => p1 - (intOf iv).toNat)
  case atStart => exact ⟨2, rfl, Nat.le_refl _, h2p⟩
  case round =>
  obtain ⟨p, rfl, hp2', hpp⟩ := hrel
  by_cases hlt : p < p1
  · obtain ⟨z, hz', hlz⟩ := HLT.out p hp2' hlt
    have ATL := Lib.hid (fun W => docAt (s := s) (i := p) (ii := (p : Int)) (z := z) rfl rfl hz' (by omega) W)
    rcases hlz with ⟨g1, g2⟩ | g3
    · clear hz'
      go_wp2_with (go_at_call 26; (with_reducible refine Calls.mono (ATL.out _) ?_); rintro x wq ⟨rfl, hwq⟩; obtain rfl := hwq.symm)
      go_round
      case rel => exact ⟨p + 1, by go_num, by omega, by omega⟩
      case measure => simp [intOf]; omega
    · subst g3
      clear hz'
      go_wp2_with (go_at_call 26; (with_reducible refine Calls.mono (ATL.out _) ?_); rintro x wq ⟨rfl, hwq⟩; obtain rfl := hwq.symm)
      go_round
      case rel => exact ⟨p + 1, by go_num, by omega, by omega⟩
      case measure => simp [intOf]; omega
  obtain rfl : p = p1 := by omega
  go_wp2_with (first
    | (go_at_call 26; (with_reducible refine Calls.mono (AT0.out _) ?_); rintro x wq ⟨rfl, hwq⟩; obtain rfl := hwq.symm)
    | (go_at_call 26; (with_reducible refine Calls.mono (AT1.out _) ?_); rintro x wq ⟨rfl, hwq⟩; obtain rfl := hwq.symm)
    | (go_at_call 26; (with_reducible refine Calls.mono (ATb.out _) ?_); rintro x wq ⟨rfl, hwq⟩; obtain rfl := hwq.symm)
    | (go_at_call 27; (with_reducible refine Calls.mono (TO1.out _) ?_); rintro x w3 ⟨rfl, hb3⟩; have HBX := Lib.hid (Below.trans (show Below w.heap.size w _ by (have := HBX.out; (repeat (first | (with_reducible exact Below.refl _ _) | (with_reducible assumption) | (with_reducible refine Below.drew ?_) | (focus ((with_reducible refine Below.setCell ?_ ?_ _); rotate_left; (first | omega | (simp <;> omega)))) | (focus ((with_reducible refine Below.alloc ?_ ?_ _); rotate_left; (first | omega | (simp <;> omega)))) | exact Below.refl _ _ | assumption | refine Below.drew ?_ | refine Below.alloc ?_ (by first | omega | (simp <;> omega)) _ | refine Below.setCell ?_ (by first | omega | (simp <;> omega)) _)))) (hb3.mono (by (try simp only [World.size_alloc, World.size_setCell, World.size_drew]); omega))); obtain ⟨cc_hb3, ff_hb3⟩ := bk hb3 w.heap.size (by (try simp only [World.size_alloc, World.size_setCell, World.size_drew]); omega); have hz_hb3 := hb3.size; (try simp only [World.size_alloc, World.size_setCell, World.size_drew] at hz_hb3); clear hb3)
    | (go_at_call 26; (with_reducible refine Calls.mono (ATy.out _) ?_); rintro x wq ⟨rfl, hwq⟩; obtain rfl := hwq.symm)
    | (go_at_call 26; (with_reducible refine Calls.mono (ATq.out _) ?_); rintro x wq ⟨rfl, hwq⟩; obtain rfl := hwq.symm)
    | (go_at_call 26; (with_reducible refine Calls.mono (ATq1.out _) ?_); rintro x wq ⟨rfl, hwq⟩; obtain rfl := hwq.symm)
    | (go_at_call 27; (with_reducible refine Calls.mono (TO2.out _) ?_); rintro x w5 ⟨rfl, hb5⟩; have HBX := Lib.hid (Below.trans (show Below w.heap.size w _ by (have := HBX.out; (repeat (first | (with_reducible exact Below.refl _ _) | (with_reducible assumption) | (with_reducible refine Below.drew ?_) | (focus ((with_reducible refine Below.setCell ?_ ?_ _); rotate_left; (first | omega | (simp <;> omega)))) | (focus ((with_reducible refine Below.alloc ?_ ?_ _); rotate_left; (first | omega | (simp <;> omega)))) | exact Below.refl _ _ | assumption | refine Below.drew ?_ | refine Below.alloc ?_ (by first | omega | (simp <;> omega)) _ | refine Below.setCell ?_ (by first | omega | (simp <;> omega)) _)))) (hb5.mono (by (try simp only [World.size_alloc, World.size_setCell, World.size_drew]); omega))); obtain ⟨cc_hb5, ff_hb5⟩ := bk hb5 w.heap.size (by (try simp only [World.size_alloc, World.size_setCell, World.size_drew]); omega); have hz_hb5 := hb5.size; (try simp only [World.size_alloc, World.size_setCell, World.size_drew] at hz_hb5); clear hb5)
    | (go_at_call 26; (with_reducible refine Calls.mono (ATe.out _) ?_); rintro x wq ⟨rfl, hwq⟩; obtain rfl := hwq.symm)
    | fail)
  go_ret2
  exact ⟨by first | rfl | (simp [*]; done) | (simp; omega), by (have := HBX.out; (repeat (first | (with_reducible exact Below.refl _ _) | (with_reducible assumption) | (with_reducible refine Below.drew ?_) | (focus ((with_reducible refine Below.setCell ?_ ?_ _); rotate_left; (first | omega | (simp <;> omega)))) | (focus ((with_reducible refine Below.alloc ?_ ?_ _); rotate_left; (first | omega | (simp <;> omega)))) | exact Below.refl _ _ | assumption | refine Below.drew ?_ | refine Below.alloc ?_ (by first | omega | (simp <;> omega)) _ | refine Below.setCell ?_ (by first | omega | (simp <;> omega)) _)))⟩

set_option maxHeartbeats 3200000 in
set_option maxRecDepth 100000 in
theorem dr_C1_D1_is (e : En) (hf : e.few) (s : List UInt8) (hs : s.length ≤ 100000) (w : World) (r : List UInt8) (n : Nat) (hp0 : Lib.hasPrefix s [36, 40] = true) (hr : s.drop 2 = r) (hn : (r.takeWhile letterB).length = n) (hn0 : 0 < n) (name r1 : List UInt8) (hnm : r.take n = name) (hr1 : r.drop n = r1) (hb : Lib.hasPrefix r1 [123] = true) (x : List UInt8) (hx : r1.drop 1 = x) (m : Nat) (hm : (x.takeWhile (notIn badK)).length = m) (key : List UInt8) (hkey : x.take m = key) (hm0 : 0 < m) (y : List UInt8) (hy : r1.drop (1 + m) = y) (hc : Lib.hasPrefix y [125] = true) (r2 : List UInt8) (hr2 : r1.drop (2 + m) = r2) (hd : Lib.hasPrefix r2 [124, 39] = true) (z o r3 : List UInt8) (hz : r2.drop 2 = z) (hcu : cut1 z 39 = (o, r3, true)) (hE : Lib.hasPrefix r3 [41] = true) (v : List UInt8) (hv : valV e name key = (v, true)) :
    Calls Tryz.prog 9 #[e.v, .string (S s)] w fun x w' => x = .returned (.tuple #[.string (S v), .int .i64 ((s.length : Int) - r3.length + 1)]) ∧ Below w.heap.size w w' := by
  have hsi : (s.length : Int) ≤ 100000 := by omega
  have lr : r.length ≤ s.length := by rw [← hr, List.length_drop]; omega
  have hnr : n ≤ r.length := by rw [← hn]; exact takeWhile_len _ _
  have HLT := Lib.hid (let_in hr hn)
  have HLE := Lib.hid (let_end hr hn)
  obtain ⟨p1, hp1⟩ : ∃ p1, 2 + n = p1 := ⟨_, rfl⟩
  rw [hp1] at HLT HLE
  have hp2 := hd_pre2 s 36 40 (by decide) (by decide)
  rw [hp0] at hp2
  have s2 : 2 ≤ s.length := (List.isPrefixOf_iff_prefix.1 hp0).length_le
  have lr2 : 2 + r.length = s.length := by rw [← hr, List.length_drop]; omega
  have z36 : hdI s = 36 := by simp at hp2; exact hp2.1
  have z40 : hdI (s.drop 1) = 40 := by simp at hp2; simpa using hp2.2
  clear hp2
  have AT0 := Lib.hid (fun W => docAt (s := s) (i := 0) (ii := 0) (z := 36) rfl rfl z36 (by omega) W)
  have AT1 := Lib.hid (fun W => docAt (s := s) (i := 1) (ii := 1) (z := 40) rfl rfl z40 (by omega) W)
  have hd1 : s.drop p1 = r1 := by rw [← hp1, ← hr1, ← hr, List.drop_drop]
  have l1 : p1 + r1.length = s.length := by rw [← hd1, List.length_drop]; omega
  have hp12 := neq_two (show 2 < p1 by omega)
  have hnm2 : (s.take p1).drop 2 = name := by rw [List.drop_take, hr, show p1 - 2 = n by omega, hnm]
  obtain ⟨hp12a, hp12b⟩ := hp12
  have zb : hdI r1 = 123 := by have h := hd_pre r1 123 (by decide); rw [hb] at h; simpa using h
  have l2 : 1 ≤ r1.length := (List.isPrefixOf_iff_prefix.1 hb).length_le
  have l3 : 1 + x.length = r1.length := by rw [← hx, List.length_drop]; omega
  have l4 : m ≤ x.length := by rw [← hm]; exact takeWhile_len _ _
  obtain ⟨a1, ha1⟩ : ∃ a1, p1 + 1 = a1 := ⟨_, rfl⟩
  have ia1 : (p1 : Int) + 1 = (a1 : Int) := by omega
  have hda1 : s.drop a1 = x := by rw [← ha1, ← hx, ← hd1, List.drop_drop]
  obtain ⟨K, hK⟩ : ∃ K, a1 + m = K := ⟨_, rfl⟩
  have TO1 := Lib.hid (fun W => docTo s badK a1 (a1 : Int) rfl (by omega) (by omega) (by decide) K (by rw [hda1, hm, hK]) W)
  unfold badK at TO1
  have ATb := Lib.hid (fun W => docAt (s := s) (i := p1) (ii := ((p1 : Nat) : Int)) (z := 123) rfl hd1 zb (by omega) W)
  have hkey2 : (s.take K).drop a1 = key := by rw [List.drop_take, hda1, show K - a1 = m by omega, hkey]
  have hdK : s.drop K = y := by rw [← hK, ← ha1, ← hy, ← hd1, List.drop_drop]; congr 1; omega
  have hKa1 : ((K : Int) == (a1 : Int)) = false := by simp only [beq_eq_false_iff_ne, ne_eq]; omega
  have hKa2 : ((K : Int) != (a1 : Int)) = true := by unfold bne; rw [hKa1]; rfl
  have zy : hdI y = 125 := by have h := hd_pre y 125 (by decide); rw [hc] at h; simpa using h
  have l5 : 1 ≤ y.length := (List.isPrefixOf_iff_prefix.1 hc).length_le
  have l6 : K + y.length = s.length := by rw [← hdK, List.length_drop]; omega
  have ATy := Lib.hid (fun W => docAt (s := s) (i := K) (ii := ((K : Nat) : Int)) (z := 125) rfl hdK zy (by omega) W)
  obtain ⟨p2, hp2e⟩ : ∃ p2, K + 1 = p2 := ⟨_, rfl⟩
  have ip2 : (K : Int) + 1 = (p2 : Int) := by omega
  have hd2 : s.drop p2 = r2 := by rw [← hp2e, ← hK, ← ha1, ← hr2, ← hd1, List.drop_drop]; congr 1; omega
  have l7 : p2 + r2.length = s.length := by rw [← hd2, List.length_drop]; omega
  have hq2 := hd_pre2 r2 124 39 (by decide) (by decide)
  rw [hd] at hq2
  have zq : hdI r2 = 124 := by simp at hq2; exact hq2.1
  have zq1 : hdI (r2.drop 1) = 39 := by simp at hq2; simpa using hq2.2
  clear hq2
  have l8 : 2 ≤ r2.length := (List.isPrefixOf_iff_prefix.1 hd).length_le
  obtain ⟨b1, hb1⟩ : ∃ b1, p2 + 1 = b1 := ⟨_, rfl⟩
  have ib1 : (p2 : Int) + 1 = (b1 : Int) := by omega
  obtain ⟨b2, hb2⟩ : ∃ b2, p2 + 2 = b2 := ⟨_, rfl⟩
  have ib2 : (p2 : Int) + 2 = (b2 : Int) := by omega
  have hdb1 : s.drop b1 = r2.drop 1 := by rw [← hb1, ← hd2, List.drop_drop]
  have hdb2 : s.drop b2 = z := by rw [← hb2, ← hz, ← hd2, List.drop_drop]
  have l9 : b2 + z.length = s.length := by rw [← hdb2, List.length_drop]; omega
  have ATq := Lib.hid (fun W => docAt (s := s) (i := p2) (ii := ((p2 : Nat) : Int)) (z := 124) rfl hd2 zq (by omega) W)
  have ATq1 := Lib.hid (fun W => docAt (s := s) (i := b1) (ii := ((b1 : Nat) : Int)) (z := 39) rfl hdb1 zq1 (by omega) W)
  obtain ⟨hw, hzo⟩ := cut_yes hcu
  obtain ⟨K2, hK2⟩ : ∃ K2, b2 + o.length = K2 := ⟨_, rfl⟩
  have l10 : o.length + 1 + r3.length = z.length := by rw [hzo]; simp; omega
  have TO2 := Lib.hid (fun W => docTo s [39] b2 (b2 : Int) rfl (by omega) (by omega) (by decide) K2 (by rw [hdb2, hw]; exact hK2) W)
  have hK2s1 : ((K2 : Int) == (s.length : Int)) = false := by simp only [beq_eq_false_iff_ne, ne_eq]; omega
  have hK2s2 : ((K2 : Int) != (s.length : Int)) = true := by unfold bne; rw [hK2s1]; rfl
  obtain ⟨p3, hp3⟩ : ∃ p3, K2 + 1 = p3 := ⟨_, rfl⟩
  have ip3 : (K2 : Int) + 1 = (p3 : Int) := by omega
  have ho2 : (s.take K2).drop b2 = o := by rw [List.drop_take, hdb2, show K2 - b2 = o.length by omega, hzo, List.take_left]
  have hd3 : s.drop p3 = r3 := by rw [← hp3, ← hK2, show b2 + o.length + 1 = b2 + (o.length + 1) by omega, ← List.drop_drop, hdb2, hzo, show o ++ 39 :: r3 = (o ++ [39]) ++ r3 by simp]; exact List.drop_left' (by simp)
  have l11 : p3 + r3.length = s.length := by have h := congrArg List.length hd3; rw [List.length_drop] at h; omega
  have zE : hdI r3 = 41 := by have h := hd_pre r3 41 (by decide); rw [hE] at h; simpa using h
  have ATe := Lib.hid (fun W => docAt (s := s) (i := p3) (ii := ((p3 : Nat) : Int)) (z := 41) rfl hd3 zE (by omega) W)
  have l12 : 1 ≤ r3.length := (List.isPrefixOf_iff_prefix.1 hE).length_le
  have hkl : (key : List UInt8).length ≤ s.length := by rw [← hkey, List.length_take]; omega
  have VA := Lib.hid (fun W => docValue e hf name key (by omega) W)
  rw [hv] at VA
  have hN : (p3 : Int) + 1 = (s.length : Int) - r3.length + 1 := by omega
  have wN := congrArg (Value.int .i64) hN
  clear hN
  have HBX := Lib.hid (show Below w.heap.size w (w.alloc (.cells #[.string (S e.host), .string (S e.ref), .string (S e.agent), .string (S e.cookie), .string (S e.lang), .string (S e.query)] 23)) by (repeat (first | (with_reducible exact Below.refl _ _) | (with_reducible assumption) | (with_reducible refine Below.drew ?_) | (focus ((with_reducible refine Below.setCell ?_ ?_ _); rotate_left; (first | omega | (simp <;> omega)))) | (focus ((with_reducible refine Below.alloc ?_ ?_ _); rotate_left; (first | omega | (simp <;> omega)))) | exact Below.refl _ _ | assumption | refine Below.drew ?_ | refine Below.alloc ?_ (by first | omega | (simp <;> omega)) _ | refine Below.setCell ?_ (by first | omega | (simp <;> omega)) _)))
  have h2p : 2 ≤ p1 := by omega
  have hp1s : (p1 : Int) ≤ 100010 := by omega
  clear hf
  go_enter Tryz.func9, Tryz.ntmps9
  go_wp2
  try simp only [mk_S]
  go_loop [6] (fun iv => ∃ p : Nat, iv = .int .i64 p ∧ 2 ≤ p ∧ p ≤ p1) (fun iv => p1 - (intOf iv).toNat)
  case atStart => exact ⟨2, rfl, Nat.le_refl _, h2p⟩
  case round =>
  obtain ⟨p, rfl, hp2', hpp⟩ := hrel
  by_cases hlt : p < p1
  · obtain ⟨z, hz', hlz⟩ := HLT.out p hp2' hlt
    have ATL := Lib.hid (fun W => docAt (s := s) (i := p) (ii := (p : Int)) (z := z) rfl rfl hz' (by omega) W)
    rcases hlz with ⟨g1, g2⟩ | g3
    · clear hz'
      go_wp2_with (go_at_call 26; (with_reducible refine Calls.mono (ATL.out _) ?_); rintro x wq ⟨rfl, hwq⟩; obtain rfl := hwq.symm)
      go_round
      case rel => exact ⟨p + 1, by go_num, by omega, by omega⟩
      case measure => simp [intOf]; omega
    · subst g3
      clear hz'
      go_wp2_with (go_at_call 26; (with_reducible refine Calls.mono (ATL.out _) ?_); rintro x wq ⟨rfl, hwq⟩; obtain rfl := hwq.symm)
      go_round
      case rel => exact ⟨p + 1, by go_num, by omega, by omega⟩
      case measure => simp [intOf]; omega
  obtain rfl : p = p1 := by omega
  go_wp2_with (first
    | (go_at_call 26; (with_reducible refine Calls.mono (AT0.out _) ?_); rintro x wq ⟨rfl, hwq⟩; obtain rfl := hwq.symm)
    | (go_at_call 26; (with_reducible refine Calls.mono (AT1.out _) ?_); rintro x wq ⟨rfl, hwq⟩; obtain rfl := hwq.symm)
    | (go_at_call 26; (with_reducible refine Calls.mono (ATb.out _) ?_); rintro x wq ⟨rfl, hwq⟩; obtain rfl := hwq.symm)
    | (go_at_call 27; (with_reducible refine Calls.mono (TO1.out _) ?_); rintro x w3 ⟨rfl, hb3⟩; have HBX := Lib.hid (Below.trans (show Below w.heap.size w _ by (have := HBX.out; (repeat (first | (with_reducible exact Below.refl _ _) | (with_reducible assumption) | (with_reducible refine Below.drew ?_) | (focus ((with_reducible refine Below.setCell ?_ ?_ _); rotate_left; (first | omega | (simp <;> omega)))) | (focus ((with_reducible refine Below.alloc ?_ ?_ _); rotate_left; (first | omega | (simp <;> omega)))) | exact Below.refl _ _ | assumption | refine Below.drew ?_ | refine Below.alloc ?_ (by first | omega | (simp <;> omega)) _ | refine Below.setCell ?_ (by first | omega | (simp <;> omega)) _)))) (hb3.mono (by (try simp only [World.size_alloc, World.size_setCell, World.size_drew]); omega))); obtain ⟨cc_hb3, ff_hb3⟩ := bk hb3 w.heap.size (by (try simp only [World.size_alloc, World.size_setCell, World.size_drew]); omega); have hz_hb3 := hb3.size; (try simp only [World.size_alloc, World.size_setCell, World.size_drew] at hz_hb3); clear hb3)
    | (go_at_call 26; (with_reducible refine Calls.mono (ATy.out _) ?_); rintro x wq ⟨rfl, hwq⟩; obtain rfl := hwq.symm)
    | (go_at_call 26; (with_reducible refine Calls.mono (ATq.out _) ?_); rintro x wq ⟨rfl, hwq⟩; obtain rfl := hwq.symm)
    | (go_at_call 26; (with_reducible refine Calls.mono (ATq1.out _) ?_); rintro x wq ⟨rfl, hwq⟩; obtain rfl := hwq.symm)
    | (go_at_call 27; (with_reducible refine Calls.mono (TO2.out _) ?_); rintro x w5 ⟨rfl, hb5⟩; have HBX := Lib.hid (Below.trans (show Below w.heap.size w _ by (have := HBX.out; (repeat (first | (with_reducible exact Below.refl _ _) | (with_reducible assumption) | (with_reducible refine Below.drew ?_) | (focus ((with_reducible refine Below.setCell ?_ ?_ _); rotate_left; (first | omega | (simp <;> omega)))) | (focus ((with_reducible refine Below.alloc ?_ ?_ _); rotate_left; (first | omega | (simp <;> omega)))) | exact Below.refl _ _ | assumption | refine Below.drew ?_ | refine Below.alloc ?_ (by first | omega | (simp <;> omega)) _ | refine Below.setCell ?_ (by first | omega | (simp <;> omega)) _)))) (hb5.mono (by (try simp only [World.size_alloc, World.size_setCell, World.size_drew]); omega))); obtain ⟨cc_hb5, ff_hb5⟩ := bk hb5 w.heap.size (by (try simp only [World.size_alloc, World.size_setCell, World.size_drew]); omega); have hz_hb5 := hb5.size; (try simp only [World.size_alloc, World.size_setCell, World.size_drew] at hz_hb5); clear hb5)
    | (go_at_call 26; (with_reducible refine Calls.mono (ATe.out _) ?_); rintro x wq ⟨rfl, hwq⟩; obtain rfl := hwq.symm)
    | (go_at_call 14; (with_reducible refine Calls.mono (VA.out _) ?_); rintro x w9 ⟨rfl, hb9⟩; have HBX := Lib.hid (Below.trans (show Below w.heap.size w _ by (have := HBX.out; (repeat (first | (with_reducible exact Below.refl _ _) | (with_reducible assumption) | (with_reducible refine Below.drew ?_) | (focus ((with_reducible refine Below.setCell ?_ ?_ _); rotate_left; (first | omega | (simp <;> omega)))) | (focus ((with_reducible refine Below.alloc ?_ ?_ _); rotate_left; (first | omega | (simp <;> omega)))) | exact Below.refl _ _ | assumption | refine Below.drew ?_ | refine Below.alloc ?_ (by first | omega | (simp <;> omega)) _ | refine Below.setCell ?_ (by first | omega | (simp <;> omega)) _)))) (hb9.mono (by (try simp only [World.size_alloc, World.size_setCell, World.size_drew]); omega))); clear hb9)
    | fail)
  go_ret2
  exact ⟨by first | rfl | (simp [*]; done) | (simp; omega), by (have := HBX.out; (repeat (first | (with_reducible exact Below.refl _ _) | (with_reducible assumption) | (with_reducible refine Below.drew ?_) | (focus ((with_reducible refine Below.setCell ?_ ?_ _); rotate_left; (first | omega | (simp <;> omega)))) | (focus ((with_reducible refine Below.alloc ?_ ?_ _); rotate_left; (first | omega | (simp <;> omega)))) | exact Below.refl _ _ | assumption | refine Below.drew ?_ | refine Below.alloc ?_ (by first | omega | (simp <;> omega)) _ | refine Below.setCell ?_ (by first | omega | (simp <;> omega)) _)))⟩

set_option maxHeartbeats 3200000 in
set_option maxRecDepth 100000 in
theorem dr_C1_D1_not (e : En) (hf : e.few) (s : List UInt8) (hs : s.length ≤ 100000) (w : World) (r : List UInt8) (n : Nat) (hp0 : Lib.hasPrefix s [36, 40] = true) (hr : s.drop 2 = r) (hn : (r.takeWhile letterB).length = n) (hn0 : 0 < n) (name r1 : List UInt8) (hnm : r.take n = name) (hr1 : r.drop n = r1) (hb : Lib.hasPrefix r1 [123] = true) (x : List UInt8) (hx : r1.drop 1 = x) (m : Nat) (hm : (x.takeWhile (notIn badK)).length = m) (key : List UInt8) (hkey : x.take m = key) (hm0 : 0 < m) (y : List UInt8) (hy : r1.drop (1 + m) = y) (hc : Lib.hasPrefix y [125] = true) (r2 : List UInt8) (hr2 : r1.drop (2 + m) = r2) (hd : Lib.hasPrefix r2 [124, 39] = true) (z o r3 : List UInt8) (hz : r2.drop 2 = z) (hcu : cut1 z 39 = (o, r3, true)) (hE : Lib.hasPrefix r3 [41] = true) (v : List UInt8) (hv : valV e name key = (v, false)) :
    Calls Tryz.prog 9 #[e.v, .string (S s)] w fun x w' => x = .returned (.tuple #[.string (S o), .int .i64 ((s.length : Int) - r3.length + 1)]) ∧ Below w.heap.size w w' := by
  have hsi : (s.length : Int) ≤ 100000 := by omega
  have lr : r.length ≤ s.length := by rw [← hr, List.length_drop]; omega
  have hnr : n ≤ r.length := by rw [← hn]; exact takeWhile_len _ _
  have HLT := Lib.hid (let_in hr hn)
  have HLE := Lib.hid (let_end hr hn)
  obtain ⟨p1, hp1⟩ : ∃ p1, 2 + n = p1 := ⟨_, rfl⟩
  rw [hp1] at HLT HLE
  have hp2 := hd_pre2 s 36 40 (by decide) (by decide)
  rw [hp0] at hp2
  have s2 : 2 ≤ s.length := (List.isPrefixOf_iff_prefix.1 hp0).length_le
  have lr2 : 2 + r.length = s.length := by rw [← hr, List.length_drop]; omega
  have z36 : hdI s = 36 := by simp at hp2; exact hp2.1
  have z40 : hdI (s.drop 1) = 40 := by simp at hp2; simpa using hp2.2
  clear hp2
  have AT0 := Lib.hid (fun W => docAt (s := s) (i := 0) (ii := 0) (z := 36) rfl rfl z36 (by omega) W)
  have AT1 := Lib.hid (fun W => docAt (s := s) (i := 1) (ii := 1) (z := 40) rfl rfl z40 (by omega) W)
  have hd1 : s.drop p1 = r1 := by rw [← hp1, ← hr1, ← hr, List.drop_drop]
  have l1 : p1 + r1.length = s.length := by rw [← hd1, List.length_drop]; omega
  have hp12 := neq_two (show 2 < p1 by omega)
  have hnm2 : (s.take p1).drop 2 = name := by rw [List.drop_take, hr, show p1 - 2 = n by omega, hnm]
  obtain ⟨hp12a, hp12b⟩ := hp12
  have zb : hdI r1 = 123 := by have h := hd_pre r1 123 (by decide); rw [hb] at h; simpa using h
  have l2 : 1 ≤ r1.length := (List.isPrefixOf_iff_prefix.1 hb).length_le
  have l3 : 1 + x.length = r1.length := by rw [← hx, List.length_drop]; omega
  have l4 : m ≤ x.length := by rw [← hm]; exact takeWhile_len _ _
  obtain ⟨a1, ha1⟩ : ∃ a1, p1 + 1 = a1 := ⟨_, rfl⟩
  have ia1 : (p1 : Int) + 1 = (a1 : Int) := by omega
  have hda1 : s.drop a1 = x := by rw [← ha1, ← hx, ← hd1, List.drop_drop]
  obtain ⟨K, hK⟩ : ∃ K, a1 + m = K := ⟨_, rfl⟩
  have TO1 := Lib.hid (fun W => docTo s badK a1 (a1 : Int) rfl (by omega) (by omega) (by decide) K (by rw [hda1, hm, hK]) W)
  unfold badK at TO1
  have ATb := Lib.hid (fun W => docAt (s := s) (i := p1) (ii := ((p1 : Nat) : Int)) (z := 123) rfl hd1 zb (by omega) W)
  have hkey2 : (s.take K).drop a1 = key := by rw [List.drop_take, hda1, show K - a1 = m by omega, hkey]
  have hdK : s.drop K = y := by rw [← hK, ← ha1, ← hy, ← hd1, List.drop_drop]; congr 1; omega
  have hKa1 : ((K : Int) == (a1 : Int)) = false := by simp only [beq_eq_false_iff_ne, ne_eq]; omega
  have hKa2 : ((K : Int) != (a1 : Int)) = true := by unfold bne; rw [hKa1]; rfl
  have zy : hdI y = 125 := by have h := hd_pre y 125 (by decide); rw [hc] at h; simpa using h
  have l5 : 1 ≤ y.length := (List.isPrefixOf_iff_prefix.1 hc).length_le
  have l6 : K + y.length = s.length := by rw [← hdK, List.length_drop]; omega
  have ATy := Lib.hid (fun W => docAt (s := s) (i := K) (ii := ((K : Nat) : Int)) (z := 125) rfl hdK zy (by omega) W)
  obtain ⟨p2, hp2e⟩ : ∃ p2, K + 1 = p2 := ⟨_, rfl⟩
  have ip2 : (K : Int) + 1 = (p2 : Int) := by omega
  have hd2 : s.drop p2 = r2 := by rw [← hp2e, ← hK, ← ha1, ← hr2, ← hd1, List.drop_drop]; congr 1; omega
  have l7 : p2 + r2.length = s.length := by rw [← hd2, List.length_drop]; omega
  have hq2 := hd_pre2 r2 124 39 (by decide) (by decide)
  rw [hd] at hq2
  have zq : hdI r2 = 124 := by simp at hq2; exact hq2.1
  have zq1 : hdI (r2.drop 1) = 39 := by simp at hq2; simpa using hq2.2
  clear hq2
  have l8 : 2 ≤ r2.length := (List.isPrefixOf_iff_prefix.1 hd).length_le
  obtain ⟨b1, hb1⟩ : ∃ b1, p2 + 1 = b1 := ⟨_, rfl⟩
  have ib1 : (p2 : Int) + 1 = (b1 : Int) := by omega
  obtain ⟨b2, hb2⟩ : ∃ b2, p2 + 2 = b2 := ⟨_, rfl⟩
  have ib2 : (p2 : Int) + 2 = (b2 : Int) := by omega
  have hdb1 : s.drop b1 = r2.drop 1 := by rw [← hb1, ← hd2, List.drop_drop]
  have hdb2 : s.drop b2 = z := by rw [← hb2, ← hz, ← hd2, List.drop_drop]
  have l9 : b2 + z.length = s.length := by rw [← hdb2, List.length_drop]; omega
  have ATq := Lib.hid (fun W => docAt (s := s) (i := p2) (ii := ((p2 : Nat) : Int)) (z := 124) rfl hd2 zq (by omega) W)
  have ATq1 := Lib.hid (fun W => docAt (s := s) (i := b1) (ii := ((b1 : Nat) : Int)) (z := 39) rfl hdb1 zq1 (by omega) W)
  obtain ⟨hw, hzo⟩ := cut_yes hcu
  obtain ⟨K2, hK2⟩ : ∃ K2, b2 + o.length = K2 := ⟨_, rfl⟩
  have l10 : o.length + 1 + r3.length = z.length := by rw [hzo]; simp; omega
  have TO2 := Lib.hid (fun W => docTo s [39] b2 (b2 : Int) rfl (by omega) (by omega) (by decide) K2 (by rw [hdb2, hw]; exact hK2) W)
  have hK2s1 : ((K2 : Int) == (s.length : Int)) = false := by simp only [beq_eq_false_iff_ne, ne_eq]; omega
  have hK2s2 : ((K2 : Int) != (s.length : Int)) = true := by unfold bne; rw [hK2s1]; rfl
  obtain ⟨p3, hp3⟩ : ∃ p3, K2 + 1 = p3 := ⟨_, rfl⟩
  have ip3 : (K2 : Int) + 1 = (p3 : Int) := by omega
  have ho2 : (s.take K2).drop b2 = o := by rw [List.drop_take, hdb2, show K2 - b2 = o.length by omega, hzo, List.take_left]
  have hd3 : s.drop p3 = r3 := by rw [← hp3, ← hK2, show b2 + o.length + 1 = b2 + (o.length + 1) by omega, ← List.drop_drop, hdb2, hzo, show o ++ 39 :: r3 = (o ++ [39]) ++ r3 by simp]; exact List.drop_left' (by simp)
  have l11 : p3 + r3.length = s.length := by have h := congrArg List.length hd3; rw [List.length_drop] at h; omega
  have zE : hdI r3 = 41 := by have h := hd_pre r3 41 (by decide); rw [hE] at h; simpa using h
  have ATe := Lib.hid (fun W => docAt (s := s) (i := p3) (ii := ((p3 : Nat) : Int)) (z := 41) rfl hd3 zE (by omega) W)
  have l12 : 1 ≤ r3.length := (List.isPrefixOf_iff_prefix.1 hE).length_le
  have hkl : (key : List UInt8).length ≤ s.length := by rw [← hkey, List.length_take]; omega
  have VA := Lib.hid (fun W => docValue e hf name key (by omega) W)
  rw [hv] at VA
  have hN : (p3 : Int) + 1 = (s.length : Int) - r3.length + 1 := by omega
  have wN := congrArg (Value.int .i64) hN
  clear hN
  have HBX := Lib.hid (show Below w.heap.size w (w.alloc (.cells #[.string (S e.host), .string (S e.ref), .string (S e.agent), .string (S e.cookie), .string (S e.lang), .string (S e.query)] 23)) by (repeat (first | (with_reducible exact Below.refl _ _) | (with_reducible assumption) | (with_reducible refine Below.drew ?_) | (focus ((with_reducible refine Below.setCell ?_ ?_ _); rotate_left; (first | omega | (simp <;> omega)))) | (focus ((with_reducible refine Below.alloc ?_ ?_ _); rotate_left; (first | omega | (simp <;> omega)))) | exact Below.refl _ _ | assumption | refine Below.drew ?_ | refine Below.alloc ?_ (by first | omega | (simp <;> omega)) _ | refine Below.setCell ?_ (by first | omega | (simp <;> omega)) _)))
  have h2p : 2 ≤ p1 := by omega
  have hp1s : (p1 : Int) ≤ 100010 := by omega
  clear hf
  go_enter Tryz.func9, Tryz.ntmps9
  go_wp2
  try simp only [mk_S]
  go_loop [6] (fun iv => ∃ p : Nat, iv = .int .i64 p ∧ 2 ≤ p ∧ p ≤ p1) (fun iv => p1 - (intOf iv).toNat)
  case atStart => exact ⟨2, rfl, Nat.le_refl _, h2p⟩
  case round =>
  obtain ⟨p, rfl, hp2', hpp⟩ := hrel
  by_cases hlt : p < p1
  · obtain ⟨z, hz', hlz⟩ := HLT.out p hp2' hlt
    have ATL := Lib.hid (fun W => docAt (s := s) (i := p) (ii := (p : Int)) (z := z) rfl rfl hz' (by omega) W)
    rcases hlz with ⟨g1, g2⟩ | g3
    · clear hz'
      go_wp2_with (go_at_call 26; (with_reducible refine Calls.mono (ATL.out _) ?_); rintro x wq ⟨rfl, hwq⟩; obtain rfl := hwq.symm)
      go_round
      case rel => exact ⟨p + 1, by go_num, by omega, by omega⟩
      case measure => simp [intOf]; omega
    · subst g3
      clear hz'
      go_wp2_with (go_at_call 26; (with_reducible refine Calls.mono (ATL.out _) ?_); rintro x wq ⟨rfl, hwq⟩; obtain rfl := hwq.symm)
      go_round
      case rel => exact ⟨p + 1, by go_num, by omega, by omega⟩
      case measure => simp [intOf]; omega
  obtain rfl : p = p1 := by omega
  go_wp2_with (first
    | (go_at_call 26; (with_reducible refine Calls.mono (AT0.out _) ?_); rintro x wq ⟨rfl, hwq⟩; obtain rfl := hwq.symm)
    | (go_at_call 26; (with_reducible refine Calls.mono (AT1.out _) ?_); rintro x wq ⟨rfl, hwq⟩; obtain rfl := hwq.symm)
    | (go_at_call 26; (with_reducible refine Calls.mono (ATb.out _) ?_); rintro x wq ⟨rfl, hwq⟩; obtain rfl := hwq.symm)
    | (go_at_call 27; (with_reducible refine Calls.mono (TO1.out _) ?_); rintro x w3 ⟨rfl, hb3⟩; have HBX := Lib.hid (Below.trans (show Below w.heap.size w _ by (have := HBX.out; (repeat (first | (with_reducible exact Below.refl _ _) | (with_reducible assumption) | (with_reducible refine Below.drew ?_) | (focus ((with_reducible refine Below.setCell ?_ ?_ _); rotate_left; (first | omega | (simp <;> omega)))) | (focus ((with_reducible refine Below.alloc ?_ ?_ _); rotate_left; (first | omega | (simp <;> omega)))) | exact Below.refl _ _ | assumption | refine Below.drew ?_ | refine Below.alloc ?_ (by first | omega | (simp <;> omega)) _ | refine Below.setCell ?_ (by first | omega | (simp <;> omega)) _)))) (hb3.mono (by (try simp only [World.size_alloc, World.size_setCell, World.size_drew]); omega))); obtain ⟨cc_hb3, ff_hb3⟩ := bk hb3 w.heap.size (by (try simp only [World.size_alloc, World.size_setCell, World.size_drew]); omega); have hz_hb3 := hb3.size; (try simp only [World.size_alloc, World.size_setCell, World.size_drew] at hz_hb3); clear hb3)
    | (go_at_call 26; (with_reducible refine Calls.mono (ATy.out _) ?_); rintro x wq ⟨rfl, hwq⟩; obtain rfl := hwq.symm)
    | (go_at_call 26; (with_reducible refine Calls.mono (ATq.out _) ?_); rintro x wq ⟨rfl, hwq⟩; obtain rfl := hwq.symm)
    | (go_at_call 26; (with_reducible refine Calls.mono (ATq1.out _) ?_); rintro x wq ⟨rfl, hwq⟩; obtain rfl := hwq.symm)
    | (go_at_call 27; (with_reducible refine Calls.mono (TO2.out _) ?_); rintro x w5 ⟨rfl, hb5⟩; have HBX := Lib.hid (Below.trans (show Below w.heap.size w _ by (have := HBX.out; (repeat (first | (with_reducible exact Below.refl _ _) | (with_reducible assumption) | (with_reducible refine Below.drew ?_) | (focus ((with_reducible refine Below.setCell ?_ ?_ _); rotate_left; (first | omega | (simp <;> omega)))) | (focus ((with_reducible refine Below.alloc ?_ ?_ _); rotate_left; (first | omega | (simp <;> omega)))) | exact Below.refl _ _ | assumption | refine Below.drew ?_ | refine Below.alloc ?_ (by first | omega | (simp <;> omega)) _ | refine Below.setCell ?_ (by first | omega | (simp <;> omega)) _)))) (hb5.mono (by (try simp only [World.size_alloc, World.size_setCell, World.size_drew]); omega))); obtain ⟨cc_hb5, ff_hb5⟩ := bk hb5 w.heap.size (by (try simp only [World.size_alloc, World.size_setCell, World.size_drew]); omega); have hz_hb5 := hb5.size; (try simp only [World.size_alloc, World.size_setCell, World.size_drew] at hz_hb5); clear hb5)
    | (go_at_call 26; (with_reducible refine Calls.mono (ATe.out _) ?_); rintro x wq ⟨rfl, hwq⟩; obtain rfl := hwq.symm)
    | (go_at_call 14; (with_reducible refine Calls.mono (VA.out _) ?_); rintro x w9 ⟨rfl, hb9⟩; have HBX := Lib.hid (Below.trans (show Below w.heap.size w _ by (have := HBX.out; (repeat (first | (with_reducible exact Below.refl _ _) | (with_reducible assumption) | (with_reducible refine Below.drew ?_) | (focus ((with_reducible refine Below.setCell ?_ ?_ _); rotate_left; (first | omega | (simp <;> omega)))) | (focus ((with_reducible refine Below.alloc ?_ ?_ _); rotate_left; (first | omega | (simp <;> omega)))) | exact Below.refl _ _ | assumption | refine Below.drew ?_ | refine Below.alloc ?_ (by first | omega | (simp <;> omega)) _ | refine Below.setCell ?_ (by first | omega | (simp <;> omega)) _)))) (hb9.mono (by (try simp only [World.size_alloc, World.size_setCell, World.size_drew]); omega))); clear hb9)
    | fail)
  go_ret2
  exact ⟨by first | rfl | (simp [*]; done) | (simp; omega), by (have := HBX.out; (repeat (first | (with_reducible exact Below.refl _ _) | (with_reducible assumption) | (with_reducible refine Below.drew ?_) | (focus ((with_reducible refine Below.setCell ?_ ?_ _); rotate_left; (first | omega | (simp <;> omega)))) | (focus ((with_reducible refine Below.alloc ?_ ?_ _); rotate_left; (first | omega | (simp <;> omega)))) | exact Below.refl _ _ | assumption | refine Below.drew ?_ | refine Below.alloc ?_ (by first | omega | (simp <;> omega)) _ | refine Below.setCell ?_ (by first | omega | (simp <;> omega)) _)))⟩

set_option maxHeartbeats 3200000 in
set_option maxRecDepth 100000 in
theorem dr_C1_D2_no (e : En) (hf : e.few) (s : List UInt8) (hs : s.length ≤ 100000) (w : World) (r : List UInt8) (n : Nat) (hp0 : Lib.hasPrefix s [36, 40] = true) (hr : s.drop 2 = r) (hn : (r.takeWhile letterB).length = n) (hn0 : 0 < n) (name r1 : List UInt8) (hnm : r.take n = name) (hr1 : r.drop n = r1) (hb : Lib.hasPrefix r1 [123] = true) (x : List UInt8) (hx : r1.drop 1 = x) (m : Nat) (hm : (x.takeWhile (notIn badK)).length = m) (key : List UInt8) (hkey : x.take m = key) (hm0 : 0 < m) (y : List UInt8) (hy : r1.drop (1 + m) = y) (hc : Lib.hasPrefix y [125] = true) (r2 : List UInt8) (hr2 : r1.drop (2 + m) = r2) (hd : Lib.hasPrefix r2 [124, 39] = false) (hd2' : Lib.hasPrefix r2 [124] = true) (z : List UInt8) (hz : r2.drop 1 = z) (q : Nat) (hq : (z.takeWhile (notIn badO)).length = q) (o r3 : List UInt8) (ho : z.take q = o) (hr3 : r2.drop (1 + q) = r3) (hE : Lib.hasPrefix r3 [41] = false) :
    Calls Tryz.prog 9 #[e.v, .string (S s)] w fun x w' => x = .returned (.tuple #[.string (S []), .int .i64 0]) ∧ Below w.heap.size w w' := by
  have hsi : (s.length : Int) ≤ 100000 := by omega
  have lr : r.length ≤ s.length := by rw [← hr, List.length_drop]; omega
  have hnr : n ≤ r.length := by rw [← hn]; exact takeWhile_len _ _
  have HLT := Lib.hid (let_in hr hn)
  have HLE := Lib.hid (let_end hr hn)
  obtain ⟨p1, hp1⟩ : ∃ p1, 2 + n = p1 := ⟨_, rfl⟩
  rw [hp1] at HLT HLE
  have hp2 := hd_pre2 s 36 40 (by decide) (by decide)
  rw [hp0] at hp2
  have s2 : 2 ≤ s.length := (List.isPrefixOf_iff_prefix.1 hp0).length_le
  have lr2 : 2 + r.length = s.length := by rw [← hr, List.length_drop]; omega
  have z36 : hdI s = 36 := by simp at hp2; exact hp2.1
  have z40 : hdI (s.drop 1) = 40 := by simp at hp2; simpa using hp2.2
  clear hp2
  have AT0 := Lib.hid (fun W => docAt (s := s) (i := 0) (ii := 0) (z := 36) rfl rfl z36 (by omega) W)
  have AT1 := Lib.hid (fun W => docAt (s := s) (i := 1) (ii := 1) (z := 40) rfl rfl z40 (by omega) W)
  have hd1 : s.drop p1 = r1 := by rw [← hp1, ← hr1, ← hr, List.drop_drop]
  have l1 : p1 + r1.length = s.length := by rw [← hd1, List.length_drop]; omega
  have hp12 := neq_two (show 2 < p1 by omega)
  have hnm2 : (s.take p1).drop 2 = name := by rw [List.drop_take, hr, show p1 - 2 = n by omega, hnm]
  obtain ⟨hp12a, hp12b⟩ := hp12
  have zb : hdI r1 = 123 := by have h := hd_pre r1 123 (by decide); rw [hb] at h; simpa using h
  have l2 : 1 ≤ r1.length := (List.isPrefixOf_iff_prefix.1 hb).length_le
  have l3 : 1 + x.length = r1.length := by rw [← hx, List.length_drop]; omega
  have l4 : m ≤ x.length := by rw [← hm]; exact takeWhile_len _ _
  obtain ⟨a1, ha1⟩ : ∃ a1, p1 + 1 = a1 := ⟨_, rfl⟩
  have ia1 : (p1 : Int) + 1 = (a1 : Int) := by omega
  have hda1 : s.drop a1 = x := by rw [← ha1, ← hx, ← hd1, List.drop_drop]
  obtain ⟨K, hK⟩ : ∃ K, a1 + m = K := ⟨_, rfl⟩
  have TO1 := Lib.hid (fun W => docTo s badK a1 (a1 : Int) rfl (by omega) (by omega) (by decide) K (by rw [hda1, hm, hK]) W)
  unfold badK at TO1
  have ATb := Lib.hid (fun W => docAt (s := s) (i := p1) (ii := ((p1 : Nat) : Int)) (z := 123) rfl hd1 zb (by omega) W)
  have hkey2 : (s.take K).drop a1 = key := by rw [List.drop_take, hda1, show K - a1 = m by omega, hkey]
  have hdK : s.drop K = y := by rw [← hK, ← ha1, ← hy, ← hd1, List.drop_drop]; congr 1; omega
  have hKa1 : ((K : Int) == (a1 : Int)) = false := by simp only [beq_eq_false_iff_ne, ne_eq]; omega
  have hKa2 : ((K : Int) != (a1 : Int)) = true := by unfold bne; rw [hKa1]; rfl
  have zy : hdI y = 125 := by have h := hd_pre y 125 (by decide); rw [hc] at h; simpa using h
  have l5 : 1 ≤ y.length := (List.isPrefixOf_iff_prefix.1 hc).length_le
  have l6 : K + y.length = s.length := by rw [← hdK, List.length_drop]; omega
  have ATy := Lib.hid (fun W => docAt (s := s) (i := K) (ii := ((K : Nat) : Int)) (z := 125) rfl hdK zy (by omega) W)
  obtain ⟨p2, hp2e⟩ : ∃ p2, K + 1 = p2 := ⟨_, rfl⟩
  have ip2 : (K : Int) + 1 = (p2 : Int) := by omega
  have hd2 : s.drop p2 = r2 := by rw [← hp2e, ← hK, ← ha1, ← hr2, ← hd1, List.drop_drop]; congr 1; omega
  have l7 : p2 + r2.length = s.length := by rw [← hd2, List.length_drop]; omega
  have zq : hdI r2 = 124 := by have h := hd_pre r2 124 (by decide); rw [hd2'] at h; simpa using h
  obtain ⟨zn, hzn⟩ : ∃ zn, hdI z = zn := ⟨_, rfl⟩
  have znn : zn ≠ 39 := by have h := hd_pre2 r2 124 39 (by decide) (by decide); rw [hd, zq, hz, hzn] at h; simpa using h
  have hzn1 : ((zn : Int) == 39) = false := by simp only [beq_eq_false_iff_ne, ne_eq]; omega
  have hzn2 : ((zn : Int) != 39) = true := by unfold bne; rw [hzn1]; rfl
  have l8 : 1 ≤ r2.length := (List.isPrefixOf_iff_prefix.1 hd2').length_le
  obtain ⟨b1, hb1⟩ : ∃ b1, p2 + 1 = b1 := ⟨_, rfl⟩
  have ib1 : (p2 : Int) + 1 = (b1 : Int) := by omega
  have hdb1 : s.drop b1 = z := by rw [← hb1, ← hz, ← hd2, List.drop_drop]
  have l9 : b1 + z.length = s.length := by rw [← hdb1, List.length_drop]; omega
  have l10 : q ≤ z.length := by rw [← hq]; exact takeWhile_len _ _
  obtain ⟨p3, hp3⟩ : ∃ p3, b1 + q = p3 := ⟨_, rfl⟩
  have hd3 : s.drop p3 = r3 := by rw [← hp3, ← hb1, ← hr3, ← hd2, List.drop_drop]; congr 1; omega
  have ho2 : (s.take p3).drop b1 = o := by rw [List.drop_take, hdb1, show p3 - b1 = q by omega, ho]
  have ATq := Lib.hid (fun W => docAt (s := s) (i := p2) (ii := ((p2 : Nat) : Int)) (z := 124) rfl hd2 zq (by omega) W)
  have ATq1 := Lib.hid (fun W => docAt (s := s) (i := b1) (ii := ((b1 : Nat) : Int)) (z := zn) rfl hdb1 hzn (by omega) W)
  have TO3 := Lib.hid (fun W => docTo s badO b1 (b1 : Int) rfl (by omega) (by omega) (by decide) p3 (by rw [hdb1, hq, hp3]) W)
  unfold badO at TO3
  have l11 : p3 + r3.length = s.length := by have h := congrArg List.length hd3; rw [List.length_drop] at h; omega
  obtain ⟨zE, hzE⟩ : ∃ z, hdI r3 = z := ⟨_, rfl⟩
  have zEn : zE ≠ 41 := by have h := hd_pre r3 41 (by decide); rw [hE, hzE] at h; simpa using h
  have hzE1 : ((zE : Int) == 41) = false := by simp only [beq_eq_false_iff_ne, ne_eq]; omega
  have hzE2 : ((zE : Int) != 41) = true := by unfold bne; rw [hzE1]; rfl
  have ATe := Lib.hid (fun W => docAt (s := s) (i := p3) (ii := ((p3 : Nat) : Int)) (z := zE) rfl hd3 hzE (by omega) W)
  have HBX := Lib.hid (show Below w.heap.size w (w.alloc (.cells #[.string (S e.host), .string (S e.ref), .string (S e.agent), .string (S e.cookie), .string (S e.lang), .string (S e.query)] 23)) by (repeat (first | (with_reducible exact Below.refl _ _) | (with_reducible assumption) | (with_reducible refine Below.drew ?_) | (focus ((with_reducible refine Below.setCell ?_ ?_ _); rotate_left; (first | omega | (simp <;> omega)))) | (focus ((with_reducible refine Below.alloc ?_ ?_ _); rotate_left; (first | omega | (simp <;> omega)))) | exact Below.refl _ _ | assumption | refine Below.drew ?_ | refine Below.alloc ?_ (by first | omega | (simp <;> omega)) _ | refine Below.setCell ?_ (by first | omega | (simp <;> omega)) _)))
  have h2p : 2 ≤ p1 := by omega
  have hp1s : (p1 : Int) ≤ 100010 := by omega
  clear hf
  go_enter Tryz.func9, Tryz.ntmps9
  go_wp2
  try simp only [mk_S]
  go_loop [6] (fun iv => ∃ p : Nat, iv = .int .i64 p ∧ 2 ≤ p ∧ p ≤ p1) (fun iv => p1 - (intOf iv).toNat)
  case atStart => exact ⟨2, rfl, Nat.le_refl _, h2p⟩
  case round =>
  obtain ⟨p, rfl, hp2', hpp⟩ := hrel
  by_cases hlt : p < p1
  · obtain ⟨z, hz', hlz⟩ := HLT.out p hp2' hlt
    have ATL := Lib.hid (fun W => docAt (s := s) (i := p) (ii := (p : Int)) (z := z) rfl rfl hz' (by omega) W)
    rcases hlz with ⟨g1, g2⟩ | g3
    · clear hz'
      go_wp2_with (go_at_call 26; (with_reducible refine Calls.mono (ATL.out _) ?_); rintro x wq ⟨rfl, hwq⟩; obtain rfl := hwq.symm)
      go_round
      case rel => exact ⟨p + 1, by go_num, by omega, by omega⟩
      case measure => simp [intOf]; omega
    · subst g3
      clear hz'
      go_wp2_with (go_at_call 26; (with_reducible refine Calls.mono (ATL.out _) ?_); rintro x wq ⟨rfl, hwq⟩; obtain rfl := hwq.symm)
      go_round
      case rel => exact ⟨p + 1, by go_num, by omega, by omega⟩
      case measure => simp [intOf]; omega
  obtain rfl : p = p1 := by omega
  go_wp2_with (first
    | (go_at_call 26; (with_reducible refine Calls.mono (AT0.out _) ?_); rintro x wq ⟨rfl, hwq⟩; obtain rfl := hwq.symm)
    | (go_at_call 26; (with_reducible refine Calls.mono (AT1.out _) ?_); rintro x wq ⟨rfl, hwq⟩; obtain rfl := hwq.symm)
    | (go_at_call 26; (with_reducible refine Calls.mono (ATb.out _) ?_); rintro x wq ⟨rfl, hwq⟩; obtain rfl := hwq.symm)
    | (go_at_call 27; (with_reducible refine Calls.mono (TO1.out _) ?_); rintro x w3 ⟨rfl, hb3⟩; have HBX := Lib.hid (Below.trans (show Below w.heap.size w _ by (have := HBX.out; (repeat (first | (with_reducible exact Below.refl _ _) | (with_reducible assumption) | (with_reducible refine Below.drew ?_) | (focus ((with_reducible refine Below.setCell ?_ ?_ _); rotate_left; (first | omega | (simp <;> omega)))) | (focus ((with_reducible refine Below.alloc ?_ ?_ _); rotate_left; (first | omega | (simp <;> omega)))) | exact Below.refl _ _ | assumption | refine Below.drew ?_ | refine Below.alloc ?_ (by first | omega | (simp <;> omega)) _ | refine Below.setCell ?_ (by first | omega | (simp <;> omega)) _)))) (hb3.mono (by (try simp only [World.size_alloc, World.size_setCell, World.size_drew]); omega))); obtain ⟨cc_hb3, ff_hb3⟩ := bk hb3 w.heap.size (by (try simp only [World.size_alloc, World.size_setCell, World.size_drew]); omega); have hz_hb3 := hb3.size; (try simp only [World.size_alloc, World.size_setCell, World.size_drew] at hz_hb3); clear hb3)
    | (go_at_call 26; (with_reducible refine Calls.mono (ATy.out _) ?_); rintro x wq ⟨rfl, hwq⟩; obtain rfl := hwq.symm)
    | (go_at_call 26; (with_reducible refine Calls.mono (ATq.out _) ?_); rintro x wq ⟨rfl, hwq⟩; obtain rfl := hwq.symm)
    | (go_at_call 26; (with_reducible refine Calls.mono (ATq1.out _) ?_); rintro x wq ⟨rfl, hwq⟩; obtain rfl := hwq.symm)
    | (go_at_call 27; (with_reducible refine Calls.mono (TO3.out _) ?_); rintro x w5 ⟨rfl, hb5⟩; have HBX := Lib.hid (Below.trans (show Below w.heap.size w _ by (have := HBX.out; (repeat (first | (with_reducible exact Below.refl _ _) | (with_reducible assumption) | (with_reducible refine Below.drew ?_) | (focus ((with_reducible refine Below.setCell ?_ ?_ _); rotate_left; (first | omega | (simp <;> omega)))) | (focus ((with_reducible refine Below.alloc ?_ ?_ _); rotate_left; (first | omega | (simp <;> omega)))) | exact Below.refl _ _ | assumption | refine Below.drew ?_ | refine Below.alloc ?_ (by first | omega | (simp <;> omega)) _ | refine Below.setCell ?_ (by first | omega | (simp <;> omega)) _)))) (hb5.mono (by (try simp only [World.size_alloc, World.size_setCell, World.size_drew]); omega))); obtain ⟨cc_hb5, ff_hb5⟩ := bk hb5 w.heap.size (by (try simp only [World.size_alloc, World.size_setCell, World.size_drew]); omega); have hz_hb5 := hb5.size; (try simp only [World.size_alloc, World.size_setCell, World.size_drew] at hz_hb5); clear hb5)
    | (go_at_call 26; (with_reducible refine Calls.mono (ATe.out _) ?_); rintro x wq ⟨rfl, hwq⟩; obtain rfl := hwq.symm)
    | fail)
  go_ret2
  exact ⟨by first | rfl | (simp [*]; done) | (simp; omega), by (have := HBX.out; (repeat (first | (with_reducible exact Below.refl _ _) | (with_reducible assumption) | (with_reducible refine Below.drew ?_) | (focus ((with_reducible refine Below.setCell ?_ ?_ _); rotate_left; (first | omega | (simp <;> omega)))) | (focus ((with_reducible refine Below.alloc ?_ ?_ _); rotate_left; (first | omega | (simp <;> omega)))) | exact Below.refl _ _ | assumption | refine Below.drew ?_ | refine Below.alloc ?_ (by first | omega | (simp <;> omega)) _ | refine Below.setCell ?_ (by first | omega | (simp <;> omega)) _)))⟩
end Go.Proofs.YtenflcaalckdfaaGreatDoor
namespace Go.Proofs.YtenflcaalckdfaaGreatDoor
open Go Go.RowKit Go.Sort Go.Shelf
set_option linter.unusedVariables false
set_option linter.unusedSimpArgs false

set_option maxHeartbeats 3200000 in
set_option maxRecDepth 100000 in
theorem dr_C1_D2_is (e : En) (hf : e.few) (s : List UInt8) (hs : s.length ≤ 100000) (w : World) (r : List UInt8) (n : Nat) (hp0 : Lib.hasPrefix s [36, 40] = true) (hr : s.drop 2 = r) (hn : (r.takeWhile letterB).length = n) (hn0 : 0 < n) (name r1 : List UInt8) (hnm : r.take n = name) (hr1 : r.drop n = r1) (hb : Lib.hasPrefix r1 [123] = true) (x : List UInt8) (hx : r1.drop 1 = x) (m : Nat) (hm : (x.takeWhile (notIn badK)).length = m) (key : List UInt8) (hkey : x.take m = key) (hm0 : 0 < m) (y : List UInt8) (hy : r1.drop (1 + m) = y) (hc : Lib.hasPrefix y [125] = true) (r2 : List UInt8) (hr2 : r1.drop (2 + m) = r2) (hd : Lib.hasPrefix r2 [124, 39] = false) (hd2' : Lib.hasPrefix r2 [124] = true) (z : List UInt8) (hz : r2.drop 1 = z) (q : Nat) (hq : (z.takeWhile (notIn badO)).length = q) (o r3 : List UInt8) (ho : z.take q = o) (hr3 : r2.drop (1 + q) = r3) (hE : Lib.hasPrefix r3 [41] = true) (v : List UInt8) (hv : valV e name key = (v, true)) :
    Calls Tryz.prog 9 #[e.v, .string (S s)] w fun x w' => x = .returned (.tuple #[.string (S v), .int .i64 ((s.length : Int) - r3.length + 1)]) ∧ Below w.heap.size w w' := by
  have hsi : (s.length : Int) ≤ 100000 := by omega
  have lr : r.length ≤ s.length := by rw [← hr, List.length_drop]; omega
  have hnr : n ≤ r.length := by rw [← hn]; exact takeWhile_len _ _
  have HLT := Lib.hid (let_in hr hn)
  have HLE := Lib.hid (let_end hr hn)
  obtain ⟨p1, hp1⟩ : ∃ p1, 2 + n = p1 := ⟨_, rfl⟩
  rw [hp1] at HLT HLE
  have hp2 := hd_pre2 s 36 40 (by decide) (by decide)
  rw [hp0] at hp2
  have s2 : 2 ≤ s.length := (List.isPrefixOf_iff_prefix.1 hp0).length_le
  have lr2 : 2 + r.length = s.length := by rw [← hr, List.length_drop]; omega
  have z36 : hdI s = 36 := by simp at hp2; exact hp2.1
  have z40 : hdI (s.drop 1) = 40 := by simp at hp2; simpa using hp2.2
  clear hp2
  have AT0 := Lib.hid (fun W => docAt (s := s) (i := 0) (ii := 0) (z := 36) rfl rfl z36 (by omega) W)
  have AT1 := Lib.hid (fun W => docAt (s := s) (i := 1) (ii := 1) (z := 40) rfl rfl z40 (by omega) W)
  have hd1 : s.drop p1 = r1 := by rw [← hp1, ← hr1, ← hr, List.drop_drop]
  have l1 : p1 + r1.length = s.length := by rw [← hd1, List.length_drop]; omega
  have hp12 := neq_two (show 2 < p1 by omega)
  have hnm2 : (s.take p1).drop 2 = name := by rw [List.drop_take, hr, show p1 - 2 = n by omega, hnm]
  obtain ⟨hp12a, hp12b⟩ := hp12
  have zb : hdI r1 = 123 := by have h := hd_pre r1 123 (by decide); rw [hb] at h; simpa using h
  have l2 : 1 ≤ r1.length := (List.isPrefixOf_iff_prefix.1 hb).length_le
  have l3 : 1 + x.length = r1.length := by rw [← hx, List.length_drop]; omega
  have l4 : m ≤ x.length := by rw [← hm]; exact takeWhile_len _ _
  obtain ⟨a1, ha1⟩ : ∃ a1, p1 + 1 = a1 := ⟨_, rfl⟩
  have ia1 : (p1 : Int) + 1 = (a1 : Int) := by omega
  have hda1 : s.drop a1 = x := by rw [← ha1, ← hx, ← hd1, List.drop_drop]
  obtain ⟨K, hK⟩ : ∃ K, a1 + m = K := ⟨_, rfl⟩
  have TO1 := Lib.hid (fun W => docTo s badK a1 (a1 : Int) rfl (by omega) (by omega) (by decide) K (by rw [hda1, hm, hK]) W)
  unfold badK at TO1
  have ATb := Lib.hid (fun W => docAt (s := s) (i := p1) (ii := ((p1 : Nat) : Int)) (z := 123) rfl hd1 zb (by omega) W)
  have hkey2 : (s.take K).drop a1 = key := by rw [List.drop_take, hda1, show K - a1 = m by omega, hkey]
  have hdK : s.drop K = y := by rw [← hK, ← ha1, ← hy, ← hd1, List.drop_drop]; congr 1; omega
  have hKa1 : ((K : Int) == (a1 : Int)) = false := by simp only [beq_eq_false_iff_ne, ne_eq]; omega
  have hKa2 : ((K : Int) != (a1 : Int)) = true := by unfold bne; rw [hKa1]; rfl
  have zy : hdI y = 125 := by have h := hd_pre y 125 (by decide); rw [hc] at h; simpa using h
  have l5 : 1 ≤ y.length := (List.isPrefixOf_iff_prefix.1 hc).length_le
  have l6 : K + y.length = s.length := by rw [← hdK, List.length_drop]; omega
  have ATy := Lib.hid (fun W => docAt (s := s) (i := K) (ii := ((K : Nat) : Int)) (z := 125) rfl hdK zy (by omega) W)
  obtain ⟨p2, hp2e⟩ : ∃ p2, K + 1 = p2 := ⟨_, rfl⟩
  have ip2 : (K : Int) + 1 = (p2 : Int) := by omega
  have hd2 : s.drop p2 = r2 := by rw [← hp2e, ← hK, ← ha1, ← hr2, ← hd1, List.drop_drop]; congr 1; omega
  have l7 : p2 + r2.length = s.length := by rw [← hd2, List.length_drop]; omega
  have zq : hdI r2 = 124 := by have h := hd_pre r2 124 (by decide); rw [hd2'] at h; simpa using h
  obtain ⟨zn, hzn⟩ : ∃ zn, hdI z = zn := ⟨_, rfl⟩
  have znn : zn ≠ 39 := by have h := hd_pre2 r2 124 39 (by decide) (by decide); rw [hd, zq, hz, hzn] at h; simpa using h
  have hzn1 : ((zn : Int) == 39) = false := by simp only [beq_eq_false_iff_ne, ne_eq]; omega
  have hzn2 : ((zn : Int) != 39) = true := by unfold bne; rw [hzn1]; rfl
  have l8 : 1 ≤ r2.length := (List.isPrefixOf_iff_prefix.1 hd2').length_le
  obtain ⟨b1, hb1⟩ : ∃ b1, p2 + 1 = b1 := ⟨_, rfl⟩
  have ib1 : (p2 : Int) + 1 = (b1 : Int) := by omega
  have hdb1 : s.drop b1 = z := by rw [← hb1, ← hz, ← hd2, List.drop_drop]
  have l9 : b1 + z.length = s.length := by rw [← hdb1, List.length_drop]; omega
  have l10 : q ≤ z.length := by rw [← hq]; exact takeWhile_len _ _
  obtain ⟨p3, hp3⟩ : ∃ p3, b1 + q = p3 := ⟨_, rfl⟩
  have hd3 : s.drop p3 = r3 := by rw [← hp3, ← hb1, ← hr3, ← hd2, List.drop_drop]; congr 1; omega
  have ho2 : (s.take p3).drop b1 = o := by rw [List.drop_take, hdb1, show p3 - b1 = q by omega, ho]
  have ATq := Lib.hid (fun W => docAt (s := s) (i := p2) (ii := ((p2 : Nat) : Int)) (z := 124) rfl hd2 zq (by omega) W)
  have ATq1 := Lib.hid (fun W => docAt (s := s) (i := b1) (ii := ((b1 : Nat) : Int)) (z := zn) rfl hdb1 hzn (by omega) W)
  have TO3 := Lib.hid (fun W => docTo s badO b1 (b1 : Int) rfl (by omega) (by omega) (by decide) p3 (by rw [hdb1, hq, hp3]) W)
  unfold badO at TO3
  have l11 : p3 + r3.length = s.length := by have h := congrArg List.length hd3; rw [List.length_drop] at h; omega
  have zE : hdI r3 = 41 := by have h := hd_pre r3 41 (by decide); rw [hE] at h; simpa using h
  have ATe := Lib.hid (fun W => docAt (s := s) (i := p3) (ii := ((p3 : Nat) : Int)) (z := 41) rfl hd3 zE (by omega) W)
  have l12 : 1 ≤ r3.length := (List.isPrefixOf_iff_prefix.1 hE).length_le
  have hkl : (key : List UInt8).length ≤ s.length := by rw [← hkey, List.length_take]; omega
  have VA := Lib.hid (fun W => docValue e hf name key (by omega) W)
  rw [hv] at VA
  have hN : (p3 : Int) + 1 = (s.length : Int) - r3.length + 1 := by omega
  have wN := congrArg (Value.int .i64) hN
  clear hN
  have HBX := Lib.hid (show Below w.heap.size w (w.alloc (.cells #[.string (S e.host), .string (S e.ref), .string (S e.agent), .string (S e.cookie), .string (S e.lang), .string (S e.query)] 23)) by (repeat (first | (with_reducible exact Below.refl _ _) | (with_reducible assumption) | (with_reducible refine Below.drew ?_) | (focus ((with_reducible refine Below.setCell ?_ ?_ _); rotate_left; (first | omega | (simp <;> omega)))) | (focus ((with_reducible refine Below.alloc ?_ ?_ _); rotate_left; (first | omega | (simp <;> omega)))) | exact Below.refl _ _ | assumption | refine Below.drew ?_ | refine Below.alloc ?_ (by first | omega | (simp <;> omega)) _ | refine Below.setCell ?_ (by first | omega | (simp <;> omega)) _)))
  have h2p : 2 ≤ p1 := by omega
  have hp1s : (p1 : Int) ≤ 100010 := by omega
  clear hf
  go_enter Tryz.func9, Tryz.ntmps9
  go_wp2
  try simp only [mk_S]
  go_loop [6] (fun iv => ∃ p : Nat, iv = .int .i64 p ∧ 2 ≤ p ∧ p ≤ p1) (fun iv => p1 - (intOf iv).toNat)
  case atStart => exact ⟨2, rfl, Nat.le_refl _, h2p⟩
  case round =>
  obtain ⟨p, rfl, hp2', hpp⟩ := hrel
  by_cases hlt : p < p1
  · obtain ⟨z, hz', hlz⟩ := HLT.out p hp2' hlt
    have ATL := Lib.hid (fun W => docAt (s := s) (i := p) (ii := (p : Int)) (z := z) rfl rfl hz' (by omega) W)
    rcases hlz with ⟨g1, g2⟩ | g3
    · clear hz'
      go_wp2_with (go_at_call 26; (with_reducible refine Calls.mono (ATL.out _) ?_); rintro x wq ⟨rfl, hwq⟩; obtain rfl := hwq.symm)
      go_round
      case rel => exact ⟨p + 1, by go_num, by omega, by omega⟩
      case measure => simp [intOf]; omega
    · subst g3
      clear hz'
      go_wp2_with (go_at_call 26; (with_reducible refine Calls.mono (ATL.out _) ?_); rintro x wq ⟨rfl, hwq⟩; obtain rfl := hwq.symm)
      go_round
      case rel => exact ⟨p + 1, by go_num, by omega, by omega⟩
      case measure => simp [intOf]; omega
  obtain rfl : p = p1 := by omega
  go_wp2_with (first
    | (go_at_call 26; (with_reducible refine Calls.mono (AT0.out _) ?_); rintro x wq ⟨rfl, hwq⟩; obtain rfl := hwq.symm)
    | (go_at_call 26; (with_reducible refine Calls.mono (AT1.out _) ?_); rintro x wq ⟨rfl, hwq⟩; obtain rfl := hwq.symm)
    | (go_at_call 26; (with_reducible refine Calls.mono (ATb.out _) ?_); rintro x wq ⟨rfl, hwq⟩; obtain rfl := hwq.symm)
    | (go_at_call 27; (with_reducible refine Calls.mono (TO1.out _) ?_); rintro x w3 ⟨rfl, hb3⟩; have HBX := Lib.hid (Below.trans (show Below w.heap.size w _ by (have := HBX.out; (repeat (first | (with_reducible exact Below.refl _ _) | (with_reducible assumption) | (with_reducible refine Below.drew ?_) | (focus ((with_reducible refine Below.setCell ?_ ?_ _); rotate_left; (first | omega | (simp <;> omega)))) | (focus ((with_reducible refine Below.alloc ?_ ?_ _); rotate_left; (first | omega | (simp <;> omega)))) | exact Below.refl _ _ | assumption | refine Below.drew ?_ | refine Below.alloc ?_ (by first | omega | (simp <;> omega)) _ | refine Below.setCell ?_ (by first | omega | (simp <;> omega)) _)))) (hb3.mono (by (try simp only [World.size_alloc, World.size_setCell, World.size_drew]); omega))); obtain ⟨cc_hb3, ff_hb3⟩ := bk hb3 w.heap.size (by (try simp only [World.size_alloc, World.size_setCell, World.size_drew]); omega); have hz_hb3 := hb3.size; (try simp only [World.size_alloc, World.size_setCell, World.size_drew] at hz_hb3); clear hb3)
    | (go_at_call 26; (with_reducible refine Calls.mono (ATy.out _) ?_); rintro x wq ⟨rfl, hwq⟩; obtain rfl := hwq.symm)
    | (go_at_call 26; (with_reducible refine Calls.mono (ATq.out _) ?_); rintro x wq ⟨rfl, hwq⟩; obtain rfl := hwq.symm)
    | (go_at_call 26; (with_reducible refine Calls.mono (ATq1.out _) ?_); rintro x wq ⟨rfl, hwq⟩; obtain rfl := hwq.symm)
    | (go_at_call 27; (with_reducible refine Calls.mono (TO3.out _) ?_); rintro x w5 ⟨rfl, hb5⟩; have HBX := Lib.hid (Below.trans (show Below w.heap.size w _ by (have := HBX.out; (repeat (first | (with_reducible exact Below.refl _ _) | (with_reducible assumption) | (with_reducible refine Below.drew ?_) | (focus ((with_reducible refine Below.setCell ?_ ?_ _); rotate_left; (first | omega | (simp <;> omega)))) | (focus ((with_reducible refine Below.alloc ?_ ?_ _); rotate_left; (first | omega | (simp <;> omega)))) | exact Below.refl _ _ | assumption | refine Below.drew ?_ | refine Below.alloc ?_ (by first | omega | (simp <;> omega)) _ | refine Below.setCell ?_ (by first | omega | (simp <;> omega)) _)))) (hb5.mono (by (try simp only [World.size_alloc, World.size_setCell, World.size_drew]); omega))); obtain ⟨cc_hb5, ff_hb5⟩ := bk hb5 w.heap.size (by (try simp only [World.size_alloc, World.size_setCell, World.size_drew]); omega); have hz_hb5 := hb5.size; (try simp only [World.size_alloc, World.size_setCell, World.size_drew] at hz_hb5); clear hb5)
    | (go_at_call 26; (with_reducible refine Calls.mono (ATe.out _) ?_); rintro x wq ⟨rfl, hwq⟩; obtain rfl := hwq.symm)
    | (go_at_call 14; (with_reducible refine Calls.mono (VA.out _) ?_); rintro x w9 ⟨rfl, hb9⟩; have HBX := Lib.hid (Below.trans (show Below w.heap.size w _ by (have := HBX.out; (repeat (first | (with_reducible exact Below.refl _ _) | (with_reducible assumption) | (with_reducible refine Below.drew ?_) | (focus ((with_reducible refine Below.setCell ?_ ?_ _); rotate_left; (first | omega | (simp <;> omega)))) | (focus ((with_reducible refine Below.alloc ?_ ?_ _); rotate_left; (first | omega | (simp <;> omega)))) | exact Below.refl _ _ | assumption | refine Below.drew ?_ | refine Below.alloc ?_ (by first | omega | (simp <;> omega)) _ | refine Below.setCell ?_ (by first | omega | (simp <;> omega)) _)))) (hb9.mono (by (try simp only [World.size_alloc, World.size_setCell, World.size_drew]); omega))); clear hb9)
    | fail)
  go_ret2
  exact ⟨by first | rfl | (simp [*]; done) | (simp; omega), by (have := HBX.out; (repeat (first | (with_reducible exact Below.refl _ _) | (with_reducible assumption) | (with_reducible refine Below.drew ?_) | (focus ((with_reducible refine Below.setCell ?_ ?_ _); rotate_left; (first | omega | (simp <;> omega)))) | (focus ((with_reducible refine Below.alloc ?_ ?_ _); rotate_left; (first | omega | (simp <;> omega)))) | exact Below.refl _ _ | assumption | refine Below.drew ?_ | refine Below.alloc ?_ (by first | omega | (simp <;> omega)) _ | refine Below.setCell ?_ (by first | omega | (simp <;> omega)) _)))⟩

set_option maxHeartbeats 3200000 in
set_option maxRecDepth 100000 in
theorem dr_C1_D2_not (e : En) (hf : e.few) (s : List UInt8) (hs : s.length ≤ 100000) (w : World) (r : List UInt8) (n : Nat) (hp0 : Lib.hasPrefix s [36, 40] = true) (hr : s.drop 2 = r) (hn : (r.takeWhile letterB).length = n) (hn0 : 0 < n) (name r1 : List UInt8) (hnm : r.take n = name) (hr1 : r.drop n = r1) (hb : Lib.hasPrefix r1 [123] = true) (x : List UInt8) (hx : r1.drop 1 = x) (m : Nat) (hm : (x.takeWhile (notIn badK)).length = m) (key : List UInt8) (hkey : x.take m = key) (hm0 : 0 < m) (y : List UInt8) (hy : r1.drop (1 + m) = y) (hc : Lib.hasPrefix y [125] = true) (r2 : List UInt8) (hr2 : r1.drop (2 + m) = r2) (hd : Lib.hasPrefix r2 [124, 39] = false) (hd2' : Lib.hasPrefix r2 [124] = true) (z : List UInt8) (hz : r2.drop 1 = z) (q : Nat) (hq : (z.takeWhile (notIn badO)).length = q) (o r3 : List UInt8) (ho : z.take q = o) (hr3 : r2.drop (1 + q) = r3) (hE : Lib.hasPrefix r3 [41] = true) (v : List UInt8) (hv : valV e name key = (v, false)) :
    Calls Tryz.prog 9 #[e.v, .string (S s)] w fun x w' => x = .returned (.tuple #[.string (S o), .int .i64 ((s.length : Int) - r3.length + 1)]) ∧ Below w.heap.size w w' := by
  have hsi : (s.length : Int) ≤ 100000 := by omega
  have lr : r.length ≤ s.length := by rw [← hr, List.length_drop]; omega
  have hnr : n ≤ r.length := by rw [← hn]; exact takeWhile_len _ _
  have HLT := Lib.hid (let_in hr hn)
  have HLE := Lib.hid (let_end hr hn)
  obtain ⟨p1, hp1⟩ : ∃ p1, 2 + n = p1 := ⟨_, rfl⟩
  rw [hp1] at HLT HLE
  have hp2 := hd_pre2 s 36 40 (by decide) (by decide)
  rw [hp0] at hp2
  have s2 : 2 ≤ s.length := (List.isPrefixOf_iff_prefix.1 hp0).length_le
  have lr2 : 2 + r.length = s.length := by rw [← hr, List.length_drop]; omega
  have z36 : hdI s = 36 := by simp at hp2; exact hp2.1
  have z40 : hdI (s.drop 1) = 40 := by simp at hp2; simpa using hp2.2
  clear hp2
  have AT0 := Lib.hid (fun W => docAt (s := s) (i := 0) (ii := 0) (z := 36) rfl rfl z36 (by omega) W)
  have AT1 := Lib.hid (fun W => docAt (s := s) (i := 1) (ii := 1) (z := 40) rfl rfl z40 (by omega) W)
  have hd1 : s.drop p1 = r1 := by rw [← hp1, ← hr1, ← hr, List.drop_drop]
  have l1 : p1 + r1.length = s.length := by rw [← hd1, List.length_drop]; omega
  have hp12 := neq_two (show 2 < p1 by omega)
  have hnm2 : (s.take p1).drop 2 = name := by rw [List.drop_take, hr, show p1 - 2 = n by omega, hnm]
  obtain ⟨hp12a, hp12b⟩ := hp12
  have zb : hdI r1 = 123 := by have h := hd_pre r1 123 (by decide); rw [hb] at h; simpa using h
  have l2 : 1 ≤ r1.length := (List.isPrefixOf_iff_prefix.1 hb).length_le
  have l3 : 1 + x.length = r1.length := by rw [← hx, List.length_drop]; omega
  have l4 : m ≤ x.length := by rw [← hm]; exact takeWhile_len _ _
  obtain ⟨a1, ha1⟩ : ∃ a1, p1 + 1 = a1 := ⟨_, rfl⟩
  have ia1 : (p1 : Int) + 1 = (a1 : Int) := by omega
  have hda1 : s.drop a1 = x := by rw [← ha1, ← hx, ← hd1, List.drop_drop]
  obtain ⟨K, hK⟩ : ∃ K, a1 + m = K := ⟨_, rfl⟩
  have TO1 := Lib.hid (fun W => docTo s badK a1 (a1 : Int) rfl (by omega) (by omega) (by decide) K (by rw [hda1, hm, hK]) W)
  unfold badK at TO1
  have ATb := Lib.hid (fun W => docAt (s := s) (i := p1) (ii := ((p1 : Nat) : Int)) (z := 123) rfl hd1 zb (by omega) W)
  have hkey2 : (s.take K).drop a1 = key := by rw [List.drop_take, hda1, show K - a1 = m by omega, hkey]
  have hdK : s.drop K = y := by rw [← hK, ← ha1, ← hy, ← hd1, List.drop_drop]; congr 1; omega
  have hKa1 : ((K : Int) == (a1 : Int)) = false := by simp only [beq_eq_false_iff_ne, ne_eq]; omega
  have hKa2 : ((K : Int) != (a1 : Int)) = true := by unfold bne; rw [hKa1]; rfl
  have zy : hdI y = 125 := by have h := hd_pre y 125 (by decide); rw [hc] at h; simpa using h
  have l5 : 1 ≤ y.length := (List.isPrefixOf_iff_prefix.1 hc).length_le
  have l6 : K + y.length = s.length := by rw [← hdK, List.length_drop]; omega
  have ATy := Lib.hid (fun W => docAt (s := s) (i := K) (ii := ((K : Nat) : Int)) (z := 125) rfl hdK zy (by omega) W)
  obtain ⟨p2, hp2e⟩ : ∃ p2, K + 1 = p2 := ⟨_, rfl⟩
  have ip2 : (K : Int) + 1 = (p2 : Int) := by omega
  have hd2 : s.drop p2 = r2 := by rw [← hp2e, ← hK, ← ha1, ← hr2, ← hd1, List.drop_drop]; congr 1; omega
  have l7 : p2 + r2.length = s.length := by rw [← hd2, List.length_drop]; omega
  have zq : hdI r2 = 124 := by have h := hd_pre r2 124 (by decide); rw [hd2'] at h; simpa using h
  obtain ⟨zn, hzn⟩ : ∃ zn, hdI z = zn := ⟨_, rfl⟩
  have znn : zn ≠ 39 := by have h := hd_pre2 r2 124 39 (by decide) (by decide); rw [hd, zq, hz, hzn] at h; simpa using h
  have hzn1 : ((zn : Int) == 39) = false := by simp only [beq_eq_false_iff_ne, ne_eq]; omega
  have hzn2 : ((zn : Int) != 39) = true := by unfold bne; rw [hzn1]; rfl
  have l8 : 1 ≤ r2.length := (List.isPrefixOf_iff_prefix.1 hd2').length_le
  obtain ⟨b1, hb1⟩ : ∃ b1, p2 + 1 = b1 := ⟨_, rfl⟩
  have ib1 : (p2 : Int) + 1 = (b1 : Int) := by omega
  have hdb1 : s.drop b1 = z := by rw [← hb1, ← hz, ← hd2, List.drop_drop]
  have l9 : b1 + z.length = s.length := by rw [← hdb1, List.length_drop]; omega
  have l10 : q ≤ z.length := by rw [← hq]; exact takeWhile_len _ _
  obtain ⟨p3, hp3⟩ : ∃ p3, b1 + q = p3 := ⟨_, rfl⟩
  have hd3 : s.drop p3 = r3 := by rw [← hp3, ← hb1, ← hr3, ← hd2, List.drop_drop]; congr 1; omega
  have ho2 : (s.take p3).drop b1 = o := by rw [List.drop_take, hdb1, show p3 - b1 = q by omega, ho]
  have ATq := Lib.hid (fun W => docAt (s := s) (i := p2) (ii := ((p2 : Nat) : Int)) (z := 124) rfl hd2 zq (by omega) W)
  have ATq1 := Lib.hid (fun W => docAt (s := s) (i := b1) (ii := ((b1 : Nat) : Int)) (z := zn) rfl hdb1 hzn (by omega) W)
  have TO3 := Lib.hid (fun W => docTo s badO b1 (b1 : Int) rfl (by omega) (by omega) (by decide) p3 (by rw [hdb1, hq, hp3]) W)
  unfold badO at TO3
  have l11 : p3 + r3.length = s.length := by have h := congrArg List.length hd3; rw [List.length_drop] at h; omega
  have zE : hdI r3 = 41 := by have h := hd_pre r3 41 (by decide); rw [hE] at h; simpa using h
  have ATe := Lib.hid (fun W => docAt (s := s) (i := p3) (ii := ((p3 : Nat) : Int)) (z := 41) rfl hd3 zE (by omega) W)
  have l12 : 1 ≤ r3.length := (List.isPrefixOf_iff_prefix.1 hE).length_le
  have hkl : (key : List UInt8).length ≤ s.length := by rw [← hkey, List.length_take]; omega
  have VA := Lib.hid (fun W => docValue e hf name key (by omega) W)
  rw [hv] at VA
  have hN : (p3 : Int) + 1 = (s.length : Int) - r3.length + 1 := by omega
  have wN := congrArg (Value.int .i64) hN
  clear hN
  have HBX := Lib.hid (show Below w.heap.size w (w.alloc (.cells #[.string (S e.host), .string (S e.ref), .string (S e.agent), .string (S e.cookie), .string (S e.lang), .string (S e.query)] 23)) by (repeat (first | (with_reducible exact Below.refl _ _) | (with_reducible assumption) | (with_reducible refine Below.drew ?_) | (focus ((with_reducible refine Below.setCell ?_ ?_ _); rotate_left; (first | omega | (simp <;> omega)))) | (focus ((with_reducible refine Below.alloc ?_ ?_ _); rotate_left; (first | omega | (simp <;> omega)))) | exact Below.refl _ _ | assumption | refine Below.drew ?_ | refine Below.alloc ?_ (by first | omega | (simp <;> omega)) _ | refine Below.setCell ?_ (by first | omega | (simp <;> omega)) _)))
  have h2p : 2 ≤ p1 := by omega
  have hp1s : (p1 : Int) ≤ 100010 := by omega
  clear hf
  go_enter Tryz.func9, Tryz.ntmps9
  go_wp2
  try simp only [mk_S]
  go_loop [6] (fun iv => ∃ p : Nat, iv = .int .i64 p ∧ 2 ≤ p ∧ p ≤ p1) (fun iv => p1 - (intOf iv).toNat)
  case atStart => exact ⟨2, rfl, Nat.le_refl _, h2p⟩
  case round =>
  obtain ⟨p, rfl, hp2', hpp⟩ := hrel
  by_cases hlt : p < p1
  · obtain ⟨z, hz', hlz⟩ := HLT.out p hp2' hlt
    have ATL := Lib.hid (fun W => docAt (s := s) (i := p) (ii := (p : Int)) (z := z) rfl rfl hz' (by omega) W)
    rcases hlz with ⟨g1, g2⟩ | g3
    · clear hz'
      go_wp2_with (go_at_call 26; (with_reducible refine Calls.mono (ATL.out _) ?_); rintro x wq ⟨rfl, hwq⟩; obtain rfl := hwq.symm)
      go_round
      case rel => exact ⟨p + 1, by go_num, by omega, by omega⟩
      case measure => simp [intOf]; omega
    · subst g3
      clear hz'
      go_wp2_with (go_at_call 26; (with_reducible refine Calls.mono (ATL.out _) ?_); rintro x wq ⟨rfl, hwq⟩; obtain rfl := hwq.symm)
      go_round
      case rel => exact ⟨p + 1, by go_num, by omega, by omega⟩
      case measure => simp [intOf]; omega
  obtain rfl : p = p1 := by omega
  go_wp2_with (first
    | (go_at_call 26; (with_reducible refine Calls.mono (AT0.out _) ?_); rintro x wq ⟨rfl, hwq⟩; obtain rfl := hwq.symm)
    | (go_at_call 26; (with_reducible refine Calls.mono (AT1.out _) ?_); rintro x wq ⟨rfl, hwq⟩; obtain rfl := hwq.symm)
    | (go_at_call 26; (with_reducible refine Calls.mono (ATb.out _) ?_); rintro x wq ⟨rfl, hwq⟩; obtain rfl := hwq.symm)
    | (go_at_call 27; (with_reducible refine Calls.mono (TO1.out _) ?_); rintro x w3 ⟨rfl, hb3⟩; have HBX := Lib.hid (Below.trans (show Below w.heap.size w _ by (have := HBX.out; (repeat (first | (with_reducible exact Below.refl _ _) | (with_reducible assumption) | (with_reducible refine Below.drew ?_) | (focus ((with_reducible refine Below.setCell ?_ ?_ _); rotate_left; (first | omega | (simp <;> omega)))) | (focus ((with_reducible refine Below.alloc ?_ ?_ _); rotate_left; (first | omega | (simp <;> omega)))) | exact Below.refl _ _ | assumption | refine Below.drew ?_ | refine Below.alloc ?_ (by first | omega | (simp <;> omega)) _ | refine Below.setCell ?_ (by first | omega | (simp <;> omega)) _)))) (hb3.mono (by (try simp only [World.size_alloc, World.size_setCell, World.size_drew]); omega))); obtain ⟨cc_hb3, ff_hb3⟩ := bk hb3 w.heap.size (by (try simp only [World.size_alloc, World.size_setCell, World.size_drew]); omega); have hz_hb3 := hb3.size; (try simp only [World.size_alloc, World.size_setCell, World.size_drew] at hz_hb3); clear hb3)
    | (go_at_call 26; (with_reducible refine Calls.mono (ATy.out _) ?_); rintro x wq ⟨rfl, hwq⟩; obtain rfl := hwq.symm)
    | (go_at_call 26; (with_reducible refine Calls.mono (ATq.out _) ?_); rintro x wq ⟨rfl, hwq⟩; obtain rfl := hwq.symm)
    | (go_at_call 26; (with_reducible refine Calls.mono (ATq1.out _) ?_); rintro x wq ⟨rfl, hwq⟩; obtain rfl := hwq.symm)
    | (go_at_call 27; (with_reducible refine Calls.mono (TO3.out _) ?_); rintro x w5 ⟨rfl, hb5⟩; have HBX := Lib.hid (Below.trans (show Below w.heap.size w _ by (have := HBX.out; (repeat (first | (with_reducible exact Below.refl _ _) | (with_reducible assumption) | (with_reducible refine Below.drew ?_) | (focus ((with_reducible refine Below.setCell ?_ ?_ _); rotate_left; (first | omega | (simp <;> omega)))) | (focus ((with_reducible refine Below.alloc ?_ ?_ _); rotate_left; (first | omega | (simp <;> omega)))) | exact Below.refl _ _ | assumption | refine Below.drew ?_ | refine Below.alloc ?_ (by first | omega | (simp <;> omega)) _ | refine Below.setCell ?_ (by first | omega | (simp <;> omega)) _)))) (hb5.mono (by (try simp only [World.size_alloc, World.size_setCell, World.size_drew]); omega))); obtain ⟨cc_hb5, ff_hb5⟩ := bk hb5 w.heap.size (by (try simp only [World.size_alloc, World.size_setCell, World.size_drew]); omega); have hz_hb5 := hb5.size; (try simp only [World.size_alloc, World.size_setCell, World.size_drew] at hz_hb5); clear hb5)
    | (go_at_call 26; (with_reducible refine Calls.mono (ATe.out _) ?_); rintro x wq ⟨rfl, hwq⟩; obtain rfl := hwq.symm)
    | (go_at_call 14; (with_reducible refine Calls.mono (VA.out _) ?_); rintro x w9 ⟨rfl, hb9⟩; have HBX := Lib.hid (Below.trans (show Below w.heap.size w _ by (have := HBX.out; (repeat (first | (with_reducible exact Below.refl _ _) | (with_reducible assumption) | (with_reducible refine Below.drew ?_) | (focus ((with_reducible refine Below.setCell ?_ ?_ _); rotate_left; (first | omega | (simp <;> omega)))) | (focus ((with_reducible refine Below.alloc ?_ ?_ _); rotate_left; (first | omega | (simp <;> omega)))) | exact Below.refl _ _ | assumption | refine Below.drew ?_ | refine Below.alloc ?_ (by first | omega | (simp <;> omega)) _ | refine Below.setCell ?_ (by first | omega | (simp <;> omega)) _)))) (hb9.mono (by (try simp only [World.size_alloc, World.size_setCell, World.size_drew]); omega))); clear hb9)
    | fail)
  go_ret2
  exact ⟨by first | rfl | (simp [*]; done) | (simp; omega), by (have := HBX.out; (repeat (first | (with_reducible exact Below.refl _ _) | (with_reducible assumption) | (with_reducible refine Below.drew ?_) | (focus ((with_reducible refine Below.setCell ?_ ?_ _); rotate_left; (first | omega | (simp <;> omega)))) | (focus ((with_reducible refine Below.alloc ?_ ?_ _); rotate_left; (first | omega | (simp <;> omega)))) | exact Below.refl _ _ | assumption | refine Below.drew ?_ | refine Below.alloc ?_ (by first | omega | (simp <;> omega)) _ | refine Below.setCell ?_ (by first | omega | (simp <;> omega)) _)))⟩

set_option maxHeartbeats 3200000 in
set_option maxRecDepth 100000 in
theorem dr_C1_D3_no (e : En) (hf : e.few) (s : List UInt8) (hs : s.length ≤ 100000) (w : World) (r : List UInt8) (n : Nat) (hp0 : Lib.hasPrefix s [36, 40] = true) (hr : s.drop 2 = r) (hn : (r.takeWhile letterB).length = n) (hn0 : 0 < n) (name r1 : List UInt8) (hnm : r.take n = name) (hr1 : r.drop n = r1) (hb : Lib.hasPrefix r1 [123] = true) (x : List UInt8) (hx : r1.drop 1 = x) (m : Nat) (hm : (x.takeWhile (notIn badK)).length = m) (key : List UInt8) (hkey : x.take m = key) (hm0 : 0 < m) (y : List UInt8) (hy : r1.drop (1 + m) = y) (hc : Lib.hasPrefix y [125] = true) (r2 : List UInt8) (hr2 : r1.drop (2 + m) = r2) (hd : Lib.hasPrefix r2 [124, 39] = false) (hd2' : Lib.hasPrefix r2 [124] = false) (hE : Lib.hasPrefix r2 [41] = false) :
    Calls Tryz.prog 9 #[e.v, .string (S s)] w fun x w' => x = .returned (.tuple #[.string (S []), .int .i64 0]) ∧ Below w.heap.size w w' := by
  have hsi : (s.length : Int) ≤ 100000 := by omega
  have lr : r.length ≤ s.length := by rw [← hr, List.length_drop]; omega
  have hnr : n ≤ r.length := by rw [← hn]; exact takeWhile_len _ _
  have HLT := Lib.hid (let_in hr hn)
  have HLE := Lib.hid (let_end hr hn)
  obtain ⟨p1, hp1⟩ : ∃ p1, 2 + n = p1 := ⟨_, rfl⟩
  rw [hp1] at HLT HLE
  have hp2 := hd_pre2 s 36 40 (by decide) (by decide)
  rw [hp0] at hp2
  have s2 : 2 ≤ s.length := (List.isPrefixOf_iff_prefix.1 hp0).length_le
  have lr2 : 2 + r.length = s.length := by rw [← hr, List.length_drop]; omega
  have z36 : hdI s = 36 := by simp at hp2; exact hp2.1
  have z40 : hdI (s.drop 1) = 40 := by simp at hp2; simpa using hp2.2
  clear hp2
  have AT0 := Lib.hid (fun W => docAt (s := s) (i := 0) (ii := 0) (z := 36) rfl rfl z36 (by omega) W)
  have AT1 := Lib.hid (fun W => docAt (s := s) (i := 1) (ii := 1) (z := 40) rfl rfl z40 (by omega) W)
  have hd1 : s.drop p1 = r1 := by rw [← hp1, ← hr1, ← hr, List.drop_drop]
  have l1 : p1 + r1.length = s.length := by rw [← hd1, List.length_drop]; omega
  have hp12 := neq_two (show 2 < p1 by omega)
  have hnm2 : (s.take p1).drop 2 = name := by rw [List.drop_take, hr, show p1 - 2 = n by omega, hnm]
  obtain ⟨hp12a, hp12b⟩ := hp12
  have zb : hdI r1 = 123 := by have h := hd_pre r1 123 (by decide); rw [hb] at h; simpa using h
  have l2 : 1 ≤ r1.length := (List.isPrefixOf_iff_prefix.1 hb).length_le
  have l3 : 1 + x.length = r1.length := by rw [← hx, List.length_drop]; omega
  have l4 : m ≤ x.length := by rw [← hm]; exact takeWhile_len _ _
  obtain ⟨a1, ha1⟩ : ∃ a1, p1 + 1 = a1 := ⟨_, rfl⟩
  have ia1 : (p1 : Int) + 1 = (a1 : Int) := by omega
  have hda1 : s.drop a1 = x := by rw [← ha1, ← hx, ← hd1, List.drop_drop]
  obtain ⟨K, hK⟩ : ∃ K, a1 + m = K := ⟨_, rfl⟩
  have TO1 := Lib.hid (fun W => docTo s badK a1 (a1 : Int) rfl (by omega) (by omega) (by decide) K (by rw [hda1, hm, hK]) W)
  unfold badK at TO1
  have ATb := Lib.hid (fun W => docAt (s := s) (i := p1) (ii := ((p1 : Nat) : Int)) (z := 123) rfl hd1 zb (by omega) W)
  have hkey2 : (s.take K).drop a1 = key := by rw [List.drop_take, hda1, show K - a1 = m by omega, hkey]
  have hdK : s.drop K = y := by rw [← hK, ← ha1, ← hy, ← hd1, List.drop_drop]; congr 1; omega
  have hKa1 : ((K : Int) == (a1 : Int)) = false := by simp only [beq_eq_false_iff_ne, ne_eq]; omega
  have hKa2 : ((K : Int) != (a1 : Int)) = true := by unfold bne; rw [hKa1]; rfl
  have zy : hdI y = 125 := by have h := hd_pre y 125 (by decide); rw [hc] at h; simpa using h
  have l5 : 1 ≤ y.length := (List.isPrefixOf_iff_prefix.1 hc).length_le
  have l6 : K + y.length = s.length := by rw [← hdK, List.length_drop]; omega
  have ATy := Lib.hid (fun W => docAt (s := s) (i := K) (ii := ((K : Nat) : Int)) (z := 125) rfl hdK zy (by omega) W)
  obtain ⟨p2, hp2e⟩ : ∃ p2, K + 1 = p2 := ⟨_, rfl⟩
  have ip2 : (K : Int) + 1 = (p2 : Int) := by omega
  have hd2 : s.drop p2 = r2 := by rw [← hp2e, ← hK, ← ha1, ← hr2, ← hd1, List.drop_drop]; congr 1; omega
  have l7 : p2 + r2.length = s.length := by rw [← hd2, List.length_drop]; omega
  have hd3 := hd2
  have l11 : p2 + r2.length = s.length := by have h := congrArg List.length hd3; rw [List.length_drop] at h; omega
  obtain ⟨zE, hzE⟩ : ∃ z, hdI r2 = z := ⟨_, rfl⟩
  have zEn : zE ≠ 41 := by have h := hd_pre r2 41 (by decide); rw [hE, hzE] at h; simpa using h
  have hzE1 : ((zE : Int) == 41) = false := by simp only [beq_eq_false_iff_ne, ne_eq]; omega
  have hzE2 : ((zE : Int) != 41) = true := by unfold bne; rw [hzE1]; rfl
  have ATe := Lib.hid (fun W => docAt (s := s) (i := p2) (ii := ((p2 : Nat) : Int)) (z := zE) rfl hd3 hzE (by omega) W)
  have zE2 : zE ≠ 124 := by have h := hd_pre r2 124 (by decide); rw [hd2', hzE] at h; simpa using h
  have hzE21 : ((zE : Int) == 124) = false := by simp only [beq_eq_false_iff_ne, ne_eq]; omega
  have hzE22 : ((zE : Int) != 124) = true := by unfold bne; rw [hzE21]; rfl
  have HBX := Lib.hid (show Below w.heap.size w (w.alloc (.cells #[.string (S e.host), .string (S e.ref), .string (S e.agent), .string (S e.cookie), .string (S e.lang), .string (S e.query)] 23)) by (repeat (first | (with_reducible exact Below.refl _ _) | (with_reducible assumption) | (with_reducible refine Below.drew ?_) | (focus ((with_reducible refine Below.setCell ?_ ?_ _); rotate_left; (first | omega | (simp <;> omega)))) | (focus ((with_reducible refine Below.alloc ?_ ?_ _); rotate_left; (first | omega | (simp <;> omega)))) | exact Below.refl _ _ | assumption | refine Below.drew ?_ | refine Below.alloc ?_ (by first | omega | (simp <;> omega)) _ | refine Below.setCell ?_ (by first | omega | (simp <;> omega)) _)))
  have h2p : 2 ≤ p1 := by omega
  have hp1s : (p1 : Int) ≤ 100010 := by omega
  clear hf
  go_enter Tryz.func9, Tryz.ntmps9
  go_wp2
  try simp only [mk_S]
  go_loop [6] (fun iv => ∃ p : Nat, iv = .int .i64 p ∧ 2 ≤ p ∧ p ≤ p1) (fun iv => p1 - (intOf iv).toNat)
  case atStart => exact ⟨2, rfl, Nat.le_refl _, h2p⟩
  case round =>
  obtain ⟨p, rfl, hp2', hpp⟩ := hrel
  by_cases hlt : p < p1
  · obtain ⟨z, hz', hlz⟩ := HLT.out p hp2' hlt
    have ATL := Lib.hid (fun W => docAt (s := s) (i := p) (ii := (p : Int)) (z := z) rfl rfl hz' (by omega) W)
    rcases hlz with ⟨g1, g2⟩ | g3
    · clear hz'
      go_wp2_with (go_at_call 26; (with_reducible refine Calls.mono (ATL.out _) ?_); rintro x wq ⟨rfl, hwq⟩; obtain rfl := hwq.symm)
      go_round
      case rel => exact ⟨p + 1, by go_num, by omega, by omega⟩
      case measure => simp [intOf]; omega
    · subst g3
      clear hz'
      go_wp2_with (go_at_call 26; (with_reducible refine Calls.mono (ATL.out _) ?_); rintro x wq ⟨rfl, hwq⟩; obtain rfl := hwq.symm)
      go_round
      case rel => exact ⟨p + 1, by go_num, by omega, by omega⟩
      case measure => simp [intOf]; omega
  obtain rfl : p = p1 := by omega
  go_wp2_with (first
    | (go_at_call 26; (with_reducible refine Calls.mono (AT0.out _) ?_); rintro x wq ⟨rfl, hwq⟩; obtain rfl := hwq.symm)
    | (go_at_call 26; (with_reducible refine Calls.mono (AT1.out _) ?_); rintro x wq ⟨rfl, hwq⟩; obtain rfl := hwq.symm)
    | (go_at_call 26; (with_reducible refine Calls.mono (ATb.out _) ?_); rintro x wq ⟨rfl, hwq⟩; obtain rfl := hwq.symm)
    | (go_at_call 27; (with_reducible refine Calls.mono (TO1.out _) ?_); rintro x w3 ⟨rfl, hb3⟩; have HBX := Lib.hid (Below.trans (show Below w.heap.size w _ by (have := HBX.out; (repeat (first | (with_reducible exact Below.refl _ _) | (with_reducible assumption) | (with_reducible refine Below.drew ?_) | (focus ((with_reducible refine Below.setCell ?_ ?_ _); rotate_left; (first | omega | (simp <;> omega)))) | (focus ((with_reducible refine Below.alloc ?_ ?_ _); rotate_left; (first | omega | (simp <;> omega)))) | exact Below.refl _ _ | assumption | refine Below.drew ?_ | refine Below.alloc ?_ (by first | omega | (simp <;> omega)) _ | refine Below.setCell ?_ (by first | omega | (simp <;> omega)) _)))) (hb3.mono (by (try simp only [World.size_alloc, World.size_setCell, World.size_drew]); omega))); obtain ⟨cc_hb3, ff_hb3⟩ := bk hb3 w.heap.size (by (try simp only [World.size_alloc, World.size_setCell, World.size_drew]); omega); have hz_hb3 := hb3.size; (try simp only [World.size_alloc, World.size_setCell, World.size_drew] at hz_hb3); clear hb3)
    | (go_at_call 26; (with_reducible refine Calls.mono (ATy.out _) ?_); rintro x wq ⟨rfl, hwq⟩; obtain rfl := hwq.symm)
    | (go_at_call 26; (with_reducible refine Calls.mono (ATe.out _) ?_); rintro x wq ⟨rfl, hwq⟩; obtain rfl := hwq.symm)
    | fail)
  go_ret2
  exact ⟨by first | rfl | (simp [*]; done) | (simp; omega), by (have := HBX.out; (repeat (first | (with_reducible exact Below.refl _ _) | (with_reducible assumption) | (with_reducible refine Below.drew ?_) | (focus ((with_reducible refine Below.setCell ?_ ?_ _); rotate_left; (first | omega | (simp <;> omega)))) | (focus ((with_reducible refine Below.alloc ?_ ?_ _); rotate_left; (first | omega | (simp <;> omega)))) | exact Below.refl _ _ | assumption | refine Below.drew ?_ | refine Below.alloc ?_ (by first | omega | (simp <;> omega)) _ | refine Below.setCell ?_ (by first | omega | (simp <;> omega)) _)))⟩

set_option maxHeartbeats 3200000 in
set_option maxRecDepth 100000 in
theorem dr_C1_D3_is (e : En) (hf : e.few) (s : List UInt8) (hs : s.length ≤ 100000) (w : World) (r : List UInt8) (n : Nat) (hp0 : Lib.hasPrefix s [36, 40] = true) (hr : s.drop 2 = r) (hn : (r.takeWhile letterB).length = n) (hn0 : 0 < n) (name r1 : List UInt8) (hnm : r.take n = name) (hr1 : r.drop n = r1) (hb : Lib.hasPrefix r1 [123] = true) (x : List UInt8) (hx : r1.drop 1 = x) (m : Nat) (hm : (x.takeWhile (notIn badK)).length = m) (key : List UInt8) (hkey : x.take m = key) (hm0 : 0 < m) (y : List UInt8) (hy : r1.drop (1 + m) = y) (hc : Lib.hasPrefix y [125] = true) (r2 : List UInt8) (hr2 : r1.drop (2 + m) = r2) (hd : Lib.hasPrefix r2 [124, 39] = false) (hd2' : Lib.hasPrefix r2 [124] = false) (hE : Lib.hasPrefix r2 [41] = true) (v : List UInt8) (hv : valV e name key = (v, true)) :
    Calls Tryz.prog 9 #[e.v, .string (S s)] w fun x w' => x = .returned (.tuple #[.string (S v), .int .i64 ((s.length : Int) - r2.length + 1)]) ∧ Below w.heap.size w w' := by
  have hsi : (s.length : Int) ≤ 100000 := by omega
  have lr : r.length ≤ s.length := by rw [← hr, List.length_drop]; omega
  have hnr : n ≤ r.length := by rw [← hn]; exact takeWhile_len _ _
  have HLT := Lib.hid (let_in hr hn)
  have HLE := Lib.hid (let_end hr hn)
  obtain ⟨p1, hp1⟩ : ∃ p1, 2 + n = p1 := ⟨_, rfl⟩
  rw [hp1] at HLT HLE
  have hp2 := hd_pre2 s 36 40 (by decide) (by decide)
  rw [hp0] at hp2
  have s2 : 2 ≤ s.length := (List.isPrefixOf_iff_prefix.1 hp0).length_le
  have lr2 : 2 + r.length = s.length := by rw [← hr, List.length_drop]; omega
  have z36 : hdI s = 36 := by simp at hp2; exact hp2.1
  have z40 : hdI (s.drop 1) = 40 := by simp at hp2; simpa using hp2.2
  clear hp2
  have AT0 := Lib.hid (fun W => docAt (s := s) (i := 0) (ii := 0) (z := 36) rfl rfl z36 (by omega) W)
  have AT1 := Lib.hid (fun W => docAt (s := s) (i := 1) (ii := 1) (z := 40) rfl rfl z40 (by omega) W)
  have hd1 : s.drop p1 = r1 := by rw [← hp1, ← hr1, ← hr, List.drop_drop]
  have l1 : p1 + r1.length = s.length := by rw [← hd1, List.length_drop]; omega
  have hp12 := neq_two (show 2 < p1 by omega)
  have hnm2 : (s.take p1).drop 2 = name := by rw [List.drop_take, hr, show p1 - 2 = n by omega, hnm]
  obtain ⟨hp12a, hp12b⟩ := hp12
  have zb : hdI r1 = 123 := by have h := hd_pre r1 123 (by decide); rw [hb] at h; simpa using h
  have l2 : 1 ≤ r1.length := (List.isPrefixOf_iff_prefix.1 hb).length_le
  have l3 : 1 + x.length = r1.length := by rw [← hx, List.length_drop]; omega
  have l4 : m ≤ x.length := by rw [← hm]; exact takeWhile_len _ _
  obtain ⟨a1, ha1⟩ : ∃ a1, p1 + 1 = a1 := ⟨_, rfl⟩
  have ia1 : (p1 : Int) + 1 = (a1 : Int) := by omega
  have hda1 : s.drop a1 = x := by rw [← ha1, ← hx, ← hd1, List.drop_drop]
  obtain ⟨K, hK⟩ : ∃ K, a1 + m = K := ⟨_, rfl⟩
  have TO1 := Lib.hid (fun W => docTo s badK a1 (a1 : Int) rfl (by omega) (by omega) (by decide) K (by rw [hda1, hm, hK]) W)
  unfold badK at TO1
  have ATb := Lib.hid (fun W => docAt (s := s) (i := p1) (ii := ((p1 : Nat) : Int)) (z := 123) rfl hd1 zb (by omega) W)
  have hkey2 : (s.take K).drop a1 = key := by rw [List.drop_take, hda1, show K - a1 = m by omega, hkey]
  have hdK : s.drop K = y := by rw [← hK, ← ha1, ← hy, ← hd1, List.drop_drop]; congr 1; omega
  have hKa1 : ((K : Int) == (a1 : Int)) = false := by simp only [beq_eq_false_iff_ne, ne_eq]; omega
  have hKa2 : ((K : Int) != (a1 : Int)) = true := by unfold bne; rw [hKa1]; rfl
  have zy : hdI y = 125 := by have h := hd_pre y 125 (by decide); rw [hc] at h; simpa using h
  have l5 : 1 ≤ y.length := (List.isPrefixOf_iff_prefix.1 hc).length_le
  have l6 : K + y.length = s.length := by rw [← hdK, List.length_drop]; omega
  have ATy := Lib.hid (fun W => docAt (s := s) (i := K) (ii := ((K : Nat) : Int)) (z := 125) rfl hdK zy (by omega) W)
  obtain ⟨p2, hp2e⟩ : ∃ p2, K + 1 = p2 := ⟨_, rfl⟩
  have ip2 : (K : Int) + 1 = (p2 : Int) := by omega
  have hd2 : s.drop p2 = r2 := by rw [← hp2e, ← hK, ← ha1, ← hr2, ← hd1, List.drop_drop]; congr 1; omega
  have l7 : p2 + r2.length = s.length := by rw [← hd2, List.length_drop]; omega
  have hd3 := hd2
  have l11 : p2 + r2.length = s.length := by have h := congrArg List.length hd3; rw [List.length_drop] at h; omega
  have zE : hdI r2 = 41 := by have h := hd_pre r2 41 (by decide); rw [hE] at h; simpa using h
  have ATe := Lib.hid (fun W => docAt (s := s) (i := p2) (ii := ((p2 : Nat) : Int)) (z := 41) rfl hd3 zE (by omega) W)
  have l12 : 1 ≤ r2.length := (List.isPrefixOf_iff_prefix.1 hE).length_le
  have hkl : (key : List UInt8).length ≤ s.length := by rw [← hkey, List.length_take]; omega
  have VA := Lib.hid (fun W => docValue e hf name key (by omega) W)
  rw [hv] at VA
  have hN : (p2 : Int) + 1 = (s.length : Int) - r2.length + 1 := by omega
  have wN := congrArg (Value.int .i64) hN
  clear hN
  have HBX := Lib.hid (show Below w.heap.size w (w.alloc (.cells #[.string (S e.host), .string (S e.ref), .string (S e.agent), .string (S e.cookie), .string (S e.lang), .string (S e.query)] 23)) by (repeat (first | (with_reducible exact Below.refl _ _) | (with_reducible assumption) | (with_reducible refine Below.drew ?_) | (focus ((with_reducible refine Below.setCell ?_ ?_ _); rotate_left; (first | omega | (simp <;> omega)))) | (focus ((with_reducible refine Below.alloc ?_ ?_ _); rotate_left; (first | omega | (simp <;> omega)))) | exact Below.refl _ _ | assumption | refine Below.drew ?_ | refine Below.alloc ?_ (by first | omega | (simp <;> omega)) _ | refine Below.setCell ?_ (by first | omega | (simp <;> omega)) _)))
  have h2p : 2 ≤ p1 := by omega
  have hp1s : (p1 : Int) ≤ 100010 := by omega
  clear hf
  go_enter Tryz.func9, Tryz.ntmps9
  go_wp2
  try simp only [mk_S]
  go_loop [6] (fun iv => ∃ p : Nat, iv = .int .i64 p ∧ 2 ≤ p ∧ p ≤ p1) (fun iv => p1 - (intOf iv).toNat)
  case atStart => exact ⟨2, rfl, Nat.le_refl _, h2p⟩
  case round =>
  obtain ⟨p, rfl, hp2', hpp⟩ := hrel
  by_cases hlt : p < p1
  · obtain ⟨z, hz', hlz⟩ := HLT.out p hp2' hlt
    have ATL := Lib.hid (fun W => docAt (s := s) (i := p) (ii := (p : Int)) (z := z) rfl rfl hz' (by omega) W)
    rcases hlz with ⟨g1, g2⟩ | g3
    · clear hz'
      go_wp2_with (go_at_call 26; (with_reducible refine Calls.mono (ATL.out _) ?_); rintro x wq ⟨rfl, hwq⟩; obtain rfl := hwq.symm)
      go_round
      case rel => exact ⟨p + 1, by go_num, by omega, by omega⟩
      case measure => simp [intOf]; omega
    · subst g3
      clear hz'
      go_wp2_with (go_at_call 26; (with_reducible refine Calls.mono (ATL.out _) ?_); rintro x wq ⟨rfl, hwq⟩; obtain rfl := hwq.symm)
      go_round
      case rel => exact ⟨p + 1, by go_num, by omega, by omega⟩
      case measure => simp [intOf]; omega
  obtain rfl : p = p1 := by omega
  go_wp2_with (first
    | (go_at_call 26; (with_reducible refine Calls.mono (AT0.out _) ?_); rintro x wq ⟨rfl, hwq⟩; obtain rfl := hwq.symm)
    | (go_at_call 26; (with_reducible refine Calls.mono (AT1.out _) ?_); rintro x wq ⟨rfl, hwq⟩; obtain rfl := hwq.symm)
    | (go_at_call 26; (with_reducible refine Calls.mono (ATb.out _) ?_); rintro x wq ⟨rfl, hwq⟩; obtain rfl := hwq.symm)
    | (go_at_call 27; (with_reducible refine Calls.mono (TO1.out _) ?_); rintro x w3 ⟨rfl, hb3⟩; have HBX := Lib.hid (Below.trans (show Below w.heap.size w _ by (have := HBX.out; (repeat (first | (with_reducible exact Below.refl _ _) | (with_reducible assumption) | (with_reducible refine Below.drew ?_) | (focus ((with_reducible refine Below.setCell ?_ ?_ _); rotate_left; (first | omega | (simp <;> omega)))) | (focus ((with_reducible refine Below.alloc ?_ ?_ _); rotate_left; (first | omega | (simp <;> omega)))) | exact Below.refl _ _ | assumption | refine Below.drew ?_ | refine Below.alloc ?_ (by first | omega | (simp <;> omega)) _ | refine Below.setCell ?_ (by first | omega | (simp <;> omega)) _)))) (hb3.mono (by (try simp only [World.size_alloc, World.size_setCell, World.size_drew]); omega))); obtain ⟨cc_hb3, ff_hb3⟩ := bk hb3 w.heap.size (by (try simp only [World.size_alloc, World.size_setCell, World.size_drew]); omega); have hz_hb3 := hb3.size; (try simp only [World.size_alloc, World.size_setCell, World.size_drew] at hz_hb3); clear hb3)
    | (go_at_call 26; (with_reducible refine Calls.mono (ATy.out _) ?_); rintro x wq ⟨rfl, hwq⟩; obtain rfl := hwq.symm)
    | (go_at_call 26; (with_reducible refine Calls.mono (ATe.out _) ?_); rintro x wq ⟨rfl, hwq⟩; obtain rfl := hwq.symm)
    | (go_at_call 14; (with_reducible refine Calls.mono (VA.out _) ?_); rintro x w9 ⟨rfl, hb9⟩; have HBX := Lib.hid (Below.trans (show Below w.heap.size w _ by (have := HBX.out; (repeat (first | (with_reducible exact Below.refl _ _) | (with_reducible assumption) | (with_reducible refine Below.drew ?_) | (focus ((with_reducible refine Below.setCell ?_ ?_ _); rotate_left; (first | omega | (simp <;> omega)))) | (focus ((with_reducible refine Below.alloc ?_ ?_ _); rotate_left; (first | omega | (simp <;> omega)))) | exact Below.refl _ _ | assumption | refine Below.drew ?_ | refine Below.alloc ?_ (by first | omega | (simp <;> omega)) _ | refine Below.setCell ?_ (by first | omega | (simp <;> omega)) _)))) (hb9.mono (by (try simp only [World.size_alloc, World.size_setCell, World.size_drew]); omega))); clear hb9)
    | fail)
  go_ret2
  exact ⟨by first | rfl | (simp [*]; done) | (simp; omega), by (have := HBX.out; (repeat (first | (with_reducible exact Below.refl _ _) | (with_reducible assumption) | (with_reducible refine Below.drew ?_) | (focus ((with_reducible refine Below.setCell ?_ ?_ _); rotate_left; (first | omega | (simp <;> omega)))) | (focus ((with_reducible refine Below.alloc ?_ ?_ _); rotate_left; (first | omega | (simp <;> omega)))) | exact Below.refl _ _ | assumption | refine Below.drew ?_ | refine Below.alloc ?_ (by first | omega | (simp <;> omega)) _ | refine Below.setCell ?_ (by first | omega | (simp <;> omega)) _)))⟩

set_option maxHeartbeats 3200000 in
set_option maxRecDepth 100000 in
theorem dr_C1_D3_not (e : En) (hf : e.few) (s : List UInt8) (hs : s.length ≤ 100000) (w : World) (r : List UInt8) (n : Nat) (hp0 : Lib.hasPrefix s [36, 40] = true) (hr : s.drop 2 = r) (hn : (r.takeWhile letterB).length = n) (hn0 : 0 < n) (name r1 : List UInt8) (hnm : r.take n = name) (hr1 : r.drop n = r1) (hb : Lib.hasPrefix r1 [123] = true) (x : List UInt8) (hx : r1.drop 1 = x) (m : Nat) (hm : (x.takeWhile (notIn badK)).length = m) (key : List UInt8) (hkey : x.take m = key) (hm0 : 0 < m) (y : List UInt8) (hy : r1.drop (1 + m) = y) (hc : Lib.hasPrefix y [125] = true) (r2 : List UInt8) (hr2 : r1.drop (2 + m) = r2) (hd : Lib.hasPrefix r2 [124, 39] = false) (hd2' : Lib.hasPrefix r2 [124] = false) (hE : Lib.hasPrefix r2 [41] = true) (v : List UInt8) (hv : valV e name key = (v, false)) :
    Calls Tryz.prog 9 #[e.v, .string (S s)] w fun x w' => x = .returned (.tuple #[.string (S []), .int .i64 ((s.length : Int) - r2.length + 1)]) ∧ Below w.heap.size w w' := by
  have hsi : (s.length : Int) ≤ 100000 := by omega
  have lr : r.length ≤ s.length := by rw [← hr, List.length_drop]; omega
  have hnr : n ≤ r.length := by rw [← hn]; exact takeWhile_len _ _
  have HLT := Lib.hid (let_in hr hn)
  have HLE := Lib.hid (let_end hr hn)
  obtain ⟨p1, hp1⟩ : ∃ p1, 2 + n = p1 := ⟨_, rfl⟩
  rw [hp1] at HLT HLE
  have hp2 := hd_pre2 s 36 40 (by decide) (by decide)
  rw [hp0] at hp2
  have s2 : 2 ≤ s.length := (List.isPrefixOf_iff_prefix.1 hp0).length_le
  have lr2 : 2 + r.length = s.length := by rw [← hr, List.length_drop]; omega
  have z36 : hdI s = 36 := by simp at hp2; exact hp2.1
  have z40 : hdI (s.drop 1) = 40 := by simp at hp2; simpa using hp2.2
  clear hp2
  have AT0 := Lib.hid (fun W => docAt (s := s) (i := 0) (ii := 0) (z := 36) rfl rfl z36 (by omega) W)
  have AT1 := Lib.hid (fun W => docAt (s := s) (i := 1) (ii := 1) (z := 40) rfl rfl z40 (by omega) W)
  have hd1 : s.drop p1 = r1 := by rw [← hp1, ← hr1, ← hr, List.drop_drop]
  have l1 : p1 + r1.length = s.length := by rw [← hd1, List.length_drop]; omega
  have hp12 := neq_two (show 2 < p1 by omega)
  have hnm2 : (s.take p1).drop 2 = name := by rw [List.drop_take, hr, show p1 - 2 = n by omega, hnm]
  obtain ⟨hp12a, hp12b⟩ := hp12
  have zb : hdI r1 = 123 := by have h := hd_pre r1 123 (by decide); rw [hb] at h; simpa using h
  have l2 : 1 ≤ r1.length := (List.isPrefixOf_iff_prefix.1 hb).length_le
  have l3 : 1 + x.length = r1.length := by rw [← hx, List.length_drop]; omega
  have l4 : m ≤ x.length := by rw [← hm]; exact takeWhile_len _ _
  obtain ⟨a1, ha1⟩ : ∃ a1, p1 + 1 = a1 := ⟨_, rfl⟩
  have ia1 : (p1 : Int) + 1 = (a1 : Int) := by omega
  have hda1 : s.drop a1 = x := by rw [← ha1, ← hx, ← hd1, List.drop_drop]
  obtain ⟨K, hK⟩ : ∃ K, a1 + m = K := ⟨_, rfl⟩
  have TO1 := Lib.hid (fun W => docTo s badK a1 (a1 : Int) rfl (by omega) (by omega) (by decide) K (by rw [hda1, hm, hK]) W)
  unfold badK at TO1
  have ATb := Lib.hid (fun W => docAt (s := s) (i := p1) (ii := ((p1 : Nat) : Int)) (z := 123) rfl hd1 zb (by omega) W)
  have hkey2 : (s.take K).drop a1 = key := by rw [List.drop_take, hda1, show K - a1 = m by omega, hkey]
  have hdK : s.drop K = y := by rw [← hK, ← ha1, ← hy, ← hd1, List.drop_drop]; congr 1; omega
  have hKa1 : ((K : Int) == (a1 : Int)) = false := by simp only [beq_eq_false_iff_ne, ne_eq]; omega
  have hKa2 : ((K : Int) != (a1 : Int)) = true := by unfold bne; rw [hKa1]; rfl
  have zy : hdI y = 125 := by have h := hd_pre y 125 (by decide); rw [hc] at h; simpa using h
  have l5 : 1 ≤ y.length := (List.isPrefixOf_iff_prefix.1 hc).length_le
  have l6 : K + y.length = s.length := by rw [← hdK, List.length_drop]; omega
  have ATy := Lib.hid (fun W => docAt (s := s) (i := K) (ii := ((K : Nat) : Int)) (z := 125) rfl hdK zy (by omega) W)
  obtain ⟨p2, hp2e⟩ : ∃ p2, K + 1 = p2 := ⟨_, rfl⟩
  have ip2 : (K : Int) + 1 = (p2 : Int) := by omega
  have hd2 : s.drop p2 = r2 := by rw [← hp2e, ← hK, ← ha1, ← hr2, ← hd1, List.drop_drop]; congr 1; omega
  have l7 : p2 + r2.length = s.length := by rw [← hd2, List.length_drop]; omega
  have hd3 := hd2
  have l11 : p2 + r2.length = s.length := by have h := congrArg List.length hd3; rw [List.length_drop] at h; omega
  have zE : hdI r2 = 41 := by have h := hd_pre r2 41 (by decide); rw [hE] at h; simpa using h
  have ATe := Lib.hid (fun W => docAt (s := s) (i := p2) (ii := ((p2 : Nat) : Int)) (z := 41) rfl hd3 zE (by omega) W)
  have l12 : 1 ≤ r2.length := (List.isPrefixOf_iff_prefix.1 hE).length_le
  have hkl : (key : List UInt8).length ≤ s.length := by rw [← hkey, List.length_take]; omega
  have VA := Lib.hid (fun W => docValue e hf name key (by omega) W)
  rw [hv] at VA
  have hN : (p2 : Int) + 1 = (s.length : Int) - r2.length + 1 := by omega
  have wN := congrArg (Value.int .i64) hN
  clear hN
  have HBX := Lib.hid (show Below w.heap.size w (w.alloc (.cells #[.string (S e.host), .string (S e.ref), .string (S e.agent), .string (S e.cookie), .string (S e.lang), .string (S e.query)] 23)) by (repeat (first | (with_reducible exact Below.refl _ _) | (with_reducible assumption) | (with_reducible refine Below.drew ?_) | (focus ((with_reducible refine Below.setCell ?_ ?_ _); rotate_left; (first | omega | (simp <;> omega)))) | (focus ((with_reducible refine Below.alloc ?_ ?_ _); rotate_left; (first | omega | (simp <;> omega)))) | exact Below.refl _ _ | assumption | refine Below.drew ?_ | refine Below.alloc ?_ (by first | omega | (simp <;> omega)) _ | refine Below.setCell ?_ (by first | omega | (simp <;> omega)) _)))
  have h2p : 2 ≤ p1 := by omega
  have hp1s : (p1 : Int) ≤ 100010 := by omega
  clear hf
  go_enter Tryz.func9, Tryz.ntmps9
  go_wp2
  try simp only [mk_S]
  go_loop [6] (fun iv => ∃ p : Nat, iv = .int .i64 p ∧ 2 ≤ p ∧ p ≤ p1) (fun iv => p1 - (intOf iv).toNat)
  case atStart => exact ⟨2, rfl, Nat.le_refl _, h2p⟩
  case round =>
  obtain ⟨p, rfl, hp2', hpp⟩ := hrel
  by_cases hlt : p < p1
  · obtain ⟨z, hz', hlz⟩ := HLT.out p hp2' hlt
    have ATL := Lib.hid (fun W => docAt (s := s) (i := p) (ii := (p : Int)) (z := z) rfl rfl hz' (by omega) W)
    rcases hlz with ⟨g1, g2⟩ | g3
    · clear hz'
      go_wp2_with (go_at_call 26; (with_reducible refine Calls.mono (ATL.out _) ?_); rintro x wq ⟨rfl, hwq⟩; obtain rfl := hwq.symm)
      go_round
      case rel => exact ⟨p + 1, by go_num, by omega, by omega⟩
      case measure => simp [intOf]; omega
    · subst g3
      clear hz'
      go_wp2_with (go_at_call 26; (with_reducible refine Calls.mono (ATL.out _) ?_); rintro x wq ⟨rfl, hwq⟩; obtain rfl := hwq.symm)
      go_round
      case rel => exact ⟨p + 1, by go_num, by omega, by omega⟩
      case measure => simp [intOf]; omega
  obtain rfl : p = p1 := by omega
  go_wp2_with (first
    | (go_at_call 26; (with_reducible refine Calls.mono (AT0.out _) ?_); rintro x wq ⟨rfl, hwq⟩; obtain rfl := hwq.symm)
    | (go_at_call 26; (with_reducible refine Calls.mono (AT1.out _) ?_); rintro x wq ⟨rfl, hwq⟩; obtain rfl := hwq.symm)
    | (go_at_call 26; (with_reducible refine Calls.mono (ATb.out _) ?_); rintro x wq ⟨rfl, hwq⟩; obtain rfl := hwq.symm)
    | (go_at_call 27; (with_reducible refine Calls.mono (TO1.out _) ?_); rintro x w3 ⟨rfl, hb3⟩; have HBX := Lib.hid (Below.trans (show Below w.heap.size w _ by (have := HBX.out; (repeat (first | (with_reducible exact Below.refl _ _) | (with_reducible assumption) | (with_reducible refine Below.drew ?_) | (focus ((with_reducible refine Below.setCell ?_ ?_ _); rotate_left; (first | omega | (simp <;> omega)))) | (focus ((with_reducible refine Below.alloc ?_ ?_ _); rotate_left; (first | omega | (simp <;> omega)))) | exact Below.refl _ _ | assumption | refine Below.drew ?_ | refine Below.alloc ?_ (by first | omega | (simp <;> omega)) _ | refine Below.setCell ?_ (by first | omega | (simp <;> omega)) _)))) (hb3.mono (by (try simp only [World.size_alloc, World.size_setCell, World.size_drew]); omega))); obtain ⟨cc_hb3, ff_hb3⟩ := bk hb3 w.heap.size (by (try simp only [World.size_alloc, World.size_setCell, World.size_drew]); omega); have hz_hb3 := hb3.size; (try simp only [World.size_alloc, World.size_setCell, World.size_drew] at hz_hb3); clear hb3)
    | (go_at_call 26; (with_reducible refine Calls.mono (ATy.out _) ?_); rintro x wq ⟨rfl, hwq⟩; obtain rfl := hwq.symm)
    | (go_at_call 26; (with_reducible refine Calls.mono (ATe.out _) ?_); rintro x wq ⟨rfl, hwq⟩; obtain rfl := hwq.symm)
    | (go_at_call 14; (with_reducible refine Calls.mono (VA.out _) ?_); rintro x w9 ⟨rfl, hb9⟩; have HBX := Lib.hid (Below.trans (show Below w.heap.size w _ by (have := HBX.out; (repeat (first | (with_reducible exact Below.refl _ _) | (with_reducible assumption) | (with_reducible refine Below.drew ?_) | (focus ((with_reducible refine Below.setCell ?_ ?_ _); rotate_left; (first | omega | (simp <;> omega)))) | (focus ((with_reducible refine Below.alloc ?_ ?_ _); rotate_left; (first | omega | (simp <;> omega)))) | exact Below.refl _ _ | assumption | refine Below.drew ?_ | refine Below.alloc ?_ (by first | omega | (simp <;> omega)) _ | refine Below.setCell ?_ (by first | omega | (simp <;> omega)) _)))) (hb9.mono (by (try simp only [World.size_alloc, World.size_setCell, World.size_drew]); omega))); clear hb9)
    | fail)
  go_ret2
  exact ⟨by first | rfl | (simp [*]; done) | (simp; omega), by (have := HBX.out; (repeat (first | (with_reducible exact Below.refl _ _) | (with_reducible assumption) | (with_reducible refine Below.drew ?_) | (focus ((with_reducible refine Below.setCell ?_ ?_ _); rotate_left; (first | omega | (simp <;> omega)))) | (focus ((with_reducible refine Below.alloc ?_ ?_ _); rotate_left; (first | omega | (simp <;> omega)))) | exact Below.refl _ _ | assumption | refine Below.drew ?_ | refine Below.alloc ?_ (by first | omega | (simp <;> omega)) _ | refine Below.setCell ?_ (by first | omega | (simp <;> omega)) _)))⟩
end Go.Proofs.YtenflcaalckdfaaGreatDoor
