/- The reference that a text begins with: the walk of vars.Ref, one theorem a way through it. Printed by tools/varsref.py. The reference that a text begins with: the walk of vars.Ref, one theorem a way through it. Printed by tools/varsref.py. -/
import Derived.Test.YtenflcaalckdfaaGreatDoorVv22
import Derived.Deep.RegionWith
import Derived.Deep.DeepCutAuto
namespace Go.Proofs.YtenflcaalckdfaaGreatDoor
open Go Go.RowKit Go.Sort Go.Shelf
set_option linter.unusedVariables false
set_option linter.unusedSimpArgs false


set_option maxHeartbeats 3200000 in
set_option maxRecDepth 100000 in
theorem vr_C1_D1n (e : En) (hf : e.few) (s : List UInt8) (hs : s.length ≤ 100000) (w : World) (hM : ML w) (r : List UInt8) (n : Nat) (hp0 : Lib.hasPrefix s [36, 40] = true) (hr : s.drop 2 = r) (hn : (r.takeWhile letterB).length = n) (hn0 : 0 < n) (name r1 : List UInt8) (hnm : r.take n = name) (hr1 : r.drop n = r1) (hb : Lib.hasPrefix r1 [123] = true) (x : List UInt8) (hx : r1.drop 1 = x) (m : Nat) (hm : (x.takeWhile (notIn badK)).length = m) (key : List UInt8) (hkey : x.take m = key) (hm0 : 0 < m) (y : List UInt8) (hy : r1.drop (1 + m) = y) (hc : Lib.hasPrefix y [125] = true) (r2 : List UInt8) (hr2 : r1.drop (2 + m) = r2) (hd : Lib.hasPrefix r2 [124, 39] = true) (z o r3 : List UInt8) (hz : r2.drop 2 = z) (hcu : cut1 z 39 = (o, r3, false)) :
    Calls Tryz.prog 8 #[e.v, .string (S s)] w fun x w' => x = .returned (.tuple #[.string (S []), .int .i64 0]) ∧ Below w.heap.size w w' := by
  have hsi : (s.length : Int) ≤ 100000 := by omega
  have NO := Lib.hid (fun W => refNone W)
  have lr : r.length ≤ s.length := by rw [← hr, List.length_drop]; omega
  have CP := Lib.hid (fun W => cutPrefix_S (s := s) (p := [36, 40]) (r := r) hp0 (by unfold Lib.trimPrefix; rw [hp0, if_pos rfl, ← hr]; rfl) W)
  have RL := Lib.hid (fun W => runLetters r (by omega) W)
  have hnr : n ≤ r.length := by rw [← hn]; exact takeWhile_len _ _
  rw [hn] at RL
  have hn1 : ((n : Int) == 0) = false := by simp; omega
  have hn2 : ((n : Int) = 0) = False := by simp; omega
  have l1 : n + r1.length = r.length := by rw [← hr1, List.length_drop]; omega
  have HB1 := Lib.hid (fun W => hasPrefix_S hb W)
  have l2 : 1 ≤ r1.length := by cases r1 with | nil => simp [Lib.hasPrefix, List.isPrefixOf] at hb | cons a b => simp
  have l3 : 1 + x.length = r1.length := by rw [← hx, List.length_drop]; omega
  have l4 : m ≤ x.length := by rw [← hm]; exact takeWhile_len _ _
  have wk3 := congrArg (Value.int .i64) (wrapS (n := 1 + (m : Int)) (by omega)).2
  have wk4 := congrArg (Value.int .i64) (wrapS (n := 2 + (m : Int)) (by omega)).2
  have hkey2 : (r1.take (1 + m)).drop 1 = key := by rw [List.drop_take, hx, show 1 + m - 1 = m by omega, hkey]
  have hkey3 : (r1.take (1 + m)).tail = key := by rw [← List.drop_one]; exact hkey2
  have hx3 : r1.tail = x := by rw [← List.drop_one]; exact hx
  have RB := Lib.hid (fun g W hc => runBut badK g x (by omega) W hc)
  rw [hm] at RB
  have BU := Lib.hid (fun W => butC badK W)
  unfold badK at RB BU
  have hm1 : ((m : Int) == 0) = false := by simp; omega
  have hm2 : ((m : Int) = 0) = False := by simp; omega
  have HB2 := Lib.hid (fun W => hasPrefix_S hc W)
  have l5 : 1 ≤ y.length := by cases y with | nil => simp [Lib.hasPrefix, List.isPrefixOf] at hc | cons a b => simp
  have l6 : 1 + m + y.length = r1.length := by rw [← hy, List.length_drop]; omega
  have l7 : 2 + m + r2.length = r1.length := by rw [← hr2, List.length_drop]; omega
  have HD1 := Lib.hid (fun W => hasPrefix_S hd W)
  have l8 : 2 ≤ r2.length := (List.isPrefixOf_iff_prefix.1 hd).length_le
  have l9 : 2 + z.length = r2.length := by rw [← hz, List.length_drop]; omega
  have l10 := cut1_rest z 39
  rw [hcu] at l10
  simp only at l10
  have CU := Lib.hid (fun W => cut1_S hcu (by omega) W)
  have HBX := Lib.hid (show Below w.heap.size w (w.alloc (.cells #[.string (S e.host), .string (S e.ref), .string (S e.agent), .string (S e.cookie), .string (S e.lang), .string (S e.query)] 23)) by (repeat (first | with_reducible exact Below.refl _ _ | with_reducible assumption | with_reducible refine Below.drew ?_ | (with_reducible refine Below.setCell ?_ ?_ _; rotate_left; (first | omega | (simp <;> omega))) | (with_reducible refine Below.alloc ?_ ?_ _; rotate_left; (first | omega | (simp <;> omega))) | exact Below.refl _ _ | assumption)))
  clear hM hf
  go_enter Tryz.func8, Tryz.ntmps8
  go_upto_region 9 with (first
    | (go_at_call 20; (with_reducible refine Calls.mono (CP.out _) ?_); rintro x wp ⟨rfl, hwp⟩; obtain rfl := hwp.symm)
    | (go_at_call 21; (with_reducible refine Calls.mono (RL.out _) ?_); rintro x w1 ⟨rfl, hb1⟩; have HBX := Lib.hid (Below.trans (show Below w.heap.size w _ by (have := HBX.out; (repeat (first | with_reducible exact Below.refl _ _ | with_reducible assumption | with_reducible refine Below.drew ?_ | (with_reducible refine Below.setCell ?_ ?_ _; rotate_left; (first | omega | (simp <;> omega))) | (with_reducible refine Below.alloc ?_ ?_ _; rotate_left; (first | omega | (simp <;> omega))) | exact Below.refl _ _ | assumption)))) (hb1.mono (by (try simp only [World.size_alloc, World.size_setCell, World.size_drew]); omega))); obtain ⟨cc_hb1, ff_hb1⟩ := bk hb1 w.heap.size (by (try simp only [World.size_alloc, World.size_setCell, World.size_drew]); omega); have hz_hb1 := hb1.size; (try simp only [World.size_alloc, World.size_setCell, World.size_drew] at hz_hb1); clear hb1)
    | (go_at_call 19; refine Calls.mono (NO.out _) ?_; rintro x wq ⟨rfl, hwq⟩; obtain rfl := hwq.symm)
    | (go_at_call 23; (with_reducible refine Calls.mono (HB1.out _) ?_); rintro x wh ⟨rfl, hwh⟩; obtain rfl := hwh.symm)
    | fail)
  have hzw := HBX.out.size
  go_cut [9] (fun nv wx => nv = .int .i64 (m : Nat) ∧ Below w.heap.size w wx ∧ w.heap.size < wx.heap.size ∧ ∀ o, wx.cell? ⟨w.heap.size, o, none⟩ = (w.alloc (.cells #[.string (S e.host), .string (S e.ref), .string (S e.agent), .string (S e.cookie), .string (S e.lang), .string (S e.query)] 23)).cell? ⟨w.heap.size, o, none⟩)
  case first =>
    · go_region_with (first
        | (go_at_call 24; (with_reducible refine Calls.mono (BU.out _) ?_); rintro x w7 ⟨rfl, hc7, hb7⟩; (try simp only [World.size_drew, World.size_alloc] at hc7); have HC7 := Lib.hid hc7; have HB7 := Lib.hid hb7; have hz7 := hb7.size; (try simp only [World.size_alloc, World.size_setCell, World.size_drew] at hz7); clear hc7 hb7)
        | (go_at_call 21; (with_reducible refine Calls.mono (RB.out _ _ HC7.out) ?_); rintro x w8 ⟨rfl, hb8⟩; have HB8 := Lib.hid (HB7.out.trans (hb8.mono HB7.out.size)); clear hb8))
      all_goals (go_wp2_with fail; go_meet)
      all_goals (exact ⟨rfl, Below.trans (show Below w.heap.size w _ by (have := HBX.out; (repeat (first | with_reducible exact Below.refl _ _ | with_reducible assumption | with_reducible refine Below.drew ?_ | (with_reducible refine Below.setCell ?_ ?_ _; rotate_left; (first | omega | (simp <;> omega))) | (with_reducible refine Below.alloc ?_ ?_ _; rotate_left; (first | omega | (simp <;> omega))) | exact Below.refl _ _ | assumption)))) (HB8.out.mono (by (try simp only [World.size_alloc, World.size_setCell, World.size_drew]); omega)), by (have := HB8.out.size); (try simp only [World.size_alloc, World.size_setCell, World.size_drew] at this); omega, fun o => (HB8.out.cell (p := ⟨w.heap.size, o, none⟩) (by (try simp only [World.size_alloc, World.size_setCell, World.size_drew]); omega)).trans (by simp [*])⟩)
  case rest =>
  obtain ⟨rfl, hbc, hzd, hcc⟩ := hcut
  obtain ⟨wd_, hwd⟩ : ∃ y, y = wc := ⟨_, rfl⟩
  rw [← hwd] at hbc hzd hcc ⊢
  clear hwd
  have HBX := Lib.hid hbc
  clear hbc
  go_wp2_with (first
    | (go_at_call 20; (with_reducible refine Calls.mono (CP.out _) ?_); rintro x wp ⟨rfl, hwp⟩; obtain rfl := hwp.symm)
    | (go_at_call 21; (with_reducible refine Calls.mono (RL.out _) ?_); rintro x w1 ⟨rfl, hb1⟩; have HBX := Lib.hid (Below.trans (show Below w.heap.size w _ by (have := HBX.out; (repeat (first | with_reducible exact Below.refl _ _ | with_reducible assumption | with_reducible refine Below.drew ?_ | (with_reducible refine Below.setCell ?_ ?_ _; rotate_left; (first | omega | (simp <;> omega))) | (with_reducible refine Below.alloc ?_ ?_ _; rotate_left; (first | omega | (simp <;> omega))) | exact Below.refl _ _ | assumption)))) (hb1.mono (by (try simp only [World.size_alloc, World.size_setCell, World.size_drew]); omega))); obtain ⟨cc_hb1, ff_hb1⟩ := bk hb1 w.heap.size (by (try simp only [World.size_alloc, World.size_setCell, World.size_drew]); omega); have hz_hb1 := hb1.size; (try simp only [World.size_alloc, World.size_setCell, World.size_drew] at hz_hb1); clear hb1)
    | (go_at_call 19; refine Calls.mono (NO.out _) ?_; rintro x wq ⟨rfl, hwq⟩; obtain rfl := hwq.symm)
    | (go_at_call 23; (with_reducible refine Calls.mono (HB1.out _) ?_); rintro x wh ⟨rfl, hwh⟩; obtain rfl := hwh.symm)
    | (go_at_call 23; (with_reducible refine Calls.mono (HB2.out _) ?_); rintro x wh ⟨rfl, hwh⟩; obtain rfl := hwh.symm)
    | (go_at_call 23; (with_reducible refine Calls.mono (HD1.out _) ?_); rintro x wh ⟨rfl, hwh⟩; obtain rfl := hwh.symm)
    | (go_at_call 25; (with_reducible refine Calls.mono (CU.out _) ?_); rintro x w5 ⟨rfl, hb5⟩; have HBX := Lib.hid (Below.trans (show Below w.heap.size w _ by (have := HBX.out; (repeat (first | with_reducible exact Below.refl _ _ | with_reducible assumption | with_reducible refine Below.drew ?_ | (with_reducible refine Below.setCell ?_ ?_ _; rotate_left; (first | omega | (simp <;> omega))) | (with_reducible refine Below.alloc ?_ ?_ _; rotate_left; (first | omega | (simp <;> omega))) | exact Below.refl _ _ | assumption)))) (hb5.mono (by (try simp only [World.size_alloc, World.size_setCell, World.size_drew]); omega))); obtain ⟨cc_hb5, ff_hb5⟩ := bk hb5 w.heap.size (by (try simp only [World.size_alloc, World.size_setCell, World.size_drew]); omega); have hz_hb5 := hb5.size; (try simp only [World.size_alloc, World.size_setCell, World.size_drew] at hz_hb5); clear hb5)
    | fail)
  go_ret2
  exact ⟨by first | rfl | simp, by (have := HBX.out; (repeat (first | with_reducible exact Below.refl _ _ | with_reducible assumption | with_reducible refine Below.drew ?_ | (with_reducible refine Below.setCell ?_ ?_ _; rotate_left; (first | omega | (simp <;> omega))) | (with_reducible refine Below.alloc ?_ ?_ _; rotate_left; (first | omega | (simp <;> omega))) | exact Below.refl _ _ | assumption)))⟩

set_option maxHeartbeats 3200000 in
set_option maxRecDepth 100000 in
theorem vr_C1_D1_no (e : En) (hf : e.few) (s : List UInt8) (hs : s.length ≤ 100000) (w : World) (hM : ML w) (r : List UInt8) (n : Nat) (hp0 : Lib.hasPrefix s [36, 40] = true) (hr : s.drop 2 = r) (hn : (r.takeWhile letterB).length = n) (hn0 : 0 < n) (name r1 : List UInt8) (hnm : r.take n = name) (hr1 : r.drop n = r1) (hb : Lib.hasPrefix r1 [123] = true) (x : List UInt8) (hx : r1.drop 1 = x) (m : Nat) (hm : (x.takeWhile (notIn badK)).length = m) (key : List UInt8) (hkey : x.take m = key) (hm0 : 0 < m) (y : List UInt8) (hy : r1.drop (1 + m) = y) (hc : Lib.hasPrefix y [125] = true) (r2 : List UInt8) (hr2 : r1.drop (2 + m) = r2) (hd : Lib.hasPrefix r2 [124, 39] = true) (z o r3 : List UInt8) (hz : r2.drop 2 = z) (hcu : cut1 z 39 = (o, r3, true)) (hE : Lib.hasPrefix r3 [41] = false) :
    Calls Tryz.prog 8 #[e.v, .string (S s)] w fun x w' => x = .returned (.tuple #[.string (S []), .int .i64 0]) ∧ Below w.heap.size w w' := by
  have hsi : (s.length : Int) ≤ 100000 := by omega
  have NO := Lib.hid (fun W => refNone W)
  have lr : r.length ≤ s.length := by rw [← hr, List.length_drop]; omega
  have CP := Lib.hid (fun W => cutPrefix_S (s := s) (p := [36, 40]) (r := r) hp0 (by unfold Lib.trimPrefix; rw [hp0, if_pos rfl, ← hr]; rfl) W)
  have RL := Lib.hid (fun W => runLetters r (by omega) W)
  have hnr : n ≤ r.length := by rw [← hn]; exact takeWhile_len _ _
  rw [hn] at RL
  have hn1 : ((n : Int) == 0) = false := by simp; omega
  have hn2 : ((n : Int) = 0) = False := by simp; omega
  have l1 : n + r1.length = r.length := by rw [← hr1, List.length_drop]; omega
  have HB1 := Lib.hid (fun W => hasPrefix_S hb W)
  have l2 : 1 ≤ r1.length := by cases r1 with | nil => simp [Lib.hasPrefix, List.isPrefixOf] at hb | cons a b => simp
  have l3 : 1 + x.length = r1.length := by rw [← hx, List.length_drop]; omega
  have l4 : m ≤ x.length := by rw [← hm]; exact takeWhile_len _ _
  have wk3 := congrArg (Value.int .i64) (wrapS (n := 1 + (m : Int)) (by omega)).2
  have wk4 := congrArg (Value.int .i64) (wrapS (n := 2 + (m : Int)) (by omega)).2
  have hkey2 : (r1.take (1 + m)).drop 1 = key := by rw [List.drop_take, hx, show 1 + m - 1 = m by omega, hkey]
  have hkey3 : (r1.take (1 + m)).tail = key := by rw [← List.drop_one]; exact hkey2
  have hx3 : r1.tail = x := by rw [← List.drop_one]; exact hx
  have RB := Lib.hid (fun g W hc => runBut badK g x (by omega) W hc)
  rw [hm] at RB
  have BU := Lib.hid (fun W => butC badK W)
  unfold badK at RB BU
  have hm1 : ((m : Int) == 0) = false := by simp; omega
  have hm2 : ((m : Int) = 0) = False := by simp; omega
  have HB2 := Lib.hid (fun W => hasPrefix_S hc W)
  have l5 : 1 ≤ y.length := by cases y with | nil => simp [Lib.hasPrefix, List.isPrefixOf] at hc | cons a b => simp
  have l6 : 1 + m + y.length = r1.length := by rw [← hy, List.length_drop]; omega
  have l7 : 2 + m + r2.length = r1.length := by rw [← hr2, List.length_drop]; omega
  have HD1 := Lib.hid (fun W => hasPrefix_S hd W)
  have l8 : 2 ≤ r2.length := (List.isPrefixOf_iff_prefix.1 hd).length_le
  have l9 : 2 + z.length = r2.length := by rw [← hz, List.length_drop]; omega
  have l10 := cut1_rest z 39
  rw [hcu] at l10
  simp only at l10
  have CU := Lib.hid (fun W => cut1_S hcu (by omega) W)
  have HE1 := Lib.hid (fun W => hasPrefix_S hE W)
  have HBX := Lib.hid (show Below w.heap.size w (w.alloc (.cells #[.string (S e.host), .string (S e.ref), .string (S e.agent), .string (S e.cookie), .string (S e.lang), .string (S e.query)] 23)) by (repeat (first | with_reducible exact Below.refl _ _ | with_reducible assumption | with_reducible refine Below.drew ?_ | (with_reducible refine Below.setCell ?_ ?_ _; rotate_left; (first | omega | (simp <;> omega))) | (with_reducible refine Below.alloc ?_ ?_ _; rotate_left; (first | omega | (simp <;> omega))) | exact Below.refl _ _ | assumption)))
  clear hM hf
  go_enter Tryz.func8, Tryz.ntmps8
  go_upto_region 9 with (first
    | (go_at_call 20; (with_reducible refine Calls.mono (CP.out _) ?_); rintro x wp ⟨rfl, hwp⟩; obtain rfl := hwp.symm)
    | (go_at_call 21; (with_reducible refine Calls.mono (RL.out _) ?_); rintro x w1 ⟨rfl, hb1⟩; have HBX := Lib.hid (Below.trans (show Below w.heap.size w _ by (have := HBX.out; (repeat (first | with_reducible exact Below.refl _ _ | with_reducible assumption | with_reducible refine Below.drew ?_ | (with_reducible refine Below.setCell ?_ ?_ _; rotate_left; (first | omega | (simp <;> omega))) | (with_reducible refine Below.alloc ?_ ?_ _; rotate_left; (first | omega | (simp <;> omega))) | exact Below.refl _ _ | assumption)))) (hb1.mono (by (try simp only [World.size_alloc, World.size_setCell, World.size_drew]); omega))); obtain ⟨cc_hb1, ff_hb1⟩ := bk hb1 w.heap.size (by (try simp only [World.size_alloc, World.size_setCell, World.size_drew]); omega); have hz_hb1 := hb1.size; (try simp only [World.size_alloc, World.size_setCell, World.size_drew] at hz_hb1); clear hb1)
    | (go_at_call 19; refine Calls.mono (NO.out _) ?_; rintro x wq ⟨rfl, hwq⟩; obtain rfl := hwq.symm)
    | (go_at_call 23; (with_reducible refine Calls.mono (HB1.out _) ?_); rintro x wh ⟨rfl, hwh⟩; obtain rfl := hwh.symm)
    | fail)
  have hzw := HBX.out.size
  go_cut [9] (fun nv wx => nv = .int .i64 (m : Nat) ∧ Below w.heap.size w wx ∧ w.heap.size < wx.heap.size ∧ ∀ o, wx.cell? ⟨w.heap.size, o, none⟩ = (w.alloc (.cells #[.string (S e.host), .string (S e.ref), .string (S e.agent), .string (S e.cookie), .string (S e.lang), .string (S e.query)] 23)).cell? ⟨w.heap.size, o, none⟩)
  case first =>
    · go_region_with (first
        | (go_at_call 24; (with_reducible refine Calls.mono (BU.out _) ?_); rintro x w7 ⟨rfl, hc7, hb7⟩; (try simp only [World.size_drew, World.size_alloc] at hc7); have HC7 := Lib.hid hc7; have HB7 := Lib.hid hb7; have hz7 := hb7.size; (try simp only [World.size_alloc, World.size_setCell, World.size_drew] at hz7); clear hc7 hb7)
        | (go_at_call 21; (with_reducible refine Calls.mono (RB.out _ _ HC7.out) ?_); rintro x w8 ⟨rfl, hb8⟩; have HB8 := Lib.hid (HB7.out.trans (hb8.mono HB7.out.size)); clear hb8))
      all_goals (go_wp2_with fail; go_meet)
      all_goals (exact ⟨rfl, Below.trans (show Below w.heap.size w _ by (have := HBX.out; (repeat (first | with_reducible exact Below.refl _ _ | with_reducible assumption | with_reducible refine Below.drew ?_ | (with_reducible refine Below.setCell ?_ ?_ _; rotate_left; (first | omega | (simp <;> omega))) | (with_reducible refine Below.alloc ?_ ?_ _; rotate_left; (first | omega | (simp <;> omega))) | exact Below.refl _ _ | assumption)))) (HB8.out.mono (by (try simp only [World.size_alloc, World.size_setCell, World.size_drew]); omega)), by (have := HB8.out.size); (try simp only [World.size_alloc, World.size_setCell, World.size_drew] at this); omega, fun o => (HB8.out.cell (p := ⟨w.heap.size, o, none⟩) (by (try simp only [World.size_alloc, World.size_setCell, World.size_drew]); omega)).trans (by simp [*])⟩)
  case rest =>
  obtain ⟨rfl, hbc, hzd, hcc⟩ := hcut
  obtain ⟨wd_, hwd⟩ : ∃ y, y = wc := ⟨_, rfl⟩
  rw [← hwd] at hbc hzd hcc ⊢
  clear hwd
  have HBX := Lib.hid hbc
  clear hbc
  go_wp2_with (first
    | (go_at_call 20; (with_reducible refine Calls.mono (CP.out _) ?_); rintro x wp ⟨rfl, hwp⟩; obtain rfl := hwp.symm)
    | (go_at_call 21; (with_reducible refine Calls.mono (RL.out _) ?_); rintro x w1 ⟨rfl, hb1⟩; have HBX := Lib.hid (Below.trans (show Below w.heap.size w _ by (have := HBX.out; (repeat (first | with_reducible exact Below.refl _ _ | with_reducible assumption | with_reducible refine Below.drew ?_ | (with_reducible refine Below.setCell ?_ ?_ _; rotate_left; (first | omega | (simp <;> omega))) | (with_reducible refine Below.alloc ?_ ?_ _; rotate_left; (first | omega | (simp <;> omega))) | exact Below.refl _ _ | assumption)))) (hb1.mono (by (try simp only [World.size_alloc, World.size_setCell, World.size_drew]); omega))); obtain ⟨cc_hb1, ff_hb1⟩ := bk hb1 w.heap.size (by (try simp only [World.size_alloc, World.size_setCell, World.size_drew]); omega); have hz_hb1 := hb1.size; (try simp only [World.size_alloc, World.size_setCell, World.size_drew] at hz_hb1); clear hb1)
    | (go_at_call 19; refine Calls.mono (NO.out _) ?_; rintro x wq ⟨rfl, hwq⟩; obtain rfl := hwq.symm)
    | (go_at_call 23; (with_reducible refine Calls.mono (HB1.out _) ?_); rintro x wh ⟨rfl, hwh⟩; obtain rfl := hwh.symm)
    | (go_at_call 23; (with_reducible refine Calls.mono (HB2.out _) ?_); rintro x wh ⟨rfl, hwh⟩; obtain rfl := hwh.symm)
    | (go_at_call 23; (with_reducible refine Calls.mono (HD1.out _) ?_); rintro x wh ⟨rfl, hwh⟩; obtain rfl := hwh.symm)
    | (go_at_call 25; (with_reducible refine Calls.mono (CU.out _) ?_); rintro x w5 ⟨rfl, hb5⟩; have HBX := Lib.hid (Below.trans (show Below w.heap.size w _ by (have := HBX.out; (repeat (first | with_reducible exact Below.refl _ _ | with_reducible assumption | with_reducible refine Below.drew ?_ | (with_reducible refine Below.setCell ?_ ?_ _; rotate_left; (first | omega | (simp <;> omega))) | (with_reducible refine Below.alloc ?_ ?_ _; rotate_left; (first | omega | (simp <;> omega))) | exact Below.refl _ _ | assumption)))) (hb5.mono (by (try simp only [World.size_alloc, World.size_setCell, World.size_drew]); omega))); obtain ⟨cc_hb5, ff_hb5⟩ := bk hb5 w.heap.size (by (try simp only [World.size_alloc, World.size_setCell, World.size_drew]); omega); have hz_hb5 := hb5.size; (try simp only [World.size_alloc, World.size_setCell, World.size_drew] at hz_hb5); clear hb5)
    | (go_at_call 23; (with_reducible refine Calls.mono (HE1.out _) ?_); rintro x wh ⟨rfl, hwh⟩; obtain rfl := hwh.symm)
    | fail)
  go_ret2
  exact ⟨by first | rfl | simp, by (have := HBX.out; (repeat (first | with_reducible exact Below.refl _ _ | with_reducible assumption | with_reducible refine Below.drew ?_ | (with_reducible refine Below.setCell ?_ ?_ _; rotate_left; (first | omega | (simp <;> omega))) | (with_reducible refine Below.alloc ?_ ?_ _; rotate_left; (first | omega | (simp <;> omega))) | exact Below.refl _ _ | assumption)))⟩

set_option maxHeartbeats 3200000 in
set_option maxRecDepth 100000 in
theorem vr_C1_D1_is (e : En) (hf : e.few) (s : List UInt8) (hs : s.length ≤ 100000) (w : World) (hM : ML w) (r : List UInt8) (n : Nat) (hp0 : Lib.hasPrefix s [36, 40] = true) (hr : s.drop 2 = r) (hn : (r.takeWhile letterB).length = n) (hn0 : 0 < n) (name r1 : List UInt8) (hnm : r.take n = name) (hr1 : r.drop n = r1) (hb : Lib.hasPrefix r1 [123] = true) (x : List UInt8) (hx : r1.drop 1 = x) (m : Nat) (hm : (x.takeWhile (notIn badK)).length = m) (key : List UInt8) (hkey : x.take m = key) (hm0 : 0 < m) (y : List UInt8) (hy : r1.drop (1 + m) = y) (hc : Lib.hasPrefix y [125] = true) (r2 : List UInt8) (hr2 : r1.drop (2 + m) = r2) (hd : Lib.hasPrefix r2 [124, 39] = true) (z o r3 : List UInt8) (hz : r2.drop 2 = z) (hcu : cut1 z 39 = (o, r3, true)) (hE : Lib.hasPrefix r3 [41] = true) (v : List UInt8) (hv : valV e name key = (v, true)) :
    Calls Tryz.prog 8 #[e.v, .string (S s)] w fun x w' => x = .returned (.tuple #[.string (S v), .int .i64 ((s.length : Int) - r3.length + 1)]) ∧ Below w.heap.size w w' := by
  have hsi : (s.length : Int) ≤ 100000 := by omega
  have NO := Lib.hid (fun W => refNone W)
  have lr : r.length ≤ s.length := by rw [← hr, List.length_drop]; omega
  have CP := Lib.hid (fun W => cutPrefix_S (s := s) (p := [36, 40]) (r := r) hp0 (by unfold Lib.trimPrefix; rw [hp0, if_pos rfl, ← hr]; rfl) W)
  have RL := Lib.hid (fun W => runLetters r (by omega) W)
  have hnr : n ≤ r.length := by rw [← hn]; exact takeWhile_len _ _
  rw [hn] at RL
  have hn1 : ((n : Int) == 0) = false := by simp; omega
  have hn2 : ((n : Int) = 0) = False := by simp; omega
  have l1 : n + r1.length = r.length := by rw [← hr1, List.length_drop]; omega
  have HB1 := Lib.hid (fun W => hasPrefix_S hb W)
  have l2 : 1 ≤ r1.length := by cases r1 with | nil => simp [Lib.hasPrefix, List.isPrefixOf] at hb | cons a b => simp
  have l3 : 1 + x.length = r1.length := by rw [← hx, List.length_drop]; omega
  have l4 : m ≤ x.length := by rw [← hm]; exact takeWhile_len _ _
  have wk3 := congrArg (Value.int .i64) (wrapS (n := 1 + (m : Int)) (by omega)).2
  have wk4 := congrArg (Value.int .i64) (wrapS (n := 2 + (m : Int)) (by omega)).2
  have hkey2 : (r1.take (1 + m)).drop 1 = key := by rw [List.drop_take, hx, show 1 + m - 1 = m by omega, hkey]
  have hkey3 : (r1.take (1 + m)).tail = key := by rw [← List.drop_one]; exact hkey2
  have hx3 : r1.tail = x := by rw [← List.drop_one]; exact hx
  have RB := Lib.hid (fun g W hc => runBut badK g x (by omega) W hc)
  rw [hm] at RB
  have BU := Lib.hid (fun W => butC badK W)
  unfold badK at RB BU
  have hm1 : ((m : Int) == 0) = false := by simp; omega
  have hm2 : ((m : Int) = 0) = False := by simp; omega
  have HB2 := Lib.hid (fun W => hasPrefix_S hc W)
  have l5 : 1 ≤ y.length := by cases y with | nil => simp [Lib.hasPrefix, List.isPrefixOf] at hc | cons a b => simp
  have l6 : 1 + m + y.length = r1.length := by rw [← hy, List.length_drop]; omega
  have l7 : 2 + m + r2.length = r1.length := by rw [← hr2, List.length_drop]; omega
  have HD1 := Lib.hid (fun W => hasPrefix_S hd W)
  have l8 : 2 ≤ r2.length := (List.isPrefixOf_iff_prefix.1 hd).length_le
  have l9 : 2 + z.length = r2.length := by rw [← hz, List.length_drop]; omega
  have l10 := cut1_rest z 39
  rw [hcu] at l10
  simp only at l10
  have CU := Lib.hid (fun W => cut1_S hcu (by omega) W)
  have HE1 := Lib.hid (fun W => hasPrefix_S hE W)
  have hnl : name.length ≤ r.length := by rw [← hnm, List.length_take]; omega
  have hkl : key.length ≤ x.length := by rw [← hkey, List.length_take]; omega
  have VA := Lib.hid (fun W (hb : Below w.heap.size w W) => varsValue e hf name key (by omega) (by omega) W (hM.later (GG.of_below hb)))
  rw [hv] at VA
  have lz : (r3.length : Int) ≤ s.length := by omega
  have wz3 := congrArg (Value.int .i64) (wrapS (n := (s.length : Int) - r3.length) (by omega)).2
  have wz4 := congrArg (Value.int .i64) (wrapS (n := (s.length : Int) - r3.length + 1) (by omega)).2
  have HBX := Lib.hid (show Below w.heap.size w (w.alloc (.cells #[.string (S e.host), .string (S e.ref), .string (S e.agent), .string (S e.cookie), .string (S e.lang), .string (S e.query)] 23)) by (repeat (first | with_reducible exact Below.refl _ _ | with_reducible assumption | with_reducible refine Below.drew ?_ | (with_reducible refine Below.setCell ?_ ?_ _; rotate_left; (first | omega | (simp <;> omega))) | (with_reducible refine Below.alloc ?_ ?_ _; rotate_left; (first | omega | (simp <;> omega))) | exact Below.refl _ _ | assumption)))
  clear hM hf
  go_enter Tryz.func8, Tryz.ntmps8
  go_upto_region 9 with (first
    | (go_at_call 20; (with_reducible refine Calls.mono (CP.out _) ?_); rintro x wp ⟨rfl, hwp⟩; obtain rfl := hwp.symm)
    | (go_at_call 21; (with_reducible refine Calls.mono (RL.out _) ?_); rintro x w1 ⟨rfl, hb1⟩; have HBX := Lib.hid (Below.trans (show Below w.heap.size w _ by (have := HBX.out; (repeat (first | with_reducible exact Below.refl _ _ | with_reducible assumption | with_reducible refine Below.drew ?_ | (with_reducible refine Below.setCell ?_ ?_ _; rotate_left; (first | omega | (simp <;> omega))) | (with_reducible refine Below.alloc ?_ ?_ _; rotate_left; (first | omega | (simp <;> omega))) | exact Below.refl _ _ | assumption)))) (hb1.mono (by (try simp only [World.size_alloc, World.size_setCell, World.size_drew]); omega))); obtain ⟨cc_hb1, ff_hb1⟩ := bk hb1 w.heap.size (by (try simp only [World.size_alloc, World.size_setCell, World.size_drew]); omega); have hz_hb1 := hb1.size; (try simp only [World.size_alloc, World.size_setCell, World.size_drew] at hz_hb1); clear hb1)
    | (go_at_call 19; refine Calls.mono (NO.out _) ?_; rintro x wq ⟨rfl, hwq⟩; obtain rfl := hwq.symm)
    | (go_at_call 23; (with_reducible refine Calls.mono (HB1.out _) ?_); rintro x wh ⟨rfl, hwh⟩; obtain rfl := hwh.symm)
    | fail)
  have hzw := HBX.out.size
  go_cut [9] (fun nv wx => nv = .int .i64 (m : Nat) ∧ Below w.heap.size w wx ∧ w.heap.size < wx.heap.size ∧ ∀ o, wx.cell? ⟨w.heap.size, o, none⟩ = (w.alloc (.cells #[.string (S e.host), .string (S e.ref), .string (S e.agent), .string (S e.cookie), .string (S e.lang), .string (S e.query)] 23)).cell? ⟨w.heap.size, o, none⟩)
  case first =>
    · go_region_with (first
        | (go_at_call 24; (with_reducible refine Calls.mono (BU.out _) ?_); rintro x w7 ⟨rfl, hc7, hb7⟩; (try simp only [World.size_drew, World.size_alloc] at hc7); have HC7 := Lib.hid hc7; have HB7 := Lib.hid hb7; have hz7 := hb7.size; (try simp only [World.size_alloc, World.size_setCell, World.size_drew] at hz7); clear hc7 hb7)
        | (go_at_call 21; (with_reducible refine Calls.mono (RB.out _ _ HC7.out) ?_); rintro x w8 ⟨rfl, hb8⟩; have HB8 := Lib.hid (HB7.out.trans (hb8.mono HB7.out.size)); clear hb8))
      all_goals (go_wp2_with fail; go_meet)
      all_goals (exact ⟨rfl, Below.trans (show Below w.heap.size w _ by (have := HBX.out; (repeat (first | with_reducible exact Below.refl _ _ | with_reducible assumption | with_reducible refine Below.drew ?_ | (with_reducible refine Below.setCell ?_ ?_ _; rotate_left; (first | omega | (simp <;> omega))) | (with_reducible refine Below.alloc ?_ ?_ _; rotate_left; (first | omega | (simp <;> omega))) | exact Below.refl _ _ | assumption)))) (HB8.out.mono (by (try simp only [World.size_alloc, World.size_setCell, World.size_drew]); omega)), by (have := HB8.out.size); (try simp only [World.size_alloc, World.size_setCell, World.size_drew] at this); omega, fun o => (HB8.out.cell (p := ⟨w.heap.size, o, none⟩) (by (try simp only [World.size_alloc, World.size_setCell, World.size_drew]); omega)).trans (by simp [*])⟩)
  case rest =>
  obtain ⟨rfl, hbc, hzd, hcc⟩ := hcut
  obtain ⟨wd_, hwd⟩ : ∃ y, y = wc := ⟨_, rfl⟩
  rw [← hwd] at hbc hzd hcc ⊢
  clear hwd
  have HBX := Lib.hid hbc
  clear hbc
  go_wp2_with (first
    | (go_at_call 20; (with_reducible refine Calls.mono (CP.out _) ?_); rintro x wp ⟨rfl, hwp⟩; obtain rfl := hwp.symm)
    | (go_at_call 21; (with_reducible refine Calls.mono (RL.out _) ?_); rintro x w1 ⟨rfl, hb1⟩; have HBX := Lib.hid (Below.trans (show Below w.heap.size w _ by (have := HBX.out; (repeat (first | with_reducible exact Below.refl _ _ | with_reducible assumption | with_reducible refine Below.drew ?_ | (with_reducible refine Below.setCell ?_ ?_ _; rotate_left; (first | omega | (simp <;> omega))) | (with_reducible refine Below.alloc ?_ ?_ _; rotate_left; (first | omega | (simp <;> omega))) | exact Below.refl _ _ | assumption)))) (hb1.mono (by (try simp only [World.size_alloc, World.size_setCell, World.size_drew]); omega))); obtain ⟨cc_hb1, ff_hb1⟩ := bk hb1 w.heap.size (by (try simp only [World.size_alloc, World.size_setCell, World.size_drew]); omega); have hz_hb1 := hb1.size; (try simp only [World.size_alloc, World.size_setCell, World.size_drew] at hz_hb1); clear hb1)
    | (go_at_call 19; refine Calls.mono (NO.out _) ?_; rintro x wq ⟨rfl, hwq⟩; obtain rfl := hwq.symm)
    | (go_at_call 23; (with_reducible refine Calls.mono (HB1.out _) ?_); rintro x wh ⟨rfl, hwh⟩; obtain rfl := hwh.symm)
    | (go_at_call 23; (with_reducible refine Calls.mono (HB2.out _) ?_); rintro x wh ⟨rfl, hwh⟩; obtain rfl := hwh.symm)
    | (go_at_call 23; (with_reducible refine Calls.mono (HD1.out _) ?_); rintro x wh ⟨rfl, hwh⟩; obtain rfl := hwh.symm)
    | (go_at_call 25; (with_reducible refine Calls.mono (CU.out _) ?_); rintro x w5 ⟨rfl, hb5⟩; have HBX := Lib.hid (Below.trans (show Below w.heap.size w _ by (have := HBX.out; (repeat (first | with_reducible exact Below.refl _ _ | with_reducible assumption | with_reducible refine Below.drew ?_ | (with_reducible refine Below.setCell ?_ ?_ _; rotate_left; (first | omega | (simp <;> omega))) | (with_reducible refine Below.alloc ?_ ?_ _; rotate_left; (first | omega | (simp <;> omega))) | exact Below.refl _ _ | assumption)))) (hb5.mono (by (try simp only [World.size_alloc, World.size_setCell, World.size_drew]); omega))); obtain ⟨cc_hb5, ff_hb5⟩ := bk hb5 w.heap.size (by (try simp only [World.size_alloc, World.size_setCell, World.size_drew]); omega); have hz_hb5 := hb5.size; (try simp only [World.size_alloc, World.size_setCell, World.size_drew] at hz_hb5); clear hb5)
    | (go_at_call 23; (with_reducible refine Calls.mono (HE1.out _) ?_); rintro x wh ⟨rfl, hwh⟩; obtain rfl := hwh.symm)
    | (go_at_call 13; (with_reducible refine Calls.mono (VA.out _ ?_) ?_); (focus (have := HBX.out; (repeat (first | with_reducible exact Below.refl _ _ | with_reducible assumption | with_reducible refine Below.drew ?_ | (with_reducible refine Below.setCell ?_ ?_ _; rotate_left; (first | omega | (simp <;> omega))) | (with_reducible refine Below.alloc ?_ ?_ _; rotate_left; (first | omega | (simp <;> omega))) | exact Below.refl _ _ | assumption)))); rintro x w6 ⟨rfl, hb6⟩; have HBX := Lib.hid (Below.trans (show Below w.heap.size w _ by (have := HBX.out; (repeat (first | with_reducible exact Below.refl _ _ | with_reducible assumption | with_reducible refine Below.drew ?_ | (with_reducible refine Below.setCell ?_ ?_ _; rotate_left; (first | omega | (simp <;> omega))) | (with_reducible refine Below.alloc ?_ ?_ _; rotate_left; (first | omega | (simp <;> omega))) | exact Below.refl _ _ | assumption)))) (hb6.mono (by (try simp only [World.size_alloc, World.size_setCell, World.size_drew]); omega))); clear hb6)
    | fail)
  go_ret2
  exact ⟨by first | rfl | simp, by (have := HBX.out; (repeat (first | with_reducible exact Below.refl _ _ | with_reducible assumption | with_reducible refine Below.drew ?_ | (with_reducible refine Below.setCell ?_ ?_ _; rotate_left; (first | omega | (simp <;> omega))) | (with_reducible refine Below.alloc ?_ ?_ _; rotate_left; (first | omega | (simp <;> omega))) | exact Below.refl _ _ | assumption)))⟩
end Go.Proofs.YtenflcaalckdfaaGreatDoor
namespace Go.Proofs.YtenflcaalckdfaaGreatDoor
open Go Go.RowKit Go.Sort Go.Shelf
set_option linter.unusedVariables false
set_option linter.unusedSimpArgs false


set_option maxHeartbeats 3200000 in
set_option maxRecDepth 100000 in
theorem vr_C1_D1_not (e : En) (hf : e.few) (s : List UInt8) (hs : s.length ≤ 100000) (w : World) (hM : ML w) (r : List UInt8) (n : Nat) (hp0 : Lib.hasPrefix s [36, 40] = true) (hr : s.drop 2 = r) (hn : (r.takeWhile letterB).length = n) (hn0 : 0 < n) (name r1 : List UInt8) (hnm : r.take n = name) (hr1 : r.drop n = r1) (hb : Lib.hasPrefix r1 [123] = true) (x : List UInt8) (hx : r1.drop 1 = x) (m : Nat) (hm : (x.takeWhile (notIn badK)).length = m) (key : List UInt8) (hkey : x.take m = key) (hm0 : 0 < m) (y : List UInt8) (hy : r1.drop (1 + m) = y) (hc : Lib.hasPrefix y [125] = true) (r2 : List UInt8) (hr2 : r1.drop (2 + m) = r2) (hd : Lib.hasPrefix r2 [124, 39] = true) (z o r3 : List UInt8) (hz : r2.drop 2 = z) (hcu : cut1 z 39 = (o, r3, true)) (hE : Lib.hasPrefix r3 [41] = true) (v : List UInt8) (hv : valV e name key = (v, false)) :
    Calls Tryz.prog 8 #[e.v, .string (S s)] w fun x w' => x = .returned (.tuple #[.string (S o), .int .i64 ((s.length : Int) - r3.length + 1)]) ∧ Below w.heap.size w w' := by
  have hsi : (s.length : Int) ≤ 100000 := by omega
  have NO := Lib.hid (fun W => refNone W)
  have lr : r.length ≤ s.length := by rw [← hr, List.length_drop]; omega
  have CP := Lib.hid (fun W => cutPrefix_S (s := s) (p := [36, 40]) (r := r) hp0 (by unfold Lib.trimPrefix; rw [hp0, if_pos rfl, ← hr]; rfl) W)
  have RL := Lib.hid (fun W => runLetters r (by omega) W)
  have hnr : n ≤ r.length := by rw [← hn]; exact takeWhile_len _ _
  rw [hn] at RL
  have hn1 : ((n : Int) == 0) = false := by simp; omega
  have hn2 : ((n : Int) = 0) = False := by simp; omega
  have l1 : n + r1.length = r.length := by rw [← hr1, List.length_drop]; omega
  have HB1 := Lib.hid (fun W => hasPrefix_S hb W)
  have l2 : 1 ≤ r1.length := by cases r1 with | nil => simp [Lib.hasPrefix, List.isPrefixOf] at hb | cons a b => simp
  have l3 : 1 + x.length = r1.length := by rw [← hx, List.length_drop]; omega
  have l4 : m ≤ x.length := by rw [← hm]; exact takeWhile_len _ _
  have wk3 := congrArg (Value.int .i64) (wrapS (n := 1 + (m : Int)) (by omega)).2
  have wk4 := congrArg (Value.int .i64) (wrapS (n := 2 + (m : Int)) (by omega)).2
  have hkey2 : (r1.take (1 + m)).drop 1 = key := by rw [List.drop_take, hx, show 1 + m - 1 = m by omega, hkey]
  have hkey3 : (r1.take (1 + m)).tail = key := by rw [← List.drop_one]; exact hkey2
  have hx3 : r1.tail = x := by rw [← List.drop_one]; exact hx
  have RB := Lib.hid (fun g W hc => runBut badK g x (by omega) W hc)
  rw [hm] at RB
  have BU := Lib.hid (fun W => butC badK W)
  unfold badK at RB BU
  have hm1 : ((m : Int) == 0) = false := by simp; omega
  have hm2 : ((m : Int) = 0) = False := by simp; omega
  have HB2 := Lib.hid (fun W => hasPrefix_S hc W)
  have l5 : 1 ≤ y.length := by cases y with | nil => simp [Lib.hasPrefix, List.isPrefixOf] at hc | cons a b => simp
  have l6 : 1 + m + y.length = r1.length := by rw [← hy, List.length_drop]; omega
  have l7 : 2 + m + r2.length = r1.length := by rw [← hr2, List.length_drop]; omega
  have HD1 := Lib.hid (fun W => hasPrefix_S hd W)
  have l8 : 2 ≤ r2.length := (List.isPrefixOf_iff_prefix.1 hd).length_le
  have l9 : 2 + z.length = r2.length := by rw [← hz, List.length_drop]; omega
  have l10 := cut1_rest z 39
  rw [hcu] at l10
  simp only at l10
  have CU := Lib.hid (fun W => cut1_S hcu (by omega) W)
  have HE1 := Lib.hid (fun W => hasPrefix_S hE W)
  have hnl : name.length ≤ r.length := by rw [← hnm, List.length_take]; omega
  have hkl : key.length ≤ x.length := by rw [← hkey, List.length_take]; omega
  have VA := Lib.hid (fun W (hb : Below w.heap.size w W) => varsValue e hf name key (by omega) (by omega) W (hM.later (GG.of_below hb)))
  rw [hv] at VA
  have lz : (r3.length : Int) ≤ s.length := by omega
  have wz3 := congrArg (Value.int .i64) (wrapS (n := (s.length : Int) - r3.length) (by omega)).2
  have wz4 := congrArg (Value.int .i64) (wrapS (n := (s.length : Int) - r3.length + 1) (by omega)).2
  have HBX := Lib.hid (show Below w.heap.size w (w.alloc (.cells #[.string (S e.host), .string (S e.ref), .string (S e.agent), .string (S e.cookie), .string (S e.lang), .string (S e.query)] 23)) by (repeat (first | with_reducible exact Below.refl _ _ | with_reducible assumption | with_reducible refine Below.drew ?_ | (with_reducible refine Below.setCell ?_ ?_ _; rotate_left; (first | omega | (simp <;> omega))) | (with_reducible refine Below.alloc ?_ ?_ _; rotate_left; (first | omega | (simp <;> omega))) | exact Below.refl _ _ | assumption)))
  clear hM hf
  go_enter Tryz.func8, Tryz.ntmps8
  go_upto_region 9 with (first
    | (go_at_call 20; (with_reducible refine Calls.mono (CP.out _) ?_); rintro x wp ⟨rfl, hwp⟩; obtain rfl := hwp.symm)
    | (go_at_call 21; (with_reducible refine Calls.mono (RL.out _) ?_); rintro x w1 ⟨rfl, hb1⟩; have HBX := Lib.hid (Below.trans (show Below w.heap.size w _ by (have := HBX.out; (repeat (first | with_reducible exact Below.refl _ _ | with_reducible assumption | with_reducible refine Below.drew ?_ | (with_reducible refine Below.setCell ?_ ?_ _; rotate_left; (first | omega | (simp <;> omega))) | (with_reducible refine Below.alloc ?_ ?_ _; rotate_left; (first | omega | (simp <;> omega))) | exact Below.refl _ _ | assumption)))) (hb1.mono (by (try simp only [World.size_alloc, World.size_setCell, World.size_drew]); omega))); obtain ⟨cc_hb1, ff_hb1⟩ := bk hb1 w.heap.size (by (try simp only [World.size_alloc, World.size_setCell, World.size_drew]); omega); have hz_hb1 := hb1.size; (try simp only [World.size_alloc, World.size_setCell, World.size_drew] at hz_hb1); clear hb1)
    | (go_at_call 19; refine Calls.mono (NO.out _) ?_; rintro x wq ⟨rfl, hwq⟩; obtain rfl := hwq.symm)
    | (go_at_call 23; (with_reducible refine Calls.mono (HB1.out _) ?_); rintro x wh ⟨rfl, hwh⟩; obtain rfl := hwh.symm)
    | fail)
  have hzw := HBX.out.size
  go_cut [9] (fun nv wx => nv = .int .i64 (m : Nat) ∧ Below w.heap.size w wx ∧ w.heap.size < wx.heap.size ∧ ∀ o, wx.cell? ⟨w.heap.size, o, none⟩ = (w.alloc (.cells #[.string (S e.host), .string (S e.ref), .string (S e.agent), .string (S e.cookie), .string (S e.lang), .string (S e.query)] 23)).cell? ⟨w.heap.size, o, none⟩)
  case first =>
    · go_region_with (first
        | (go_at_call 24; (with_reducible refine Calls.mono (BU.out _) ?_); rintro x w7 ⟨rfl, hc7, hb7⟩; (try simp only [World.size_drew, World.size_alloc] at hc7); have HC7 := Lib.hid hc7; have HB7 := Lib.hid hb7; have hz7 := hb7.size; (try simp only [World.size_alloc, World.size_setCell, World.size_drew] at hz7); clear hc7 hb7)
        | (go_at_call 21; (with_reducible refine Calls.mono (RB.out _ _ HC7.out) ?_); rintro x w8 ⟨rfl, hb8⟩; have HB8 := Lib.hid (HB7.out.trans (hb8.mono HB7.out.size)); clear hb8))
      all_goals (go_wp2_with fail; go_meet)
      all_goals (exact ⟨rfl, Below.trans (show Below w.heap.size w _ by (have := HBX.out; (repeat (first | with_reducible exact Below.refl _ _ | with_reducible assumption | with_reducible refine Below.drew ?_ | (with_reducible refine Below.setCell ?_ ?_ _; rotate_left; (first | omega | (simp <;> omega))) | (with_reducible refine Below.alloc ?_ ?_ _; rotate_left; (first | omega | (simp <;> omega))) | exact Below.refl _ _ | assumption)))) (HB8.out.mono (by (try simp only [World.size_alloc, World.size_setCell, World.size_drew]); omega)), by (have := HB8.out.size); (try simp only [World.size_alloc, World.size_setCell, World.size_drew] at this); omega, fun o => (HB8.out.cell (p := ⟨w.heap.size, o, none⟩) (by (try simp only [World.size_alloc, World.size_setCell, World.size_drew]); omega)).trans (by simp [*])⟩)
  case rest =>
  obtain ⟨rfl, hbc, hzd, hcc⟩ := hcut
  obtain ⟨wd_, hwd⟩ : ∃ y, y = wc := ⟨_, rfl⟩
  rw [← hwd] at hbc hzd hcc ⊢
  clear hwd
  have HBX := Lib.hid hbc
  clear hbc
  go_wp2_with (first
    | (go_at_call 20; (with_reducible refine Calls.mono (CP.out _) ?_); rintro x wp ⟨rfl, hwp⟩; obtain rfl := hwp.symm)
    | (go_at_call 21; (with_reducible refine Calls.mono (RL.out _) ?_); rintro x w1 ⟨rfl, hb1⟩; have HBX := Lib.hid (Below.trans (show Below w.heap.size w _ by (have := HBX.out; (repeat (first | with_reducible exact Below.refl _ _ | with_reducible assumption | with_reducible refine Below.drew ?_ | (with_reducible refine Below.setCell ?_ ?_ _; rotate_left; (first | omega | (simp <;> omega))) | (with_reducible refine Below.alloc ?_ ?_ _; rotate_left; (first | omega | (simp <;> omega))) | exact Below.refl _ _ | assumption)))) (hb1.mono (by (try simp only [World.size_alloc, World.size_setCell, World.size_drew]); omega))); obtain ⟨cc_hb1, ff_hb1⟩ := bk hb1 w.heap.size (by (try simp only [World.size_alloc, World.size_setCell, World.size_drew]); omega); have hz_hb1 := hb1.size; (try simp only [World.size_alloc, World.size_setCell, World.size_drew] at hz_hb1); clear hb1)
    | (go_at_call 19; refine Calls.mono (NO.out _) ?_; rintro x wq ⟨rfl, hwq⟩; obtain rfl := hwq.symm)
    | (go_at_call 23; (with_reducible refine Calls.mono (HB1.out _) ?_); rintro x wh ⟨rfl, hwh⟩; obtain rfl := hwh.symm)
    | (go_at_call 23; (with_reducible refine Calls.mono (HB2.out _) ?_); rintro x wh ⟨rfl, hwh⟩; obtain rfl := hwh.symm)
    | (go_at_call 23; (with_reducible refine Calls.mono (HD1.out _) ?_); rintro x wh ⟨rfl, hwh⟩; obtain rfl := hwh.symm)
    | (go_at_call 25; (with_reducible refine Calls.mono (CU.out _) ?_); rintro x w5 ⟨rfl, hb5⟩; have HBX := Lib.hid (Below.trans (show Below w.heap.size w _ by (have := HBX.out; (repeat (first | with_reducible exact Below.refl _ _ | with_reducible assumption | with_reducible refine Below.drew ?_ | (with_reducible refine Below.setCell ?_ ?_ _; rotate_left; (first | omega | (simp <;> omega))) | (with_reducible refine Below.alloc ?_ ?_ _; rotate_left; (first | omega | (simp <;> omega))) | exact Below.refl _ _ | assumption)))) (hb5.mono (by (try simp only [World.size_alloc, World.size_setCell, World.size_drew]); omega))); obtain ⟨cc_hb5, ff_hb5⟩ := bk hb5 w.heap.size (by (try simp only [World.size_alloc, World.size_setCell, World.size_drew]); omega); have hz_hb5 := hb5.size; (try simp only [World.size_alloc, World.size_setCell, World.size_drew] at hz_hb5); clear hb5)
    | (go_at_call 23; (with_reducible refine Calls.mono (HE1.out _) ?_); rintro x wh ⟨rfl, hwh⟩; obtain rfl := hwh.symm)
    | (go_at_call 13; (with_reducible refine Calls.mono (VA.out _ ?_) ?_); (focus (have := HBX.out; (repeat (first | with_reducible exact Below.refl _ _ | with_reducible assumption | with_reducible refine Below.drew ?_ | (with_reducible refine Below.setCell ?_ ?_ _; rotate_left; (first | omega | (simp <;> omega))) | (with_reducible refine Below.alloc ?_ ?_ _; rotate_left; (first | omega | (simp <;> omega))) | exact Below.refl _ _ | assumption)))); rintro x w6 ⟨rfl, hb6⟩; have HBX := Lib.hid (Below.trans (show Below w.heap.size w _ by (have := HBX.out; (repeat (first | with_reducible exact Below.refl _ _ | with_reducible assumption | with_reducible refine Below.drew ?_ | (with_reducible refine Below.setCell ?_ ?_ _; rotate_left; (first | omega | (simp <;> omega))) | (with_reducible refine Below.alloc ?_ ?_ _; rotate_left; (first | omega | (simp <;> omega))) | exact Below.refl _ _ | assumption)))) (hb6.mono (by (try simp only [World.size_alloc, World.size_setCell, World.size_drew]); omega))); clear hb6)
    | fail)
  go_ret2
  exact ⟨by first | rfl | simp, by (have := HBX.out; (repeat (first | with_reducible exact Below.refl _ _ | with_reducible assumption | with_reducible refine Below.drew ?_ | (with_reducible refine Below.setCell ?_ ?_ _; rotate_left; (first | omega | (simp <;> omega))) | (with_reducible refine Below.alloc ?_ ?_ _; rotate_left; (first | omega | (simp <;> omega))) | exact Below.refl _ _ | assumption)))⟩

set_option maxHeartbeats 3200000 in
set_option maxRecDepth 100000 in
theorem vr_C1_D2_no (e : En) (hf : e.few) (s : List UInt8) (hs : s.length ≤ 100000) (w : World) (hM : ML w) (r : List UInt8) (n : Nat) (hp0 : Lib.hasPrefix s [36, 40] = true) (hr : s.drop 2 = r) (hn : (r.takeWhile letterB).length = n) (hn0 : 0 < n) (name r1 : List UInt8) (hnm : r.take n = name) (hr1 : r.drop n = r1) (hb : Lib.hasPrefix r1 [123] = true) (x : List UInt8) (hx : r1.drop 1 = x) (m : Nat) (hm : (x.takeWhile (notIn badK)).length = m) (key : List UInt8) (hkey : x.take m = key) (hm0 : 0 < m) (y : List UInt8) (hy : r1.drop (1 + m) = y) (hc : Lib.hasPrefix y [125] = true) (r2 : List UInt8) (hr2 : r1.drop (2 + m) = r2) (hd : Lib.hasPrefix r2 [124, 39] = false) (hd2 : Lib.hasPrefix r2 [124] = true) (z : List UInt8) (hz : r2.drop 1 = z) (q : Nat) (hq : (z.takeWhile (notIn badO)).length = q) (o r3 : List UInt8) (ho : z.take q = o) (hr3 : r2.drop (1 + q) = r3) (hE : Lib.hasPrefix r3 [41] = false) :
    Calls Tryz.prog 8 #[e.v, .string (S s)] w fun x w' => x = .returned (.tuple #[.string (S []), .int .i64 0]) ∧ Below w.heap.size w w' := by
  have hsi : (s.length : Int) ≤ 100000 := by omega
  have NO := Lib.hid (fun W => refNone W)
  have lr : r.length ≤ s.length := by rw [← hr, List.length_drop]; omega
  have CP := Lib.hid (fun W => cutPrefix_S (s := s) (p := [36, 40]) (r := r) hp0 (by unfold Lib.trimPrefix; rw [hp0, if_pos rfl, ← hr]; rfl) W)
  have RL := Lib.hid (fun W => runLetters r (by omega) W)
  have hnr : n ≤ r.length := by rw [← hn]; exact takeWhile_len _ _
  rw [hn] at RL
  have hn1 : ((n : Int) == 0) = false := by simp; omega
  have hn2 : ((n : Int) = 0) = False := by simp; omega
  have l1 : n + r1.length = r.length := by rw [← hr1, List.length_drop]; omega
  have HB1 := Lib.hid (fun W => hasPrefix_S hb W)
  have l2 : 1 ≤ r1.length := by cases r1 with | nil => simp [Lib.hasPrefix, List.isPrefixOf] at hb | cons a b => simp
  have l3 : 1 + x.length = r1.length := by rw [← hx, List.length_drop]; omega
  have l4 : m ≤ x.length := by rw [← hm]; exact takeWhile_len _ _
  have wk3 := congrArg (Value.int .i64) (wrapS (n := 1 + (m : Int)) (by omega)).2
  have wk4 := congrArg (Value.int .i64) (wrapS (n := 2 + (m : Int)) (by omega)).2
  have hkey2 : (r1.take (1 + m)).drop 1 = key := by rw [List.drop_take, hx, show 1 + m - 1 = m by omega, hkey]
  have hkey3 : (r1.take (1 + m)).tail = key := by rw [← List.drop_one]; exact hkey2
  have hx3 : r1.tail = x := by rw [← List.drop_one]; exact hx
  have RB := Lib.hid (fun g W hc => runBut badK g x (by omega) W hc)
  rw [hm] at RB
  have BU := Lib.hid (fun W => butC badK W)
  unfold badK at RB BU
  have hm1 : ((m : Int) == 0) = false := by simp; omega
  have hm2 : ((m : Int) = 0) = False := by simp; omega
  have HB2 := Lib.hid (fun W => hasPrefix_S hc W)
  have l5 : 1 ≤ y.length := by cases y with | nil => simp [Lib.hasPrefix, List.isPrefixOf] at hc | cons a b => simp
  have l6 : 1 + m + y.length = r1.length := by rw [← hy, List.length_drop]; omega
  have l7 : 2 + m + r2.length = r1.length := by rw [← hr2, List.length_drop]; omega
  have HD1 := Lib.hid (fun W => hasPrefix_S hd W)
  have HD2 := Lib.hid (fun W => hasPrefix_S hd2 W)
  have l8 : 1 ≤ r2.length := (List.isPrefixOf_iff_prefix.1 hd2).length_le
  have l9 : 1 + z.length = r2.length := by rw [← hz, List.length_drop]; omega
  have l10 : q ≤ z.length := by rw [← hq]; exact takeWhile_len _ _
  have l11 : 1 + q + r3.length = r2.length := by rw [← hr3, List.length_drop]; omega
  have wq2 := congrArg (Value.int .i64) (wrapS (n := 1 + (q : Int)) (by omega)).2
  have ho2 : (r2.take (1 + q)).drop 1 = o := by rw [List.drop_take, hz, show 1 + q - 1 = q by omega, ho]
  have ho3 : (r2.take (1 + q)).tail = o := by rw [← List.drop_one]; exact ho2
  have hz3 : r2.tail = z := by rw [← List.drop_one]; exact hz
  have RO := Lib.hid (fun g W hc => runBut badO g z (by omega) W hc)
  rw [hq] at RO
  have BO := Lib.hid (fun W => butC badO W)
  unfold badO at RO BO
  have HE1 := Lib.hid (fun W => hasPrefix_S hE W)
  have HBX := Lib.hid (show Below w.heap.size w (w.alloc (.cells #[.string (S e.host), .string (S e.ref), .string (S e.agent), .string (S e.cookie), .string (S e.lang), .string (S e.query)] 23)) by (repeat (first | with_reducible exact Below.refl _ _ | with_reducible assumption | with_reducible refine Below.drew ?_ | (with_reducible refine Below.setCell ?_ ?_ _; rotate_left; (first | omega | (simp <;> omega))) | (with_reducible refine Below.alloc ?_ ?_ _; rotate_left; (first | omega | (simp <;> omega))) | exact Below.refl _ _ | assumption)))
  clear hM hf
  go_enter Tryz.func8, Tryz.ntmps8
  go_upto_region 9 with (first
    | (go_at_call 20; (with_reducible refine Calls.mono (CP.out _) ?_); rintro x wp ⟨rfl, hwp⟩; obtain rfl := hwp.symm)
    | (go_at_call 21; (with_reducible refine Calls.mono (RL.out _) ?_); rintro x w1 ⟨rfl, hb1⟩; have HBX := Lib.hid (Below.trans (show Below w.heap.size w _ by (have := HBX.out; (repeat (first | with_reducible exact Below.refl _ _ | with_reducible assumption | with_reducible refine Below.drew ?_ | (with_reducible refine Below.setCell ?_ ?_ _; rotate_left; (first | omega | (simp <;> omega))) | (with_reducible refine Below.alloc ?_ ?_ _; rotate_left; (first | omega | (simp <;> omega))) | exact Below.refl _ _ | assumption)))) (hb1.mono (by (try simp only [World.size_alloc, World.size_setCell, World.size_drew]); omega))); obtain ⟨cc_hb1, ff_hb1⟩ := bk hb1 w.heap.size (by (try simp only [World.size_alloc, World.size_setCell, World.size_drew]); omega); have hz_hb1 := hb1.size; (try simp only [World.size_alloc, World.size_setCell, World.size_drew] at hz_hb1); clear hb1)
    | (go_at_call 19; refine Calls.mono (NO.out _) ?_; rintro x wq ⟨rfl, hwq⟩; obtain rfl := hwq.symm)
    | (go_at_call 23; (with_reducible refine Calls.mono (HB1.out _) ?_); rintro x wh ⟨rfl, hwh⟩; obtain rfl := hwh.symm)
    | fail)
  have hzw := HBX.out.size
  go_cut [9] (fun nv wx => nv = .int .i64 (m : Nat) ∧ Below w.heap.size w wx ∧ w.heap.size < wx.heap.size ∧ ∀ o, wx.cell? ⟨w.heap.size, o, none⟩ = (w.alloc (.cells #[.string (S e.host), .string (S e.ref), .string (S e.agent), .string (S e.cookie), .string (S e.lang), .string (S e.query)] 23)).cell? ⟨w.heap.size, o, none⟩)
  case first =>
    · go_region_with (first
        | (go_at_call 24; (with_reducible refine Calls.mono (BU.out _) ?_); rintro x w7 ⟨rfl, hc7, hb7⟩; (try simp only [World.size_drew, World.size_alloc] at hc7); have HC7 := Lib.hid hc7; have HB7 := Lib.hid hb7; have hz7 := hb7.size; (try simp only [World.size_alloc, World.size_setCell, World.size_drew] at hz7); clear hc7 hb7)
        | (go_at_call 21; (with_reducible refine Calls.mono (RB.out _ _ HC7.out) ?_); rintro x w8 ⟨rfl, hb8⟩; have HB8 := Lib.hid (HB7.out.trans (hb8.mono HB7.out.size)); clear hb8))
      all_goals (go_wp2_with fail; go_meet)
      all_goals (exact ⟨rfl, Below.trans (show Below w.heap.size w _ by (have := HBX.out; (repeat (first | with_reducible exact Below.refl _ _ | with_reducible assumption | with_reducible refine Below.drew ?_ | (with_reducible refine Below.setCell ?_ ?_ _; rotate_left; (first | omega | (simp <;> omega))) | (with_reducible refine Below.alloc ?_ ?_ _; rotate_left; (first | omega | (simp <;> omega))) | exact Below.refl _ _ | assumption)))) (HB8.out.mono (by (try simp only [World.size_alloc, World.size_setCell, World.size_drew]); omega)), by (have := HB8.out.size); (try simp only [World.size_alloc, World.size_setCell, World.size_drew] at this); omega, fun o => (HB8.out.cell (p := ⟨w.heap.size, o, none⟩) (by (try simp only [World.size_alloc, World.size_setCell, World.size_drew]); omega)).trans (by simp [*])⟩)
  case rest =>
  obtain ⟨rfl, hbc, hzd, hcc⟩ := hcut
  obtain ⟨wd_, hwd⟩ : ∃ y, y = wc := ⟨_, rfl⟩
  rw [← hwd] at hbc hzd hcc ⊢
  clear hwd
  have HBX := Lib.hid hbc
  clear hbc
  go_upto_region 19 with (first
    | (go_at_call 20; (with_reducible refine Calls.mono (CP.out _) ?_); rintro x wp ⟨rfl, hwp⟩; obtain rfl := hwp.symm)
    | (go_at_call 21; (with_reducible refine Calls.mono (RL.out _) ?_); rintro x w1 ⟨rfl, hb1⟩; have HBX := Lib.hid (Below.trans (show Below w.heap.size w _ by (have := HBX.out; (repeat (first | with_reducible exact Below.refl _ _ | with_reducible assumption | with_reducible refine Below.drew ?_ | (with_reducible refine Below.setCell ?_ ?_ _; rotate_left; (first | omega | (simp <;> omega))) | (with_reducible refine Below.alloc ?_ ?_ _; rotate_left; (first | omega | (simp <;> omega))) | exact Below.refl _ _ | assumption)))) (hb1.mono (by (try simp only [World.size_alloc, World.size_setCell, World.size_drew]); omega))); obtain ⟨cc_hb1, ff_hb1⟩ := bk hb1 w.heap.size (by (try simp only [World.size_alloc, World.size_setCell, World.size_drew]); omega); have hz_hb1 := hb1.size; (try simp only [World.size_alloc, World.size_setCell, World.size_drew] at hz_hb1); clear hb1)
    | (go_at_call 19; refine Calls.mono (NO.out _) ?_; rintro x wq ⟨rfl, hwq⟩; obtain rfl := hwq.symm)
    | (go_at_call 23; (with_reducible refine Calls.mono (HB1.out _) ?_); rintro x wh ⟨rfl, hwh⟩; obtain rfl := hwh.symm)
    | (go_at_call 23; (with_reducible refine Calls.mono (HB2.out _) ?_); rintro x wh ⟨rfl, hwh⟩; obtain rfl := hwh.symm)
    | (go_at_call 23; (with_reducible refine Calls.mono (HD1.out _) ?_); rintro x wh ⟨rfl, hwh⟩; obtain rfl := hwh.symm)
    | (go_at_call 23; (with_reducible refine Calls.mono (HD2.out _) ?_); rintro x wh ⟨rfl, hwh⟩; obtain rfl := hwh.symm)
    | fail)
  clear wk3 wk4
  have hzw := HBX.out.size
  go_cut [9] (fun nv wx => nv = .int .i64 (q : Nat) ∧ Below w.heap.size w wx ∧ w.heap.size < wx.heap.size ∧ ∀ o, wx.cell? ⟨w.heap.size, o, none⟩ = (w.alloc (.cells #[.string (S e.host), .string (S e.ref), .string (S e.agent), .string (S e.cookie), .string (S e.lang), .string (S e.query)] 23)).cell? ⟨w.heap.size, o, none⟩)
  case first =>
    · go_region_with (first
        | (go_at_call 24; (with_reducible refine Calls.mono (BO.out _) ?_); rintro x w7 ⟨rfl, hc7, hb7⟩; (try simp only [World.size_drew, World.size_alloc] at hc7); have HC7 := Lib.hid hc7; have HB7 := Lib.hid hb7; have hz7 := hb7.size; (try simp only [World.size_alloc, World.size_setCell, World.size_drew] at hz7); clear hc7 hb7)
        | (go_at_call 21; (with_reducible refine Calls.mono (RO.out _ _ HC7.out) ?_); rintro x w8 ⟨rfl, hb8⟩; have HB8 := Lib.hid (HB7.out.trans (hb8.mono HB7.out.size)); clear hb8))
      all_goals (go_wp2_with fail; go_meet)
      all_goals (exact ⟨rfl, Below.trans (show Below w.heap.size w _ by (have := HBX.out; (repeat (first | with_reducible exact Below.refl _ _ | with_reducible assumption | with_reducible refine Below.drew ?_ | (with_reducible refine Below.setCell ?_ ?_ _; rotate_left; (first | omega | (simp <;> omega))) | (with_reducible refine Below.alloc ?_ ?_ _; rotate_left; (first | omega | (simp <;> omega))) | exact Below.refl _ _ | assumption)))) (HB8.out.mono (by (try simp only [World.size_alloc, World.size_setCell, World.size_drew]); omega)), by (have := HB8.out.size); (try simp only [World.size_alloc, World.size_setCell, World.size_drew] at this); omega, fun o => (HB8.out.cell (p := ⟨w.heap.size, o, none⟩) (by (try simp only [World.size_alloc, World.size_setCell, World.size_drew]); omega)).trans (by simp [*])⟩)
  case rest =>
  obtain ⟨rfl, hbc, hzd, hcc⟩ := hcut
  obtain ⟨wd_, hwd⟩ : ∃ y, y = wc := ⟨_, rfl⟩
  rw [← hwd] at hbc hzd hcc ⊢
  clear hwd
  have HBX := Lib.hid hbc
  clear hbc
  go_wp2_with (first
    | (go_at_call 20; (with_reducible refine Calls.mono (CP.out _) ?_); rintro x wp ⟨rfl, hwp⟩; obtain rfl := hwp.symm)
    | (go_at_call 21; (with_reducible refine Calls.mono (RL.out _) ?_); rintro x w1 ⟨rfl, hb1⟩; have HBX := Lib.hid (Below.trans (show Below w.heap.size w _ by (have := HBX.out; (repeat (first | with_reducible exact Below.refl _ _ | with_reducible assumption | with_reducible refine Below.drew ?_ | (with_reducible refine Below.setCell ?_ ?_ _; rotate_left; (first | omega | (simp <;> omega))) | (with_reducible refine Below.alloc ?_ ?_ _; rotate_left; (first | omega | (simp <;> omega))) | exact Below.refl _ _ | assumption)))) (hb1.mono (by (try simp only [World.size_alloc, World.size_setCell, World.size_drew]); omega))); obtain ⟨cc_hb1, ff_hb1⟩ := bk hb1 w.heap.size (by (try simp only [World.size_alloc, World.size_setCell, World.size_drew]); omega); have hz_hb1 := hb1.size; (try simp only [World.size_alloc, World.size_setCell, World.size_drew] at hz_hb1); clear hb1)
    | (go_at_call 19; refine Calls.mono (NO.out _) ?_; rintro x wq ⟨rfl, hwq⟩; obtain rfl := hwq.symm)
    | (go_at_call 23; (with_reducible refine Calls.mono (HB1.out _) ?_); rintro x wh ⟨rfl, hwh⟩; obtain rfl := hwh.symm)
    | (go_at_call 23; (with_reducible refine Calls.mono (HB2.out _) ?_); rintro x wh ⟨rfl, hwh⟩; obtain rfl := hwh.symm)
    | (go_at_call 23; (with_reducible refine Calls.mono (HD1.out _) ?_); rintro x wh ⟨rfl, hwh⟩; obtain rfl := hwh.symm)
    | (go_at_call 23; (with_reducible refine Calls.mono (HD2.out _) ?_); rintro x wh ⟨rfl, hwh⟩; obtain rfl := hwh.symm)
    | fail)
  go_region
  go_wp2_with (first
    | (go_at_call 20; (with_reducible refine Calls.mono (CP.out _) ?_); rintro x wp ⟨rfl, hwp⟩; obtain rfl := hwp.symm)
    | (go_at_call 21; (with_reducible refine Calls.mono (RL.out _) ?_); rintro x w1 ⟨rfl, hb1⟩; have HBX := Lib.hid (Below.trans (show Below w.heap.size w _ by (have := HBX.out; (repeat (first | with_reducible exact Below.refl _ _ | with_reducible assumption | with_reducible refine Below.drew ?_ | (with_reducible refine Below.setCell ?_ ?_ _; rotate_left; (first | omega | (simp <;> omega))) | (with_reducible refine Below.alloc ?_ ?_ _; rotate_left; (first | omega | (simp <;> omega))) | exact Below.refl _ _ | assumption)))) (hb1.mono (by (try simp only [World.size_alloc, World.size_setCell, World.size_drew]); omega))); obtain ⟨cc_hb1, ff_hb1⟩ := bk hb1 w.heap.size (by (try simp only [World.size_alloc, World.size_setCell, World.size_drew]); omega); have hz_hb1 := hb1.size; (try simp only [World.size_alloc, World.size_setCell, World.size_drew] at hz_hb1); clear hb1)
    | (go_at_call 19; refine Calls.mono (NO.out _) ?_; rintro x wq ⟨rfl, hwq⟩; obtain rfl := hwq.symm)
    | (go_at_call 23; (with_reducible refine Calls.mono (HB1.out _) ?_); rintro x wh ⟨rfl, hwh⟩; obtain rfl := hwh.symm)
    | (go_at_call 23; (with_reducible refine Calls.mono (HB2.out _) ?_); rintro x wh ⟨rfl, hwh⟩; obtain rfl := hwh.symm)
    | (go_at_call 23; (with_reducible refine Calls.mono (HD1.out _) ?_); rintro x wh ⟨rfl, hwh⟩; obtain rfl := hwh.symm)
    | (go_at_call 23; (with_reducible refine Calls.mono (HD2.out _) ?_); rintro x wh ⟨rfl, hwh⟩; obtain rfl := hwh.symm)
    | (go_at_call 23; (with_reducible refine Calls.mono (HE1.out _) ?_); rintro x wh ⟨rfl, hwh⟩; obtain rfl := hwh.symm)
    | fail)
  go_ret2
  exact ⟨by first | rfl | simp, by (have := HBX.out; (repeat (first | with_reducible exact Below.refl _ _ | with_reducible assumption | with_reducible refine Below.drew ?_ | (with_reducible refine Below.setCell ?_ ?_ _; rotate_left; (first | omega | (simp <;> omega))) | (with_reducible refine Below.alloc ?_ ?_ _; rotate_left; (first | omega | (simp <;> omega))) | exact Below.refl _ _ | assumption)))⟩

set_option maxHeartbeats 3200000 in
set_option maxRecDepth 100000 in
theorem vr_C1_D2_is (e : En) (hf : e.few) (s : List UInt8) (hs : s.length ≤ 100000) (w : World) (hM : ML w) (r : List UInt8) (n : Nat) (hp0 : Lib.hasPrefix s [36, 40] = true) (hr : s.drop 2 = r) (hn : (r.takeWhile letterB).length = n) (hn0 : 0 < n) (name r1 : List UInt8) (hnm : r.take n = name) (hr1 : r.drop n = r1) (hb : Lib.hasPrefix r1 [123] = true) (x : List UInt8) (hx : r1.drop 1 = x) (m : Nat) (hm : (x.takeWhile (notIn badK)).length = m) (key : List UInt8) (hkey : x.take m = key) (hm0 : 0 < m) (y : List UInt8) (hy : r1.drop (1 + m) = y) (hc : Lib.hasPrefix y [125] = true) (r2 : List UInt8) (hr2 : r1.drop (2 + m) = r2) (hd : Lib.hasPrefix r2 [124, 39] = false) (hd2 : Lib.hasPrefix r2 [124] = true) (z : List UInt8) (hz : r2.drop 1 = z) (q : Nat) (hq : (z.takeWhile (notIn badO)).length = q) (o r3 : List UInt8) (ho : z.take q = o) (hr3 : r2.drop (1 + q) = r3) (hE : Lib.hasPrefix r3 [41] = true) (v : List UInt8) (hv : valV e name key = (v, true)) :
    Calls Tryz.prog 8 #[e.v, .string (S s)] w fun x w' => x = .returned (.tuple #[.string (S v), .int .i64 ((s.length : Int) - r3.length + 1)]) ∧ Below w.heap.size w w' := by
  have hsi : (s.length : Int) ≤ 100000 := by omega
  have NO := Lib.hid (fun W => refNone W)
  have lr : r.length ≤ s.length := by rw [← hr, List.length_drop]; omega
  have CP := Lib.hid (fun W => cutPrefix_S (s := s) (p := [36, 40]) (r := r) hp0 (by unfold Lib.trimPrefix; rw [hp0, if_pos rfl, ← hr]; rfl) W)
  have RL := Lib.hid (fun W => runLetters r (by omega) W)
  have hnr : n ≤ r.length := by rw [← hn]; exact takeWhile_len _ _
  rw [hn] at RL
  have hn1 : ((n : Int) == 0) = false := by simp; omega
  have hn2 : ((n : Int) = 0) = False := by simp; omega
  have l1 : n + r1.length = r.length := by rw [← hr1, List.length_drop]; omega
  have HB1 := Lib.hid (fun W => hasPrefix_S hb W)
  have l2 : 1 ≤ r1.length := by cases r1 with | nil => simp [Lib.hasPrefix, List.isPrefixOf] at hb | cons a b => simp
  have l3 : 1 + x.length = r1.length := by rw [← hx, List.length_drop]; omega
  have l4 : m ≤ x.length := by rw [← hm]; exact takeWhile_len _ _
  have wk3 := congrArg (Value.int .i64) (wrapS (n := 1 + (m : Int)) (by omega)).2
  have wk4 := congrArg (Value.int .i64) (wrapS (n := 2 + (m : Int)) (by omega)).2
  have hkey2 : (r1.take (1 + m)).drop 1 = key := by rw [List.drop_take, hx, show 1 + m - 1 = m by omega, hkey]
  have hkey3 : (r1.take (1 + m)).tail = key := by rw [← List.drop_one]; exact hkey2
  have hx3 : r1.tail = x := by rw [← List.drop_one]; exact hx
  have RB := Lib.hid (fun g W hc => runBut badK g x (by omega) W hc)
  rw [hm] at RB
  have BU := Lib.hid (fun W => butC badK W)
  unfold badK at RB BU
  have hm1 : ((m : Int) == 0) = false := by simp; omega
  have hm2 : ((m : Int) = 0) = False := by simp; omega
  have HB2 := Lib.hid (fun W => hasPrefix_S hc W)
  have l5 : 1 ≤ y.length := by cases y with | nil => simp [Lib.hasPrefix, List.isPrefixOf] at hc | cons a b => simp
  have l6 : 1 + m + y.length = r1.length := by rw [← hy, List.length_drop]; omega
  have l7 : 2 + m + r2.length = r1.length := by rw [← hr2, List.length_drop]; omega
  have HD1 := Lib.hid (fun W => hasPrefix_S hd W)
  have HD2 := Lib.hid (fun W => hasPrefix_S hd2 W)
  have l8 : 1 ≤ r2.length := (List.isPrefixOf_iff_prefix.1 hd2).length_le
  have l9 : 1 + z.length = r2.length := by rw [← hz, List.length_drop]; omega
  have l10 : q ≤ z.length := by rw [← hq]; exact takeWhile_len _ _
  have l11 : 1 + q + r3.length = r2.length := by rw [← hr3, List.length_drop]; omega
  have wq2 := congrArg (Value.int .i64) (wrapS (n := 1 + (q : Int)) (by omega)).2
  have ho2 : (r2.take (1 + q)).drop 1 = o := by rw [List.drop_take, hz, show 1 + q - 1 = q by omega, ho]
  have ho3 : (r2.take (1 + q)).tail = o := by rw [← List.drop_one]; exact ho2
  have hz3 : r2.tail = z := by rw [← List.drop_one]; exact hz
  have RO := Lib.hid (fun g W hc => runBut badO g z (by omega) W hc)
  rw [hq] at RO
  have BO := Lib.hid (fun W => butC badO W)
  unfold badO at RO BO
  have HE1 := Lib.hid (fun W => hasPrefix_S hE W)
  have hnl : name.length ≤ r.length := by rw [← hnm, List.length_take]; omega
  have hkl : key.length ≤ x.length := by rw [← hkey, List.length_take]; omega
  have VA := Lib.hid (fun W (hb : Below w.heap.size w W) => varsValue e hf name key (by omega) (by omega) W (hM.later (GG.of_below hb)))
  rw [hv] at VA
  have lz : (r3.length : Int) ≤ s.length := by omega
  have wz3 := congrArg (Value.int .i64) (wrapS (n := (s.length : Int) - r3.length) (by omega)).2
  have wz4 := congrArg (Value.int .i64) (wrapS (n := (s.length : Int) - r3.length + 1) (by omega)).2
  have HBX := Lib.hid (show Below w.heap.size w (w.alloc (.cells #[.string (S e.host), .string (S e.ref), .string (S e.agent), .string (S e.cookie), .string (S e.lang), .string (S e.query)] 23)) by (repeat (first | with_reducible exact Below.refl _ _ | with_reducible assumption | with_reducible refine Below.drew ?_ | (with_reducible refine Below.setCell ?_ ?_ _; rotate_left; (first | omega | (simp <;> omega))) | (with_reducible refine Below.alloc ?_ ?_ _; rotate_left; (first | omega | (simp <;> omega))) | exact Below.refl _ _ | assumption)))
  clear hM hf
  go_enter Tryz.func8, Tryz.ntmps8
  go_upto_region 9 with (first
    | (go_at_call 20; (with_reducible refine Calls.mono (CP.out _) ?_); rintro x wp ⟨rfl, hwp⟩; obtain rfl := hwp.symm)
    | (go_at_call 21; (with_reducible refine Calls.mono (RL.out _) ?_); rintro x w1 ⟨rfl, hb1⟩; have HBX := Lib.hid (Below.trans (show Below w.heap.size w _ by (have := HBX.out; (repeat (first | with_reducible exact Below.refl _ _ | with_reducible assumption | with_reducible refine Below.drew ?_ | (with_reducible refine Below.setCell ?_ ?_ _; rotate_left; (first | omega | (simp <;> omega))) | (with_reducible refine Below.alloc ?_ ?_ _; rotate_left; (first | omega | (simp <;> omega))) | exact Below.refl _ _ | assumption)))) (hb1.mono (by (try simp only [World.size_alloc, World.size_setCell, World.size_drew]); omega))); obtain ⟨cc_hb1, ff_hb1⟩ := bk hb1 w.heap.size (by (try simp only [World.size_alloc, World.size_setCell, World.size_drew]); omega); have hz_hb1 := hb1.size; (try simp only [World.size_alloc, World.size_setCell, World.size_drew] at hz_hb1); clear hb1)
    | (go_at_call 19; refine Calls.mono (NO.out _) ?_; rintro x wq ⟨rfl, hwq⟩; obtain rfl := hwq.symm)
    | (go_at_call 23; (with_reducible refine Calls.mono (HB1.out _) ?_); rintro x wh ⟨rfl, hwh⟩; obtain rfl := hwh.symm)
    | fail)
  have hzw := HBX.out.size
  go_cut [9] (fun nv wx => nv = .int .i64 (m : Nat) ∧ Below w.heap.size w wx ∧ w.heap.size < wx.heap.size ∧ ∀ o, wx.cell? ⟨w.heap.size, o, none⟩ = (w.alloc (.cells #[.string (S e.host), .string (S e.ref), .string (S e.agent), .string (S e.cookie), .string (S e.lang), .string (S e.query)] 23)).cell? ⟨w.heap.size, o, none⟩)
  case first =>
    · go_region_with (first
        | (go_at_call 24; (with_reducible refine Calls.mono (BU.out _) ?_); rintro x w7 ⟨rfl, hc7, hb7⟩; (try simp only [World.size_drew, World.size_alloc] at hc7); have HC7 := Lib.hid hc7; have HB7 := Lib.hid hb7; have hz7 := hb7.size; (try simp only [World.size_alloc, World.size_setCell, World.size_drew] at hz7); clear hc7 hb7)
        | (go_at_call 21; (with_reducible refine Calls.mono (RB.out _ _ HC7.out) ?_); rintro x w8 ⟨rfl, hb8⟩; have HB8 := Lib.hid (HB7.out.trans (hb8.mono HB7.out.size)); clear hb8))
      all_goals (go_wp2_with fail; go_meet)
      all_goals (exact ⟨rfl, Below.trans (show Below w.heap.size w _ by (have := HBX.out; (repeat (first | with_reducible exact Below.refl _ _ | with_reducible assumption | with_reducible refine Below.drew ?_ | (with_reducible refine Below.setCell ?_ ?_ _; rotate_left; (first | omega | (simp <;> omega))) | (with_reducible refine Below.alloc ?_ ?_ _; rotate_left; (first | omega | (simp <;> omega))) | exact Below.refl _ _ | assumption)))) (HB8.out.mono (by (try simp only [World.size_alloc, World.size_setCell, World.size_drew]); omega)), by (have := HB8.out.size); (try simp only [World.size_alloc, World.size_setCell, World.size_drew] at this); omega, fun o => (HB8.out.cell (p := ⟨w.heap.size, o, none⟩) (by (try simp only [World.size_alloc, World.size_setCell, World.size_drew]); omega)).trans (by simp [*])⟩)
  case rest =>
  obtain ⟨rfl, hbc, hzd, hcc⟩ := hcut
  obtain ⟨wd_, hwd⟩ : ∃ y, y = wc := ⟨_, rfl⟩
  rw [← hwd] at hbc hzd hcc ⊢
  clear hwd
  have HBX := Lib.hid hbc
  clear hbc
  go_upto_region 19 with (first
    | (go_at_call 20; (with_reducible refine Calls.mono (CP.out _) ?_); rintro x wp ⟨rfl, hwp⟩; obtain rfl := hwp.symm)
    | (go_at_call 21; (with_reducible refine Calls.mono (RL.out _) ?_); rintro x w1 ⟨rfl, hb1⟩; have HBX := Lib.hid (Below.trans (show Below w.heap.size w _ by (have := HBX.out; (repeat (first | with_reducible exact Below.refl _ _ | with_reducible assumption | with_reducible refine Below.drew ?_ | (with_reducible refine Below.setCell ?_ ?_ _; rotate_left; (first | omega | (simp <;> omega))) | (with_reducible refine Below.alloc ?_ ?_ _; rotate_left; (first | omega | (simp <;> omega))) | exact Below.refl _ _ | assumption)))) (hb1.mono (by (try simp only [World.size_alloc, World.size_setCell, World.size_drew]); omega))); obtain ⟨cc_hb1, ff_hb1⟩ := bk hb1 w.heap.size (by (try simp only [World.size_alloc, World.size_setCell, World.size_drew]); omega); have hz_hb1 := hb1.size; (try simp only [World.size_alloc, World.size_setCell, World.size_drew] at hz_hb1); clear hb1)
    | (go_at_call 19; refine Calls.mono (NO.out _) ?_; rintro x wq ⟨rfl, hwq⟩; obtain rfl := hwq.symm)
    | (go_at_call 23; (with_reducible refine Calls.mono (HB1.out _) ?_); rintro x wh ⟨rfl, hwh⟩; obtain rfl := hwh.symm)
    | (go_at_call 23; (with_reducible refine Calls.mono (HB2.out _) ?_); rintro x wh ⟨rfl, hwh⟩; obtain rfl := hwh.symm)
    | (go_at_call 23; (with_reducible refine Calls.mono (HD1.out _) ?_); rintro x wh ⟨rfl, hwh⟩; obtain rfl := hwh.symm)
    | (go_at_call 23; (with_reducible refine Calls.mono (HD2.out _) ?_); rintro x wh ⟨rfl, hwh⟩; obtain rfl := hwh.symm)
    | fail)
  clear wk3 wk4
  have hzw := HBX.out.size
  go_cut [9] (fun nv wx => nv = .int .i64 (q : Nat) ∧ Below w.heap.size w wx ∧ w.heap.size < wx.heap.size ∧ ∀ o, wx.cell? ⟨w.heap.size, o, none⟩ = (w.alloc (.cells #[.string (S e.host), .string (S e.ref), .string (S e.agent), .string (S e.cookie), .string (S e.lang), .string (S e.query)] 23)).cell? ⟨w.heap.size, o, none⟩)
  case first =>
    · go_region_with (first
        | (go_at_call 24; (with_reducible refine Calls.mono (BO.out _) ?_); rintro x w7 ⟨rfl, hc7, hb7⟩; (try simp only [World.size_drew, World.size_alloc] at hc7); have HC7 := Lib.hid hc7; have HB7 := Lib.hid hb7; have hz7 := hb7.size; (try simp only [World.size_alloc, World.size_setCell, World.size_drew] at hz7); clear hc7 hb7)
        | (go_at_call 21; (with_reducible refine Calls.mono (RO.out _ _ HC7.out) ?_); rintro x w8 ⟨rfl, hb8⟩; have HB8 := Lib.hid (HB7.out.trans (hb8.mono HB7.out.size)); clear hb8))
      all_goals (go_wp2_with fail; go_meet)
      all_goals (exact ⟨rfl, Below.trans (show Below w.heap.size w _ by (have := HBX.out; (repeat (first | with_reducible exact Below.refl _ _ | with_reducible assumption | with_reducible refine Below.drew ?_ | (with_reducible refine Below.setCell ?_ ?_ _; rotate_left; (first | omega | (simp <;> omega))) | (with_reducible refine Below.alloc ?_ ?_ _; rotate_left; (first | omega | (simp <;> omega))) | exact Below.refl _ _ | assumption)))) (HB8.out.mono (by (try simp only [World.size_alloc, World.size_setCell, World.size_drew]); omega)), by (have := HB8.out.size); (try simp only [World.size_alloc, World.size_setCell, World.size_drew] at this); omega, fun o => (HB8.out.cell (p := ⟨w.heap.size, o, none⟩) (by (try simp only [World.size_alloc, World.size_setCell, World.size_drew]); omega)).trans (by simp [*])⟩)
  case rest =>
  obtain ⟨rfl, hbc, hzd, hcc⟩ := hcut
  obtain ⟨wd_, hwd⟩ : ∃ y, y = wc := ⟨_, rfl⟩
  rw [← hwd] at hbc hzd hcc ⊢
  clear hwd
  have HBX := Lib.hid hbc
  clear hbc
  go_wp2_with (first
    | (go_at_call 20; (with_reducible refine Calls.mono (CP.out _) ?_); rintro x wp ⟨rfl, hwp⟩; obtain rfl := hwp.symm)
    | (go_at_call 21; (with_reducible refine Calls.mono (RL.out _) ?_); rintro x w1 ⟨rfl, hb1⟩; have HBX := Lib.hid (Below.trans (show Below w.heap.size w _ by (have := HBX.out; (repeat (first | with_reducible exact Below.refl _ _ | with_reducible assumption | with_reducible refine Below.drew ?_ | (with_reducible refine Below.setCell ?_ ?_ _; rotate_left; (first | omega | (simp <;> omega))) | (with_reducible refine Below.alloc ?_ ?_ _; rotate_left; (first | omega | (simp <;> omega))) | exact Below.refl _ _ | assumption)))) (hb1.mono (by (try simp only [World.size_alloc, World.size_setCell, World.size_drew]); omega))); obtain ⟨cc_hb1, ff_hb1⟩ := bk hb1 w.heap.size (by (try simp only [World.size_alloc, World.size_setCell, World.size_drew]); omega); have hz_hb1 := hb1.size; (try simp only [World.size_alloc, World.size_setCell, World.size_drew] at hz_hb1); clear hb1)
    | (go_at_call 19; refine Calls.mono (NO.out _) ?_; rintro x wq ⟨rfl, hwq⟩; obtain rfl := hwq.symm)
    | (go_at_call 23; (with_reducible refine Calls.mono (HB1.out _) ?_); rintro x wh ⟨rfl, hwh⟩; obtain rfl := hwh.symm)
    | (go_at_call 23; (with_reducible refine Calls.mono (HB2.out _) ?_); rintro x wh ⟨rfl, hwh⟩; obtain rfl := hwh.symm)
    | (go_at_call 23; (with_reducible refine Calls.mono (HD1.out _) ?_); rintro x wh ⟨rfl, hwh⟩; obtain rfl := hwh.symm)
    | (go_at_call 23; (with_reducible refine Calls.mono (HD2.out _) ?_); rintro x wh ⟨rfl, hwh⟩; obtain rfl := hwh.symm)
    | fail)
  go_region
  go_wp2_with (first
    | (go_at_call 20; (with_reducible refine Calls.mono (CP.out _) ?_); rintro x wp ⟨rfl, hwp⟩; obtain rfl := hwp.symm)
    | (go_at_call 21; (with_reducible refine Calls.mono (RL.out _) ?_); rintro x w1 ⟨rfl, hb1⟩; have HBX := Lib.hid (Below.trans (show Below w.heap.size w _ by (have := HBX.out; (repeat (first | with_reducible exact Below.refl _ _ | with_reducible assumption | with_reducible refine Below.drew ?_ | (with_reducible refine Below.setCell ?_ ?_ _; rotate_left; (first | omega | (simp <;> omega))) | (with_reducible refine Below.alloc ?_ ?_ _; rotate_left; (first | omega | (simp <;> omega))) | exact Below.refl _ _ | assumption)))) (hb1.mono (by (try simp only [World.size_alloc, World.size_setCell, World.size_drew]); omega))); obtain ⟨cc_hb1, ff_hb1⟩ := bk hb1 w.heap.size (by (try simp only [World.size_alloc, World.size_setCell, World.size_drew]); omega); have hz_hb1 := hb1.size; (try simp only [World.size_alloc, World.size_setCell, World.size_drew] at hz_hb1); clear hb1)
    | (go_at_call 19; refine Calls.mono (NO.out _) ?_; rintro x wq ⟨rfl, hwq⟩; obtain rfl := hwq.symm)
    | (go_at_call 23; (with_reducible refine Calls.mono (HB1.out _) ?_); rintro x wh ⟨rfl, hwh⟩; obtain rfl := hwh.symm)
    | (go_at_call 23; (with_reducible refine Calls.mono (HB2.out _) ?_); rintro x wh ⟨rfl, hwh⟩; obtain rfl := hwh.symm)
    | (go_at_call 23; (with_reducible refine Calls.mono (HD1.out _) ?_); rintro x wh ⟨rfl, hwh⟩; obtain rfl := hwh.symm)
    | (go_at_call 23; (with_reducible refine Calls.mono (HD2.out _) ?_); rintro x wh ⟨rfl, hwh⟩; obtain rfl := hwh.symm)
    | (go_at_call 23; (with_reducible refine Calls.mono (HE1.out _) ?_); rintro x wh ⟨rfl, hwh⟩; obtain rfl := hwh.symm)
    | (go_at_call 13; (with_reducible refine Calls.mono (VA.out _ ?_) ?_); (focus (have := HBX.out; (repeat (first | with_reducible exact Below.refl _ _ | with_reducible assumption | with_reducible refine Below.drew ?_ | (with_reducible refine Below.setCell ?_ ?_ _; rotate_left; (first | omega | (simp <;> omega))) | (with_reducible refine Below.alloc ?_ ?_ _; rotate_left; (first | omega | (simp <;> omega))) | exact Below.refl _ _ | assumption)))); rintro x w6 ⟨rfl, hb6⟩; have HBX := Lib.hid (Below.trans (show Below w.heap.size w _ by (have := HBX.out; (repeat (first | with_reducible exact Below.refl _ _ | with_reducible assumption | with_reducible refine Below.drew ?_ | (with_reducible refine Below.setCell ?_ ?_ _; rotate_left; (first | omega | (simp <;> omega))) | (with_reducible refine Below.alloc ?_ ?_ _; rotate_left; (first | omega | (simp <;> omega))) | exact Below.refl _ _ | assumption)))) (hb6.mono (by (try simp only [World.size_alloc, World.size_setCell, World.size_drew]); omega))); clear hb6)
    | fail)
  go_ret2
  exact ⟨by first | rfl | simp, by (have := HBX.out; (repeat (first | with_reducible exact Below.refl _ _ | with_reducible assumption | with_reducible refine Below.drew ?_ | (with_reducible refine Below.setCell ?_ ?_ _; rotate_left; (first | omega | (simp <;> omega))) | (with_reducible refine Below.alloc ?_ ?_ _; rotate_left; (first | omega | (simp <;> omega))) | exact Below.refl _ _ | assumption)))⟩
end Go.Proofs.YtenflcaalckdfaaGreatDoor
