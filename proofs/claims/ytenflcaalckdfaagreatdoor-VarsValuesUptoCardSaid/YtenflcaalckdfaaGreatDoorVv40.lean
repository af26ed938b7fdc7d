/- The document's side of variables: the walks of at, to, agent, Find, Value. -/
import Derived.Test.YtenflcaalckdfaaGreatDoorVv27
import Derived.Test.YtenflcaalckdfaaGreatDoorVv37
import Derived.Test.YtenflcaalckdfaaGreatDoorVv38
import Derived.Test.YtenflcaalckdfaaGreatDoorVv39
namespace Go.Proofs.YtenflcaalckdfaaGreatDoor
open Go Go.RowKit Go.Sort Go.Shelf
set_option linter.unusedVariables false
set_option linter.unusedSimpArgs false

def hdI : List UInt8 → Int
  | [] => 0
  | c :: _ => (c.toNat : Int)
theorem docAt {s t : List UInt8} {i : Nat} {ii z : Int} (hii : ii = i) (ht : s.drop i = t) (hz : hdI t = z) (hi : i ≤ 1000000000) (w : World) : Calls Tryz.prog 26 #[.string (S s), .int .i64 ii] w fun e w' => e = .returned (.int .u8 z) ∧ w' = w := by
  subst hii ht hz
  have hi2 : (i : Int) ≤ 1000000000 := by omega
  by_cases h : i < s.length
  · rw [List.drop_eq_getElem_cons h]
    show Calls _ _ _ _ fun e w' => e = .returned (.int .u8 (s[i].toNat : Int)) ∧ w' = w
    rw [← bAt_eq h]
    go_enter Tryz.func26, Tryz.ntmps26
    go_wp2
    go_ret
    exact ⟨rfl, rfl⟩
  · rw [List.drop_of_length_le (by omega)]
    show Calls _ _ _ _ fun e w' => e = .returned (.int .u8 0) ∧ w' = w
    go_enter Tryz.func26, Tryz.ntmps26
    go_wp2
    go_ret
    exact ⟨rfl, rfl⟩
theorem notIn_mem {bad : List UInt8} {c : UInt8} (h : c ∈ bad) : notIn bad c = false := by
  unfold notIn
  have hg := Lib.indexByte_ge bad c
  have : Lib.indexByte bad c ≠ -1 := fun e => by
    obtain ⟨k, hk, e2⟩ := List.getElem_of_mem h
    exact Lib.indexByte_none e k (by rw [List.getElem?_eq_getElem hk, e2])
  simp; omega
theorem notIn_not {bad : List UInt8} {c : UInt8} (h : c ∉ bad) : notIn bad c = true := by
  unfold notIn
  rw [index_no bad c h]; rfl

set_option maxHeartbeats 3200000 in
set_option maxRecDepth 100000 in
theorem docTo (s bad : List UInt8) (i : Nat) (ii : Int) (hii : ii = i) (hi : i ≤ s.length) (hs : s.length ≤ 1000000) (hbad : bad.length ≤ 100) (T : Nat) (hT : i + ((s.drop i).takeWhile (notIn bad)).length = T) (w : World) :
    Calls Tryz.prog 27 #[.string (S s), .int .i64 ii, .string (S bad)] w fun e w' => e = .returned (.int .i64 (T : Nat)) ∧ Below w.heap.size w w' := by
  subst hii
  have HST := Lib.hid (show ∀ j (h1 : i ≤ j) (h2 : j ≤ s.length), (∀ q (h : q < j), i ≤ q → notIn bad (s[q]'(by omega)) = true) → (∀ h : j < s.length, notIn bad s[j] = false) → j = T from fun j h1 h2 hall hend => by
    have := while_stop (notIn bad) (s := s.drop i) (k := j - i) (by rw [List.length_drop]; omega) (fun q hq => by
      rw [List.getElem_drop]; exact hall (i + q) (by omega) (by omega)) (fun h => by
      rw [List.getElem_drop]
      have e : i + (j - i) = j := by omega
      simp only [e]
      exact hend (by rw [List.length_drop] at h; omega))
    omega)
  have hsi : (s.length : Int) ≤ 1000000 := by omega
  have hbi : (bad.length : Int) ≤ 100 := by omega
  clear hT
  go_enter Tryz.func27, Tryz.ntmps27
  go_wp2
  go_loopw [1] (fun tv wr => ∃ j : Nat, tv = .int .i64 j ∧ i ≤ j ∧ j ≤ s.length ∧ (∀ q (h : q < j) (h2 : q < s.length), i ≤ q → notIn bad s[q] = true) ∧ Below w.heap.size w wr) (fun tv _ => s.length - (intOf tv).toNat)
  case atStart => exact ⟨i, rfl, Nat.le_refl _, hi, (fun q h _ h2 => by omega), Below.refl _ _⟩
  case round =>
    obtain ⟨j, rfl, hij, hjs, hall, hB⟩ := hrel
    have HA := Lib.hid hall
    have HB := Lib.hid hB
    clear hall hB
    by_cases hjl : j < s.length
    · obtain ⟨c, hc⟩ : ∃ c, s[j] = c := ⟨_, rfl⟩
      have hbat := bAt_eq hjl
      rw [hc] at hbat
      have HC := Lib.hid hc
      clear hc
      go_wp2
      go_loopw [7] (fun kv wx => ∃ k : Nat, kv = .int .i64 k ∧ k ≤ bad.length ∧ (∀ q (h : q < bad.length), q < k → bad[q] ≠ c) ∧ Below w.heap.size w wx) (fun kv _ => bad.length - (intOf kv).toNat)
      case atStart => exact ⟨0, rfl, Nat.zero_le _, (fun q _ h => by omega), HB.out⟩
      case round =>
        obtain ⟨k, rfl, hk, hne, hBx⟩ := hrel
        have HN := Lib.hid hne
        have HBx := Lib.hid hBx
        clear hne hBx
        by_cases hkl : k < bad.length
        · obtain ⟨d, hd⟩ : ∃ d, bad[k] = d := ⟨_, rfl⟩
          have hbk := bAt_eq hkl
          rw [hd] at hbk
          by_cases hcd : c = d
          · have hq : (bAt s j == bAt bad k) = true := by rw [hbat, hbk, hcd]; simp
            have hres : j = T := HST.out j hij hjs (fun q h h2 => HA.out q h (by omega) h2) (fun h => by rw [HC.out]; exact notIn_mem (by rw [hcd, ← hd]; exact List.getElem_mem hkl))
            clear hbat hbk hd hcd
            subst hres
            go_wp2_with fail
            go_region
            all_goals (go_wp2; (try rw [Exit.noGoto_ret]); go_ret; exact ⟨rfl, by (have := HBx.out; (repeat (first | with_reducible exact Below.refl _ _ | with_reducible assumption | with_reducible refine Below.drew ?_ | (with_reducible refine Below.setCell ?_ ?_ _; rotate_left; (first | omega | (simp <;> omega))) | (with_reducible refine Below.alloc ?_ ?_ _; rotate_left; (first | omega | (simp <;> omega))) | exact Below.refl _ _ | assumption)))⟩)
          · have hq : (bAt s j == bAt bad k) = false := by rw [hbat, hbk]; simp only [beq_eq_false_iff_ne, ne_eq]; exact fun e => hcd (UInt8.toNat.inj (by omega))
            have HNN := Lib.hid (show ∀ q (h : q < bad.length), q < k + 1 → bad[q] ≠ c from fun q h h2 => by
              by_cases e : q = k
              · subst e; rw [hd]; exact fun e => hcd e.symm
              · exact HN.out q h (by omega))
            clear hbat hbk hd hcd
            go_wp2_with fail
            go_region
            all_goals
              go_wp2
              go_roundw
              case rel => exact ⟨k + 1, by go_num, by omega, HNN.out, by (have := HBx.out; (repeat (first | with_reducible exact Below.refl _ _ | with_reducible assumption | with_reducible refine Below.drew ?_ | (with_reducible refine Below.setCell ?_ ?_ _; rotate_left; (first | omega | (simp <;> omega))) | (with_reducible refine Below.alloc ?_ ?_ _; rotate_left; (first | omega | (simp <;> omega))) | exact Below.refl _ _ | assumption)))⟩
              case measure => simp [intOf]; omega
        · obtain rfl : k = bad.length := by omega
          have HNN := Lib.hid (show ∀ q (h : q < j + 1) (h2 : q < s.length), i ≤ q → notIn bad s[q] = true from fun q h h2 h3 => by
            by_cases e : q = j
            · subst e
              rw [HC.out]
              exact notIn_not (fun hm => by
                obtain ⟨x, hx, e⟩ := List.getElem_of_mem hm
                exact HN.out x hx hx e)
            · exact HA.out q (by omega) h2 h3)
          clear hbat
          go_wp2
          go_roundw
          case rel => exact ⟨j + 1, by go_num, by omega, by omega, HNN.out, HBx.out⟩
          case measure => simp [intOf]; omega
    · obtain rfl : j = s.length := by omega
      have hres : s.length = T := HST.out s.length hij hjs (fun q h h2 => HA.out q h h h2) (fun h => absurd h hjl)
      go_wp2
      go_ret
      exact ⟨by rw [← hres]; rfl, HB.out⟩
theorem findV_nil (k : List UInt8) : findV [] k = ([], false) := rfl
theorem findV_cons (f : Fld) (L : List Fld) (k : List UInt8) : findV (f :: L) k = if f.1 == k then (f.2, true) else findV L k := by
  unfold findV
  rw [List.find?_cons]
  cases h : f.1 == k <;> rfl
set_option maxHeartbeats 3200000 in
set_option maxRecDepth 100000 in
theorem docFind (v : Value) (L : List Fld) (k : List UInt8) (w : World) (hr : ReadsF w v L) :
    Calls Tryz.prog 33 #[v, .string (S k)] w fun e w' => e = .returned (pairV (findV L k)) ∧ Below w.heap.size w w' := by
  obtain ⟨ao, cap, rfl, hc1, hc2, _, hcell⟩ := hr
  have hm : maxLen = 9223372036854775807 := rfl
  rw [hm] at hc2
  clear hm
  have HC := Lib.hid hcell
  obtain ⟨R, hR⟩ : ∃ R, findV L k = R := ⟨_, rfl⟩
  rw [hR]
  have HR := Lib.hid hR
  clear hcell hR
  go_enter Tryz.func33, Tryz.ntmps33
  go_wp2
  try simp only [mk_S]
  go_loopw [10] (fun iv wr => ∃ j : Nat, iv = .int .i64 j ∧ j ≤ L.length ∧ findV (L.drop j) k = R ∧ Below w.heap.size w wr) (fun iv _ => L.length - (intOf iv).toNat)
  case atStart => exact ⟨0, rfl, Nat.zero_le _, HR.out, Below.refl _ _⟩
  case round =>
    obtain ⟨j, rfl, hj, hf, hB⟩ := hrel
    have hzw := hB.size
    by_cases hjl : j < L.length
    · obtain ⟨b, off, rfl, hb, hcl⟩ := HC.out (by omega)
      obtain ⟨e1, e2⟩ := hcl j hjl
      rw [← hB.cell (p := ⟨b, off + j * 2, none⟩) hb] at e1
      rw [← hB.cell (p := ⟨b, off + j * 2 + 1, none⟩) hb] at e2
      have hbz : b < wr.heap.size := by omega
      have hfar := far hbz
      rw [List.drop_eq_getElem_cons hjl, findV_cons] at hf
      obtain ⟨⟨n, x⟩, hx⟩ : ∃ f, L[j] = f := ⟨_, rfl⟩
      rw [hx] at e1 e2 hf
      simp only at e1 e2 hf
      have HB := Lib.hid hB
      have HF := Lib.hid hf
      clear hcl hx hf hB
      cases hnk : n == k with
      | true =>
        have HF2 := HF.out
        rw [hnk, if_pos rfl] at HF2
        subst HF2
        go_wp2
        try rw [Exit.noGoto_ret]
        go_ret2
        exact ⟨rfl, by (have := HB.out; (repeat (first | with_reducible exact Below.refl _ _ | with_reducible assumption | with_reducible refine Below.drew ?_ | (with_reducible refine Below.setCell ?_ ?_ _; rotate_left; (first | omega | (simp <;> omega))) | (with_reducible refine Below.alloc ?_ ?_ _; rotate_left; (first | omega | (simp <;> omega))) | exact Below.refl _ _ | assumption)))⟩
      | false =>
        have HF2 := Lib.hid (show findV (L.drop (j + 1)) k = R by have h := HF.out; rw [hnk] at h; simpa using h)
        go_wp2
        go_roundw
        case rel => exact ⟨j + 1, by go_num, by omega, HF2.out, by (have := HB.out; (repeat (first | with_reducible exact Below.refl _ _ | with_reducible assumption | with_reducible refine Below.drew ?_ | (with_reducible refine Below.setCell ?_ ?_ _; rotate_left; (first | omega | (simp <;> omega))) | (with_reducible refine Below.alloc ?_ ?_ _; rotate_left; (first | omega | (simp <;> omega))) | exact Below.refl _ _ | assumption)))⟩
        case measure => simp [intOf]; omega
    · obtain rfl : j = L.length := by omega
      rw [List.drop_length, findV_nil] at hf
      subst hf
      go_wp2
      go_ret2
      exact ⟨rfl, hB⟩
theorem docAgent (s key : List UInt8) (hs : s.length ≤ 1000000) (w : World) : Calls Tryz.prog 32 #[.string (S s), .string (S key)] w fun e w' => e = .returned (.string (S (agentK s key))) ∧ Below w.heap.size w w' := by
  have AG := Lib.hid (fun W => refAgent s hs W)
  unfold agentK
  obtain ⟨⟨ab, av⟩, hab⟩ : ∃ q, agentB s = q := ⟨_, rfl⟩
  obtain ⟨sy, hsy⟩ : ∃ q, agentS s = q := ⟨_, rfl⟩
  rw [hab, hsy] at AG ⊢
  simp only at AG ⊢
  clear hab hsy
  by_cases h1 : key = [98, 114, 111, 119, 115, 101, 114]
  · subst h1
    rw [if_pos rfl]
    go_enter Tryz.func32, Tryz.ntmps32
    go_wp2_with (go_at_call 70; refine Calls.mono (AG.out _) ?_; rintro e w1 ⟨rfl, hb⟩)
    go_ret
    exact ⟨rfl, hb⟩
  · rw [if_neg h1]
    have b1 : (key == [98, 114, 111, 119, 115, 101, 114]) = false := by simpa using h1
    by_cases h2 : key = [118, 101, 114, 115, 105, 111, 110]
    · subst h2
      rw [if_pos rfl]
      go_enter Tryz.func32, Tryz.ntmps32
      go_wp2_with (go_at_call 70; refine Calls.mono (AG.out _) ?_; rintro e w1 ⟨rfl, hb⟩)
      go_ret
      exact ⟨rfl, hb⟩
    · rw [if_neg h2]
      have b2 : (key == [118, 101, 114, 115, 105, 111, 110]) = false := by simpa using h2
      by_cases h3 : key = [111, 115]
      · subst h3
        rw [if_pos rfl]
        go_enter Tryz.func32, Tryz.ntmps32
        go_wp2_with (go_at_call 70; refine Calls.mono (AG.out _) ?_; rintro e w1 ⟨rfl, hb⟩)
        go_ret
        exact ⟨rfl, hb⟩
      · rw [if_neg h3]
        have b3 : (key == [111, 115]) = false := by simpa using h3
        clear h1 h2 h3
        go_enter Tryz.func32, Tryz.ntmps32
        go_wp2_with (go_at_call 70; refine Calls.mono (AG.out _) ?_; rintro e w1 ⟨rfl, hb⟩)
        go_ret
        exact ⟨rfl, hb⟩
end Go.Proofs.YtenflcaalckdfaaGreatDoor
