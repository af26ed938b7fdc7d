/- text.Token and the document's Token: the walks. text.Token and the document's Token: the walks. -/
import Derived.Test.YtgjemgilanhdiaaGreatDoorRf10
namespace Go.Proofs.YtgjemgilanhdiaaGreatDoor
open Go.RowKit Go.Sort Go.Shelf
set_option linter.unusedVariables false

def falses256 : Array Value := Array.replicate 256 (.bool false)
theorem zero256 (w : World) : (zeroValue 95).run Tryz.prog w = .ok (.agg falses256) w := by kernel_rfl
theorem falses_at (j : Nat) (h : j < 256) : falses256[j]? = some (.bool false) := by
  unfold falses256; simp [h]

theorem idx_signs (c : UInt8) : decide (0 ≤ Lib.indexByte signs c) = signs.contains c :=
  all_bytes (p := fun c => decide (0 ≤ Lib.indexByte signs c) = signs.contains c) (by decide +kernel) c

set_option maxHeartbeats 1600000 in
set_option maxRecDepth 100000 in
theorem tokens_any (w : World) : Calls Tryz.prog 58 #[] w fun e w' => e = .returned (.pointer (some ⟨w.heap.size, 0, none⟩)) ∧ Below w.heap.size w w' ∧
    w.heap.size < w'.heap.size ∧ ∀ c : UInt8, w'.cell? ⟨w.heap.size, c.toNat, none⟩ = some (.bool (wordB c)) := by
  have hz := zero256
  go_enter Tryz.func58, Tryz.ntmps58
  go_wp2
  go_loopw [4] (fun iv wr => ∃ k : Nat, iv = .int .i64 k ∧ k ≤ 256 ∧ (∀ j, j < 256 → wr.cell? ⟨w.heap.size, j, none⟩ = some (.bool (if j < k then wordB (UInt8.ofNat j) else false)) ∧ wr.frozen? ⟨w.heap.size, j, none⟩ = false) ∧
      w.heap.size < wr.heap.size ∧ Below w.heap.size w wr) (fun iv _ => 256 - (intOf iv).toNat)
  case atStart => exact ⟨0, rfl, Nat.zero_le _, fun j hj => ⟨by rw [World.cell?_alloc_new, falses_at j hj]; simp, by simp⟩, by simp, by (repeat (first | with_reducible exact Below.refl _ _ | with_reducible assumption | with_reducible refine Below.drew ?_ | (with_reducible refine Below.setCell ?_ ?_ _; rotate_left; (first | omega | (simp <;> omega))) | (with_reducible refine Below.alloc ?_ ?_ _; rotate_left; (first | omega | (simp <;> omega))) | exact Below.refl _ _ | assumption))⟩
  case round =>
    obtain ⟨k, rfl, hk, hc, hlt, hB⟩ := hrel
    have HC := Lib.hid hc
    clear hc
    by_cases hkl : k < 256
    · obtain ⟨h1, h2⟩ := HC.out k hkl
      rw [if_neg (Nat.lt_irrefl k)] at h1
      have HN := Lib.hid (show ∀ b, b = wordB (UInt8.ofNat k) → (∀ j, j < 256 → (wr.setCell ⟨w.heap.size, k, none⟩ (.bool b)).cell? ⟨w.heap.size, j, none⟩ = some (.bool (if j < k + 1 then wordB (UInt8.ofNat j) else false)) ∧ (wr.setCell ⟨w.heap.size, k, none⟩ (.bool b)).frozen? ⟨w.heap.size, j, none⟩ = false) from fun b hb j h => by
        obtain ⟨e1, e2⟩ := HC.out j h
        refine ⟨?_, by simpa using e2⟩
        by_cases hj : j = k
        · subst hj; rw [if_pos (by omega), ← hb]; exact World.cell?_setCell_same _ _ _ h1
        · rw [World.cell?_setCell_other _ _ _ _ (by simp <;> omega), e1]
          by_cases hj2 : j < k
          · rw [if_pos hj2, if_pos (by omega)]
          · rw [if_neg hj2, if_neg (by omega)])
      have hw8 : (UInt8.ofNat k).toNat = k := by simp; omega
      obtain ⟨i, hi⟩ : ∃ i, Lib.indexByte signs ((k : Int).toNat.toUInt8) = i := ⟨_, rfl⟩
      have hw : wordB (UInt8.ofNat k) = ((decide (97 ≤ k) && decide (k ≤ 122)) || (decide (65 ≤ k) && decide (k ≤ 90)) || (decide (48 ≤ k) && decide (k ≤ 57)) || decide (0 ≤ i)) := by
        unfold wordB
        rw [hw8, ← idx_signs, ← hi]
        rfl
      have HW := Lib.hid hw
      have IB := Lib.hid (indexByte_S hi)
      clear hw hi hw8
      by_cases a1 : 97 ≤ k
      · by_cases a2 : k ≤ 122
        · have he : true = wordB (UInt8.ofNat k) := by rw [HW.out]; simp [a1, a2]
          have HE := Lib.hid he
          clear he
          go_wp2
          go_roundw
          case rel => exact ⟨k + 1, by go_num, by omega, HN.out _ HE.out, by simpa using hlt, by (repeat (first | with_reducible exact Below.refl _ _ | with_reducible assumption | with_reducible refine Below.drew ?_ | (with_reducible refine Below.setCell ?_ ?_ _; rotate_left; (first | omega | (simp <;> omega))) | (with_reducible refine Below.alloc ?_ ?_ _; rotate_left; (first | omega | (simp <;> omega))) | exact Below.refl _ _ | assumption))⟩
          case measure => simp [intOf]; omega
        · by_cases hi0 : 0 ≤ i
          all_goals
            have HE := Lib.hid (show decide (0 ≤ i) = wordB (UInt8.ofNat k) by rw [HW.out]; simp <;> (intros; omega))
            go_wp2_with (go_at_call 61; refine (IB.out _).mono ?_; rintro e w' ⟨rfl, rfl⟩)
            go_roundw
            case rel => exact ⟨k + 1, by go_num, by omega, HN.out _ (by rw [← HE.out] <;> simp [hi0] <;> (intros; omega)), by simpa using hlt, by (repeat (first | with_reducible exact Below.refl _ _ | with_reducible assumption | with_reducible refine Below.drew ?_ | (with_reducible refine Below.setCell ?_ ?_ _; rotate_left; (first | omega | (simp <;> omega))) | (with_reducible refine Below.alloc ?_ ?_ _; rotate_left; (first | omega | (simp <;> omega))) | exact Below.refl _ _ | assumption))⟩
            case measure => simp [intOf]; omega
      · by_cases b1 : 65 ≤ k
        · by_cases b2 : k ≤ 90
          · have HE := Lib.hid (show true = wordB (UInt8.ofNat k) by rw [HW.out]; simp [b1, b2])
            go_wp2
            go_roundw
            case rel => exact ⟨k + 1, by go_num, by omega, HN.out _ HE.out, by simpa using hlt, by (repeat (first | with_reducible exact Below.refl _ _ | with_reducible assumption | with_reducible refine Below.drew ?_ | (with_reducible refine Below.setCell ?_ ?_ _; rotate_left; (first | omega | (simp <;> omega))) | (with_reducible refine Below.alloc ?_ ?_ _; rotate_left; (first | omega | (simp <;> omega))) | exact Below.refl _ _ | assumption))⟩
            case measure => simp [intOf]; omega
          · by_cases hi0 : 0 ≤ i
            all_goals
              have HE := Lib.hid (show decide (0 ≤ i) = wordB (UInt8.ofNat k) by rw [HW.out]; simp <;> (intros; omega))
              go_wp2_with (go_at_call 61; refine (IB.out _).mono ?_; rintro e w' ⟨rfl, rfl⟩)
              go_roundw
              case rel => exact ⟨k + 1, by go_num, by omega, HN.out _ (by rw [← HE.out] <;> simp [hi0] <;> (intros; omega)), by simpa using hlt, by (repeat (first | with_reducible exact Below.refl _ _ | with_reducible assumption | with_reducible refine Below.drew ?_ | (with_reducible refine Below.setCell ?_ ?_ _; rotate_left; (first | omega | (simp <;> omega))) | (with_reducible refine Below.alloc ?_ ?_ _; rotate_left; (first | omega | (simp <;> omega))) | exact Below.refl _ _ | assumption))⟩
              case measure => simp [intOf]; omega
        · by_cases c1 : 48 ≤ k
          · by_cases c2 : k ≤ 57
            · have HE := Lib.hid (show true = wordB (UInt8.ofNat k) by rw [HW.out]; simp [c1, c2])
              go_wp2
              go_roundw
              case rel => exact ⟨k + 1, by go_num, by omega, HN.out _ HE.out, by simpa using hlt, by (repeat (first | with_reducible exact Below.refl _ _ | with_reducible assumption | with_reducible refine Below.drew ?_ | (with_reducible refine Below.setCell ?_ ?_ _; rotate_left; (first | omega | (simp <;> omega))) | (with_reducible refine Below.alloc ?_ ?_ _; rotate_left; (first | omega | (simp <;> omega))) | exact Below.refl _ _ | assumption))⟩
              case measure => simp [intOf]; omega
            · by_cases hi0 : 0 ≤ i
              all_goals
                have HE := Lib.hid (show decide (0 ≤ i) = wordB (UInt8.ofNat k) by rw [HW.out]; simp <;> (intros; omega))
                go_wp2_with (go_at_call 61; refine (IB.out _).mono ?_; rintro e w' ⟨rfl, rfl⟩)
                go_roundw
                case rel => exact ⟨k + 1, by go_num, by omega, HN.out _ (by rw [← HE.out] <;> simp [hi0] <;> (intros; omega)), by simpa using hlt, by (repeat (first | with_reducible exact Below.refl _ _ | with_reducible assumption | with_reducible refine Below.drew ?_ | (with_reducible refine Below.setCell ?_ ?_ _; rotate_left; (first | omega | (simp <;> omega))) | (with_reducible refine Below.alloc ?_ ?_ _; rotate_left; (first | omega | (simp <;> omega))) | exact Below.refl _ _ | assumption))⟩
                case measure => simp [intOf]; omega
          · by_cases hi0 : 0 ≤ i
            all_goals
              have HE := Lib.hid (show decide (0 ≤ i) = wordB (UInt8.ofNat k) by rw [HW.out]; simp <;> (intros; omega))
              go_wp2_with (go_at_call 61; refine (IB.out _).mono ?_; rintro e w' ⟨rfl, rfl⟩)
              go_roundw
              case rel => exact ⟨k + 1, by go_num, by omega, HN.out _ (by rw [← HE.out] <;> simp [hi0] <;> (intros; omega)), by simpa using hlt, by (repeat (first | with_reducible exact Below.refl _ _ | with_reducible assumption | with_reducible refine Below.drew ?_ | (with_reducible refine Below.setCell ?_ ?_ _; rotate_left; (first | omega | (simp <;> omega))) | (with_reducible refine Below.alloc ?_ ?_ _; rotate_left; (first | omega | (simp <;> omega))) | exact Below.refl _ _ | assumption))⟩
              case measure => simp [intOf]; omega
    · obtain rfl : k = 256 := by omega
      go_wp2
      go_ret
      refine ⟨rfl, hB, hlt, fun c => ?_⟩
      rw [(HC.out c.toNat c.toNat_lt).1, if_pos c.toNat_lt]
      simp

theorem has_any (b : Nat) (c : UInt8) (W : World) (h : W.cell? ⟨b, c.toNat, none⟩ = some (.bool (wordB c))) : Calls Tryz.prog 59 #[.pointer (some ⟨b, 0, none⟩), .int .u8 (c.toNat : Int)] W fun e w' => e = .returned (.bool (wordB c)) ∧ w' = W := by
  have hc256 := c.toNat_lt
  go_enter Tryz.func59, Tryz.ntmps59
  go_wp2
  go_ret
  exact ⟨rfl, rfl⟩

set_option maxHeartbeats 800000 in
theorem all_any (g b : Nat) (eg : ∀ args w, (callFunc g args).run Tryz.prog w = .ok (.enter g args) w) (W : World)
    (hcl : ∀ c : UInt8, Calls Tryz.prog g #[.pointer (some ⟨b, 0, none⟩), .int .u8 (c.toNat : Int)] W fun e w' => e = .returned (.bool (wordB c)) ∧ w' = W)
    (l : List UInt8) (hl : l.length ≤ 9223372036854775807) :
    Calls Tryz.prog 57 #[.string (S l), .pointer (some ⟨b, 0, none⟩), .func (.func g) #[] #[]] W fun e w' => e = .returned (.bool (l.all wordB)) ∧ w' = W := by
  have HC := Lib.hid hcl
  clear hcl
  go_enter Tryz.func57, Tryz.ntmps57
  go_wp2
  go_loop [10] (fun iv => ∃ k : Nat, iv = .int .i64 k ∧ k ≤ l.length ∧ (l.take k).all wordB = true) (fun iv => l.length - (intOf iv).toNat)
  case atStart => exact ⟨0, rfl, Nat.zero_le _, rfl⟩
  case round =>
    obtain ⟨k, rfl, hk, hall⟩ := hrel
    have HA := Lib.hid hall
    clear hall
    by_cases hlt : k < l.length
    · have hbk : bAt l k = (l[k].toNat : Int) := bAt_eq hlt
      have htk : (l.take (k + 1)).all wordB = wordB l[k] := by
        rw [List.take_succ_eq_append_getElem hlt, List.all_append, HA.out]; simp
      have hno : wordB l[k] = false → l.all wordB = false := fun h => by
        rw [List.all_eq_false]; exact ⟨_, List.getElem_mem hlt, by simp [h]⟩
      obtain ⟨c, hc⟩ : ∃ c, l[k] = c := ⟨_, rfl⟩
      rw [hc] at hbk htk hno
      have hcall := HC.out c
      obtain ⟨v, hv⟩ : ∃ v, wordB c = v := ⟨_, rfl⟩
      rw [hv] at hcall htk hno
      have HTK := Lib.hid htk
      have HNO := Lib.hid hno
      clear htk hno hv hc
      cases v with
      | true =>
        go_wp2_with (go_at_fn g; refine hcall.mono ?_; rintro e w' ⟨rfl, rfl⟩)
        go_round
        case rel => exact ⟨k + 1, by go_num, by omega, HTK.out⟩
        case measure => simp [intOf]; omega
      | false =>
        go_wp2_with (go_at_fn g; refine hcall.mono ?_; rintro e w' ⟨rfl, rfl⟩)
        go_ret
        exact ⟨by rw [HNO.out trivial]; rfl, rfl⟩
    · obtain rfl : k = l.length := by omega
      have h := HA.out
      rw [List.take_length] at h
      have H := Lib.hid h
      clear h
      go_wp2
      go_ret
      exact ⟨by rw [H.out]; rfl, rfl⟩
end Go.Proofs.YtgjemgilanhdiaaGreatDoor
namespace Go.Proofs.YtgjemgilanhdiaaGreatDoor
open Go.RowKit Go.Sort Go.Shelf
set_option linter.unusedVariables false

set_option maxHeartbeats 800000 in
theorem textToken (l : List UInt8) (hl : l.length ≤ 9223372036854775807) (w : World) :
    Calls Tryz.prog 32 #[.string (S l)] w fun e w' => e = .returned (.bool (tokenL l)) ∧ Below w.heap.size w w' := by
  by_cases h0 : l = []
  · subst h0
    go_enter Tryz.func32, Tryz.ntmps32
    go_wp2
    go_ret
    exact ⟨rfl, Below.refl _ _⟩
  · have hne : l.isEmpty = false := by
      cases l with
      | nil => exact absurd rfl h0
      | cons a t => rfl
    have ht : tokenL l = l.all wordB := by unfold tokenL; rw [hne]; rfl
    rw [ht]
    clear ht h0
    have HC := Lib.hid (fun (W : World) (h : ∀ c : UInt8, W.cell? ⟨w.heap.size, c.toNat, none⟩ = some (.bool (wordB c))) => all_any 59 w.heap.size (enters_of Tryz.func59 (by kernel_rfl) rfl) W (fun c => has_any w.heap.size c W (h c)) l hl)
    go_enter Tryz.func32, Tryz.ntmps32
    go_wp2_with (first
      | (go_at_call 58; refine (tokens_any _).mono ?_; rintro e w1 ⟨rfl, hb, hlt, hcell⟩; have HCELL := Lib.hid hcell; clear hcell)
      | (go_at_call 57; refine (HC.out _ HCELL.out).mono ?_; rintro e w' ⟨rfl, rfl⟩))
    go_ret
    exact ⟨rfl, by assumption⟩

def signs14 : List UInt8 := [33, 35, 36, 37, 38, 39, 42, 43, 45, 46, 94, 95, 124, 126]
theorem signs_14 (c : UInt8) : signs.contains c = (c == 96 || signs14.contains c) :=
  all_bytes (p := fun c => signs.contains c = (c == 96 || signs14.contains c)) (by decide +kernel) c

set_option maxHeartbeats 1600000 in
theorem refWord (c : UInt8) (w : World) : Calls Tryz.prog 78 #[.int .u8 (c.toNat : Int)] w fun e w' => e = .returned (.bool (wordB c)) ∧ w' = w := by
  have hw : wordB c = (((decide (97 ≤ c.toNat) && decide (c.toNat ≤ 122)) || (decide (65 ≤ c.toNat) && decide (c.toNat ≤ 90)) || (decide (48 ≤ c.toNat) && decide (c.toNat ≤ 57))) || (decide (c.toNat = 96) || signs14.contains c)) := by
    unfold wordB
    rw [signs_14]
    congr 2
    by_cases h : c = 96
    · subst h; rfl
    · have : ¬ c.toNat = 96 := fun e => h (UInt8.toNat.inj e)
      simp [h, this]
  have hc256 := c.toNat_lt
  by_cases hy : (((decide (97 ≤ c.toNat) && decide (c.toNat ≤ 122)) || (decide (65 ≤ c.toNat) && decide (c.toNat ≤ 90)) || (decide (48 ≤ c.toNat) && decide (c.toNat ≤ 57))) || decide (c.toNat = 96)) = true
  · have e : wordB c = true := by rw [hw, ← Bool.or_assoc, hy]; rfl
    rw [e]
    clear e hw
    simp only [Bool.or_eq_true, Bool.and_eq_true, decide_eq_true_eq] at hy
    obtain ⟨n, hn⟩ : ∃ n, c.toNat = n := ⟨_, rfl⟩
    rw [hn] at hc256 hy ⊢
    clear hn
    rcases hy with ((⟨h1, h2⟩ | ⟨h1, h2⟩) | ⟨h1, h2⟩) | h1
    · go_enter Tryz.func78, Tryz.ntmps78
      go_wp2
      go_ret
      exact ⟨rfl, rfl⟩
    · go_enter Tryz.func78, Tryz.ntmps78
      go_wp2
      go_ret
      exact ⟨rfl, rfl⟩
    · go_enter Tryz.func78, Tryz.ntmps78
      go_wp2
      go_ret
      exact ⟨rfl, rfl⟩
    · subst h1
      go_enter Tryz.func78, Tryz.ntmps78
      go_wp2
      go_ret
      exact ⟨rfl, rfl⟩
  · have hy' : (((decide (97 ≤ c.toNat) && decide (c.toNat ≤ 122)) || (decide (65 ≤ c.toNat) && decide (c.toNat ≤ 90)) || (decide (48 ≤ c.toNat) && decide (c.toNat ≤ 57))) || decide (c.toNat = 96)) = false := by simpa using hy
    rw [← Bool.or_assoc, hy', Bool.false_or] at hw
    rw [hw]
    clear hy hw
    have HIN := Lib.hid (show ∀ j (h : j < 14), bAt signs14 j = (c.toNat : Int) → signs14.contains c = true from fun j h e => by
      have h' : j < signs14.length := h
      rw [bAt_eq h'] at e
      have : signs14[j] = c := UInt8.toNat.inj (by omega)
      rw [← this]
      simp)
    have HOUT := Lib.hid (show (∀ j, j < 14 → bAt signs14 j ≠ (c.toNat : Int)) → signs14.contains c = false from fun h => by
      apply Bool.eq_false_iff.2
      intro hc
      have hm : c ∈ signs14 := by simpa using hc
      obtain ⟨j, hj, e⟩ := List.getElem_of_mem hm
      exact h j hj (by rw [bAt_eq hj, e]))
    obtain ⟨v, hv⟩ : ∃ v, signs14.contains c = v := ⟨_, rfl⟩
    rw [hv]
    rw [hv] at HIN HOUT
    clear hv
    obtain ⟨n, hn⟩ : ∃ n, c.toNat = n := ⟨_, rfl⟩
    rw [hn] at hc256 hy' HIN HOUT ⊢
    clear hn
    unfold signs14 at HIN HOUT
    have hq1 : n < 48 ∨ (57 < n ∧ n < 65) ∨ (90 < n ∧ n < 96) ∨ 122 < n := by
      simp at hy'; omega
    have h96 : ((n : Int) == 96) = false := by simp; omega
    clear hy'
    rcases hq1 with h1 | ⟨h1, h2⟩ | ⟨h1, h2⟩ | h1
    all_goals
      go_enter Tryz.func78, Tryz.ntmps78
      go_wp2
      go_loop [4] (fun iv => ∃ k : Nat, iv = .int .i64 k ∧ k ≤ 14 ∧ ∀ j, j < k → bAt [33, 35, 36, 37, 38, 39, 42, 43, 45, 46, 94, 95, 124, 126] j ≠ (n : Int)) (fun iv => 14 - (intOf iv).toNat)
      case atStart => exact ⟨0, rfl, Nat.zero_le _, fun j h => by omega⟩
      case round =>
        obtain ⟨k, rfl, hk, hall⟩ := hrel
        have HA := Lib.hid hall
        clear hall
        by_cases hlt : k < 14
        · by_cases he : bAt [33, 35, 36, 37, 38, 39, 42, 43, 45, 46, 94, 95, 124, 126] k = (n : Int)
          · have H := Lib.hid (HIN.out k hlt he)
            go_wp2
            go_ret
            exact ⟨by rw [H.out]; rfl, rfl⟩
          · have H := Lib.hid (show ∀ j, j < k + 1 → bAt [33, 35, 36, 37, 38, 39, 42, 43, 45, 46, 94, 95, 124, 126] j ≠ (n : Int) from fun j hj => by
              by_cases e : j = k
              · subst e; exact he
              · exact HA.out j (by omega))
            go_wp2
            go_round
            case rel => exact ⟨k + 1, by go_num, by omega, H.out⟩
            case measure => simp [intOf]; omega
        · obtain rfl : k = 14 := by omega
          have H := Lib.hid (HOUT.out HA.out)
          go_wp2
          go_ret
          exact ⟨by rw [H.out]; rfl, rfl⟩

set_option maxHeartbeats 800000 in
theorem refToken (l : List UInt8) (hl : l.length ≤ 9223372036854775807) (w : World) : Calls Tryz.prog 47 #[.string (S l)] w fun e w' => e = .returned (.bool (tokenL l)) ∧ w' = w := by
  go_enter Tryz.func47, Tryz.ntmps47
  go_wp2
  go_loop [3] (fun iv => ∃ k : Nat, iv = .int .i64 k ∧ k ≤ l.length ∧ (l.take k).all wordB = true) (fun iv => l.length - (intOf iv).toNat)
  case atStart => exact ⟨0, rfl, Nat.zero_le _, rfl⟩
  case round =>
    obtain ⟨k, rfl, hk, hall⟩ := hrel
    have HA := Lib.hid hall
    clear hall
    by_cases hlt : k < l.length
    · have hbk : bAt l k = (l[k].toNat : Int) := bAt_eq hlt
      have htk : (l.take (k + 1)).all wordB = wordB l[k] := by
        rw [List.take_succ_eq_append_getElem hlt, List.all_append, HA.out]; simp
      have hno : wordB l[k] = false → tokenL l = false := fun h => by
        unfold tokenL
        rw [List.all_eq_false.2 ⟨_, List.getElem_mem hlt, by simp [h]⟩, Bool.and_false]
      obtain ⟨c, hc⟩ : ∃ c, l[k] = c := ⟨_, rfl⟩
      rw [hc] at hbk htk hno
      have hcall := fun W => refWord c W
      obtain ⟨v, hv⟩ : ∃ v, wordB c = v := ⟨_, rfl⟩
      rw [hv] at hcall htk hno
      have HTK := Lib.hid htk
      have HNO := Lib.hid hno
      clear htk hno hv hc
      cases v with
      | true =>
        go_wp2_with (go_at_call 78; refine (hcall _).mono ?_; rintro e w' ⟨rfl, rfl⟩)
        go_round
        case rel => exact ⟨k + 1, by go_num, by omega, HTK.out⟩
        case measure => simp [intOf]; omega
      | false =>
        go_wp2_with (go_at_call 78; refine (hcall _).mono ?_; rintro e w' ⟨rfl, rfl⟩)
        go_ret
        exact ⟨by rw [HNO.out trivial]; rfl, rfl⟩
    · obtain rfl : k = l.length := by omega
      have h := HA.out
      rw [List.take_length] at h
      have H := Lib.hid h
      clear h
      by_cases h0 : l = []
      · subst h0
        go_wp2
        go_ret
        exact ⟨rfl, rfl⟩
      · have hne : l.isEmpty = false := by
          cases l with
          | nil => exact absurd rfl h0
          | cons a t => rfl
        have ht : tokenL l = true := by unfold tokenL; rw [hne, H.out]; rfl
        have HT := Lib.hid ht
        clear ht
        go_wp2
        go_ret
        exact ⟨by rw [HT.out]; rfl, rfl⟩
end Go.Proofs.YtgjemgilanhdiaaGreatDoor
