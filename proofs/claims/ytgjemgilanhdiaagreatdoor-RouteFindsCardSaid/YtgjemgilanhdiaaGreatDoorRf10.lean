/- text.Lower, text.Same; the document's Lower: the walks. Numbers read from digits: the walks of read[uint64], read[int64] and of the functions that tell a digit's value. -/
import Derived.Test.YtgjemgilanhdiaaGreatDoorRf2
import Derived.Test.YtgjemgilanhdiaaGreatDoorRf9
import Derived.Laws.IdiomStrings
import Derived.Lib.AppendIntMem
namespace Go.Proofs.YtgjemgilanhdiaaGreatDoor
open Go.RowKit Go.Sort Go.Shelf
set_option linter.unusedVariables false

theorem bytes_laid (w : World) (l : List UInt8) (c t : Nat) (hc : l.length ≤ c) : ∀ j (h : j < l.length),
    ((w.alloc (.cells (bytesRow (S l) c) t ((bytesRow (S l) c).size, (bytesRow (S l) c).size + 1))).drew).cell? ⟨w.heap.size, j, none⟩ = some (.int .u8 ((l[j].toNat : Nat) : Int)) ∧
    ((w.alloc (.cells (bytesRow (S l) c) t ((bytesRow (S l) c).size, (bytesRow (S l) c).size + 1))).drew).frozen? ⟨w.heap.size, j, none⟩ = false := fun j h => by
  have hs : (S l).data.size = l.length := by simp [S]
  have h1 := bytesRow_at (S l) c j (by rw [hs]; exact h)
  have h2 : j < (bytesRow (S l) c).size := by
    rcases Nat.lt_or_ge j (bytesRow (S l) c).size with h' | h'
    · exact h'
    · rw [Array.getElem?_eq_none h'] at h1; cases h1
  constructor
  · show (w.alloc _).cell? _ = _
    rw [World.cell?_alloc_mark, h1]
    simp [S]
  · show (w.alloc _).frozen? _ = _
    rw [World.frozen?_alloc_mark]
    simp; omega

set_option maxHeartbeats 800000 in
theorem textLower (l : List UInt8) (hl : l.length ≤ 9223372036854775807) (w : World) : Calls Tryz.prog 65 #[.string (S l)] w fun e w' => e = .returned (.string (S (lower l))) ∧ Below w.heap.size w w' := by
  have hcv := fun w => run_bytes_of_string (P := Tryz.prog) w 9 66 5 (S l) Tryz.underlying9 Tryz.underlying66 Tryz.underlying5
  have hge := grownCap_ge w l.length 0 5
  have HL := Lib.hid (bytes_laid w l (grownCap w l.length 0 5) 5 hge)
  go_enter Tryz.func65, Tryz.ntmps65
  go_wp2
  obtain ⟨cap, hcap⟩ : ∃ c, grownCap w l.length 0 5 = c := ⟨_, rfl⟩
  rw [hcap] at hge
  rw [hcap] at HL ⊢
  clear hcv hcap
  simp only [mk_S]
  go_loopw [10] (fun iv wr => ∃ k : Nat, iv = .int .i64 k ∧ k ≤ l.length ∧ (∀ j (h : j < l.length), wr.cell? ⟨w.heap.size, j, none⟩ = some (.int .u8 (((if j < k then lowB l[j] else l[j]).toNat : Nat) : Int)) ∧ wr.frozen? ⟨w.heap.size, j, none⟩ = false) ∧
      w.heap.size < wr.heap.size ∧ Below w.heap.size w wr) (fun iv _ => l.length - (intOf iv).toNat)
  case atStart => exact ⟨0, rfl, Nat.zero_le _, by simpa using HL.out, by simp, by (repeat (first | with_reducible exact Below.refl _ _ | with_reducible assumption | with_reducible refine Below.drew ?_ | (with_reducible refine Below.setCell ?_ ?_ _; rotate_left; (first | omega | (simp <;> omega))) | (with_reducible refine Below.alloc ?_ ?_ _; rotate_left; (first | omega | (simp <;> omega))) | exact Below.refl _ _ | assumption))⟩
  case round =>
    obtain ⟨k, rfl, hk, hc, hlt, hB⟩ := hrel
    have HC := Lib.hid hc
    clear hc
    by_cases hkl : k < l.length
    · obtain ⟨h1, h2⟩ := HC.out k hkl
      rw [if_neg (Nat.lt_irrefl k)] at h1
      obtain ⟨c, hc⟩ : ∃ c, l[k] = c := ⟨_, rfl⟩
      rw [hc] at h1
      have hnext : ∀ wr' : World, (∀ j, j ≠ k → wr'.cell? ⟨w.heap.size, j, none⟩ = wr.cell? ⟨w.heap.size, j, none⟩) → (∀ j, wr'.frozen? ⟨w.heap.size, j, none⟩ = wr.frozen? ⟨w.heap.size, j, none⟩) → wr'.cell? ⟨w.heap.size, k, none⟩ = some (.int .u8 ((lowB c).toNat : Int)) →
          (∀ j (h : j < l.length), wr'.cell? ⟨w.heap.size, j, none⟩ = some (.int .u8 (((if j < k + 1 then lowB l[j] else l[j]).toNat : Nat) : Int)) ∧ wr'.frozen? ⟨w.heap.size, j, none⟩ = false) := fun wr' a b d j h => by
        obtain ⟨e1, e2⟩ := HC.out j h
        rw [b, e2]
        refine ⟨?_, rfl⟩
        by_cases hj : j = k
        · subst hj; rw [d, if_pos (by omega), hc]
        · rw [a j hj, e1]
          by_cases hj2 : j < k
          · rw [if_pos hj2, if_pos (by omega)]
          · rw [if_neg hj2, if_neg (by omega)]
      have HN := Lib.hid hnext
      clear hnext
      have hc256 := c.toNat_lt
      by_cases hg : 65 ≤ c.toNat ∧ c.toNat ≤ 90
      · obtain ⟨hg1, hg2⟩ := hg
        have hlb := lowB_great ⟨hg1, hg2⟩
        have hst : (wr.setCell ⟨w.heap.size, k, none⟩ (.int .u8 ((c.toNat : Int) + 32))).cell? ⟨w.heap.size, k, none⟩ = some (.int .u8 ((lowB c).toNat : Int)) := by rw [hlb]; exact World.cell?_setCell_same _ _ _ h1
        have HST := Lib.hid hst
        clear hst hlb
        go_wp2
        go_roundw
        case rel => exact ⟨k + 1, by go_num, by omega, HN.out _ (fun j hj => World.cell?_setCell_other _ _ _ _ (by simp <;> omega)) (fun j => by simp) (by simp only [show (c.toNat : Int) + 97 - 65 = (c.toNat : Int) + 32 by omega]; exact HST.out), by simpa using hlt, by (repeat (first | with_reducible exact Below.refl _ _ | with_reducible assumption | with_reducible refine Below.drew ?_ | (with_reducible refine Below.setCell ?_ ?_ _; rotate_left; (first | omega | (simp <;> omega))) | (with_reducible refine Below.alloc ?_ ?_ _; rotate_left; (first | omega | (simp <;> omega))) | exact Below.refl _ _ | assumption))⟩
        case measure => simp [intOf]; omega
      · have hlb := lowB_other hg
        rw [← hlb] at h1
        rcases (by omega : c.toNat < 65 ∨ 90 < c.toNat) with hg1 | hg1
        all_goals
          have hst : wr.cell? ⟨w.heap.size, k, none⟩ = some (.int .u8 ((lowB c).toNat : Int)) := h1
          rw [hlb] at h1
          have HST := Lib.hid hst
          clear hst hlb
          go_wp2
          go_roundw
          case rel => exact ⟨k + 1, by go_num, by omega, HN.out _ (fun j hj => rfl) (fun j => rfl) HST.out, hlt, by (repeat (first | with_reducible exact Below.refl _ _ | with_reducible assumption | with_reducible refine Below.drew ?_ | (with_reducible refine Below.setCell ?_ ?_ _; rotate_left; (first | omega | (simp <;> omega))) | (with_reducible refine Below.alloc ?_ ?_ _; rotate_left; (first | omega | (simp <;> omega))) | exact Below.refl _ _ | assumption))⟩
          case measure => simp [intOf]; omega
    · obtain rfl : k = l.length := by omega
      have hcv := run_convert_bytes_back (P := Tryz.prog) wr 66 9 5 ⟨w.heap.size, 0, none⟩ cap (lower l) Tryz.underlying66 Tryz.underlying5 Tryz.underlying9 (fun j hj => by
        rw [lower_len] at hj
        rw [Lib.add_plain, Nat.zero_add, (HC.out j hj).1, if_pos hj]
        simp [lower])
      rw [lower_len] at hcv
      go_wp2
      go_ret
      exact ⟨rfl, by (repeat (first | with_reducible exact Below.refl _ _ | with_reducible assumption | with_reducible refine Below.drew ?_ | (with_reducible refine Below.setCell ?_ ?_ _; rotate_left; (first | omega | (simp <;> omega))) | (with_reducible refine Below.alloc ?_ ?_ _; rotate_left; (first | omega | (simp <;> omega))) | exact Below.refl _ _ | assumption))⟩

theorem conv_one (W : World) (bb : Nat) (c : UInt8) (h : W.cell? ⟨bb, 0, none⟩ = some (.int .u8 (c.toNat : Int))) : (convert 66 9 (.slice (some ⟨bb, 0, none⟩) 1 1)).run Tryz.prog W = .ok (.string (S [c])) W :=
  run_convert_bytes_back (P := Tryz.prog) W 66 9 5 ⟨bb, 0, none⟩ 1 [c] Tryz.underlying66 Tryz.underlying5 Tryz.underlying9 (fun j hj => by
    have : j = 0 := by simp at hj; omega
    subst this
    rw [Lib.add_plain]; simp [h])

set_option maxHeartbeats 800000 in
theorem refLower (l : List UInt8) (hl : l.length ≤ 4611686018427387903) (w : World) : Calls Tryz.prog 50 #[.string (S l)] w fun e w' => e = .returned (.string (S (lower l))) ∧ Below w.heap.size w w' := by
  go_enter Tryz.func50, Tryz.ntmps50
  go_wp2
  simp only [mk_S]
  go_loopw [3, 4] (fun ov iv wr => ∃ k : Nat, k ≤ l.length ∧ ov = .string (S (lower (l.take k))) ∧ iv = .int .i64 k ∧ Below w.heap.size w wr) (fun _ iv _ => l.length - (intOf iv).toNat)
  case atStart => exact ⟨0, Nat.zero_le _, rfl, rfl, by (repeat (first | with_reducible exact Below.refl _ _ | with_reducible assumption | with_reducible refine Below.drew ?_ | (with_reducible refine Below.setCell ?_ ?_ _; rotate_left; (first | omega | (simp <;> omega))) | (with_reducible refine Below.alloc ?_ ?_ _; rotate_left; (first | omega | (simp <;> omega))) | exact Below.refl _ _ | assumption))⟩
  case round =>
    obtain ⟨k, hk, rfl, rfl, hB⟩ := hrel
    have hzr := hB.size
    by_cases hlt : k < l.length
    · have hbk : bAt l k = (l[k].toNat : Int) := bAt_eq hlt
      obtain ⟨c, hc⟩ : ∃ c, l[k] = c := ⟨_, rfl⟩
      rw [hc] at hbk
      have hlen : (lower (l.take k)).length + 1 ≤ 9223372036854775807 := by rw [lower_len]; simp; omega
      have htk : lower (l.take (k + 1)) = lower (l.take k) ++ [lowB c] := by
        unfold lower
        rw [List.take_succ_eq_append_getElem hlt, List.map_append, hc]; rfl
      obtain ⟨g, hg⟩ : ∃ g, lower (l.take k) = g := ⟨_, rfl⟩
      rw [hg] at hlen htk ⊢
      have HTK := Lib.hid htk
      clear htk hg hc
      have hc256 := c.toNat_lt
      have hcc := fun W bb => conv_one W bb (lowB c)
      by_cases hlow : 65 ≤ c.toNat ∧ c.toNat ≤ 90
      · have hui := lowB_great hlow
        obtain ⟨h1, h2⟩ := hlow
        rw [hui] at hcc
        go_wp2
        go_roundw
        case rel => exact ⟨k + 1, by omega, by rw [HTK.out], by go_num, by (repeat (first | with_reducible exact Below.refl _ _ | with_reducible assumption | with_reducible refine Below.drew ?_ | (with_reducible refine Below.setCell ?_ ?_ _; rotate_left; (first | omega | (simp <;> omega))) | (with_reducible refine Below.alloc ?_ ?_ _; rotate_left; (first | omega | (simp <;> omega))) | exact Below.refl _ _ | assumption))⟩
        case measure => simp [intOf]; omega
      · have hui := lowB_other hlow
        rw [hui] at hcc
        rw [hui] at HTK
        rcases (by omega : c.toNat < 65 ∨ 90 < c.toNat) with hg1 | hg1
        all_goals
          go_wp2
          go_roundw
          case rel => exact ⟨k + 1, by omega, by rw [HTK.out], by go_num, by (repeat (first | with_reducible exact Below.refl _ _ | with_reducible assumption | with_reducible refine Below.drew ?_ | (with_reducible refine Below.setCell ?_ ?_ _; rotate_left; (first | omega | (simp <;> omega))) | (with_reducible refine Below.alloc ?_ ?_ _; rotate_left; (first | omega | (simp <;> omega))) | exact Below.refl _ _ | assumption))⟩
          case measure => simp [intOf]; omega
    · obtain rfl : k = l.length := by omega
      rw [List.take_length]
      go_wp2
      go_ret
      exact ⟨rfl, by (repeat (first | with_reducible exact Below.refl _ _ | with_reducible assumption | with_reducible refine Below.drew ?_ | (with_reducible refine Below.setCell ?_ ?_ _; rotate_left; (first | omega | (simp <;> omega))) | (with_reducible refine Below.alloc ?_ ?_ _; rotate_left; (first | omega | (simp <;> omega))) | exact Below.refl _ _ | assumption))⟩

set_option maxHeartbeats 400000 in
theorem textSame (l m : List UInt8) (hl : l.length ≤ 9223372036854775807) (hm : m.length ≤ 9223372036854775807) (w : World) : Calls Tryz.prog 39 #[.string (S l), .string (S m)] w fun e w' => e = .returned (.bool (lower l == lower m)) ∧ Below w.heap.size w w' := by
  have C1 := Lib.hid (fun W => textLower l hl W)
  have C2 := Lib.hid (fun W => textLower m hm W)
  go_enter Tryz.func39, Tryz.ntmps39
  go_wp2_with fail
  refine (C1.out _).mono ?_
  rintro e w1 ⟨rfl, hb1⟩
  go_wp2_with fail
  refine (C2.out _).mono ?_
  rintro e w2 ⟨rfl, hb2⟩
  have hb := hb1.trans (hb2.mono hb1.size)
  go_wp2
  go_ret
  exact ⟨by rfl, hb⟩
end Go.Proofs.YtgjemgilanhdiaaGreatDoor
namespace Go.Proofs.YtgjemgilanhdiaaGreatDoor
open Go.RowKit Go.Sort Go.Shelf
set_option linter.unusedVariables false

def decV (n : Nat) : Nat := if 48 ≤ n then n - 48 else n + 208
def hexV (n : Nat) : Nat := if 48 ≤ n ∧ n ≤ 57 then n - 48 else if 65 ≤ n ∧ n ≤ 70 then n - 55 else if 97 ≤ n ∧ n ≤ 102 then n - 87 else 16
def refV (n : Nat) : Nat := if 48 ≤ n ∧ n ≤ 57 then n - 48 else if 65 ≤ n ∧ n ≤ 70 then n - 55 else if 97 ≤ n ∧ n ≤ 102 then n - 87 else 99
def valN (v : Nat → Nat) (b : Nat) (l : List UInt8) : Nat := l.foldl (fun n c => n * b + v c.toNat) 0
def badN (v : Nat → Nat) (b : Nat) (l : List UInt8) : Bool := l.any fun c => decide (b ≤ v c.toNat)
def readN (v : Nat → Nat) (b : Nat) (l : List UInt8) : Nat × Nat :=
  if l = [] ∨ badN v b l = true then (0, 10) else if 1099511627776 < valN v b l then (0, 2) else (valN v b l, 0)

theorem valN_snoc (v : Nat → Nat) (b : Nat) (l : List UInt8) (c : UInt8) : valN v b (l ++ [c]) = valN v b l * b + v c.toNat := by simp [valN]
theorem badN_snoc (v : Nat → Nat) (b : Nat) (l : List UInt8) (c : UInt8) : badN v b (l ++ [c]) = (badN v b l || decide (b ≤ v c.toNat)) := by simp [badN]
theorem badN_at {v : Nat → Nat} {b : Nat} {l : List UInt8} {k : Nat} (h : k < l.length) (hb : b ≤ v l[k].toNat) : badN v b l = true := by
  unfold badN
  rw [List.any_eq_true]
  exact ⟨l[k], List.getElem_mem h, by simpa using hb⟩

theorem step_over {n b d q V M : Nat} {lg : Bool} (hb : 1 ≤ b) (hq : n * b = q) (hl : lg = decide (M < V)) (hv : lg = false → n = V) :
    (M < q + d → M < V * b + d) ∧ (q + d ≤ M → lg = decide (M < V * b + d) ∧ (lg = false → q + d = V * b + d)) := by
  cases lg with
  | false =>
    have e := hv rfl
    subst e
    rw [hq]
    exact ⟨id, fun h => ⟨by symm; rw [decide_eq_false_iff_not]; omega, fun _ => rfl⟩⟩
  | true =>
    have h1 : M < V := by simpa using hl.symm
    have h2 : V ≤ V * b := Nat.le_mul_of_pos_right V hb
    exact ⟨fun _ => by omega, fun _ => ⟨by symm; rw [decide_eq_true_iff]; omega, fun h => by cases h⟩⟩
theorem readN_long {v : Nat → Nat} {b : Nat} {l : List UInt8} (h0 : l ≠ []) (hb : badN v b l = false) (h : 1099511627776 < valN v b l) : readN v b l = (0, 2) := by
  unfold readN
  rw [if_neg (by simp [h0, hb]), if_pos h]
theorem readN_ok {v : Nat → Nat} {b : Nat} {l : List UInt8} (h0 : l ≠ []) (hb : badN v b l = false) (h : ¬ 1099511627776 < valN v b l) : readN v b l = (valN v b l, 0) := by
  unfold readN
  rw [if_neg (by simp [h0, hb]), if_neg h]
theorem readN_bad {v : Nat → Nat} {b : Nat} {l : List UInt8} (hb : badN v b l = true) : readN v b l = (0, 10) := by
  unfold readN
  rw [if_pos (Or.inr hb)]

theorem dec_call (W : World) (n : Nat) (hn : n < 256) : Calls Tryz.prog 94 #[.int .u8 n] W fun e w' => e = .returned (.int .u64 (decV n)) ∧ w' = W := by
  have h1 : IntKind.u8.wrap ((n : Int) - 48) = (decV n : Int) := by
    unfold decV
    rw [IntKind.wrap_u8]
    split <;> omega
  have h2 : IntKind.u64.wrap (decV n : Int) = (decV n : Int) := by
    have : decV n < 256 := by unfold decV; split <;> omega
    rw [IntKind.wrap_u64]; omega
  go_enter Tryz.func94, Tryz.ntmps94
  go_wp2
  go_ret
  exact ⟨rfl, rfl⟩

set_option maxHeartbeats 800000 in
set_option maxRecDepth 100000 in
theorem read64 (g : Nat) (v : Nat → Nat) (b : Nat) (hb1 : 1 ≤ b) (hb2 : b ≤ 16) (hv : ∀ n, n < 256 → v n < 256)
    (eg : ∀ args w, (callFunc g args).run Tryz.prog w = .ok (.enter g args) w)
    (hcl : ∀ W (n : Nat), n < 256 → Calls Tryz.prog g #[.int .u8 n] W fun e w' => e = .returned (.int .u64 (v n)) ∧ w' = W)
    (l : List UInt8) (hl : l.length ≤ 4611686018427387903) (w : World) :
    Calls Tryz.prog 93 #[.string (S l), .int .u64 b, .func (.func g) #[] #[]] w fun e w' =>
      e = .returned (.tuple #[.int .u64 (readN v b l).1, .int .i64 (readN v b l).2]) ∧ w' = w := by
  have HC := Lib.hid hcl
  clear hcl
  by_cases h0 : l = []
  · subst h0
    have e1 : readN v b [] = (0, 10) := by simp [readN]
    go_enter Tryz.func93, Tryz.ntmps93
    go_wp2
    go_ret2
    rw [e1]
    exact ⟨rfl, rfl⟩
  have hne : l.isEmpty = false := by
    cases l with
    | nil => exact absurd rfl h0
    | cons a t => rfl
  have HN := Lib.hid h0
  clear h0
  go_enter Tryz.func93, Tryz.ntmps93
  go_wp2
  go_loop [8, 9, 17] (fun nv lv iv => ∃ k n : Nat, ∃ lg : Bool, k ≤ l.length ∧ nv = .int .u64 n ∧ lv = .bool lg ∧ iv = .int .i64 k ∧ n ≤ 1099511627776 ∧ badN v b (l.take k) = false ∧
      lg = decide (1099511627776 < valN v b (l.take k)) ∧ (lg = false → n = valN v b (l.take k))) (fun _ _ iv => l.length - (intOf iv).toNat)
  case atStart => exact ⟨0, 0, false, Nat.zero_le _, rfl, rfl, rfl, by omega, rfl, by simp [valN], fun _ => rfl⟩
  case round =>
    obtain ⟨k, n, lg, hk, rfl, rfl, rfl, hn, hbad, hlg, hval⟩ := hrel
    by_cases hlt : k < l.length
    · have hbk : bAt l k = (l[k].toNat : Int) := bAt_eq hlt
      obtain ⟨m, hm⟩ : ∃ m, l[k].toNat = m := ⟨_, rfl⟩
      have hm256 : m < 256 := by rw [← hm]; exact l[k].toNat_lt
      have hvm := hv m hm256
      rw [hm] at hbk
      have hcall := HC.out w m hm256
      have htk : valN v b (l.take (k + 1)) = valN v b (l.take k) * b + v m := by
        rw [List.take_succ_eq_append_getElem hlt, valN_snoc, hm]
      have htb : badN v b (l.take (k + 1)) = (badN v b (l.take k) || decide (b ≤ v m)) := by
        rw [List.take_succ_eq_append_getElem hlt, badN_snoc, hm]
      have hbd : b ≤ v m → badN v b l = true := fun h => badN_at hlt (by rw [hm]; exact h)
      obtain ⟨d, hd⟩ : ∃ d, v m = d := ⟨_, rfl⟩
      rw [hd] at hcall hvm htk htb hbd
      have HT := Lib.hid htk
      have HTB := Lib.hid htb
      have HB := Lib.hid hbad
      have HL := Lib.hid hlg
      have HV := Lib.hid hval
      have HBD := Lib.hid hbd
      have HD := Lib.hid hd
      clear htk htb hbad hlg hval hm hd hbd
      have hmul : n * b ≤ 1099511627776 * 16 := Nat.mul_le_mul hn hb2
      obtain ⟨q, hq⟩ : ∃ q, n * b = q := ⟨_, rfl⟩
      have hqi : (n : Int) * (b : Int) = (q : Int) := by rw [← hq]; simp
      rw [hq] at hmul
      by_cases hge : b ≤ d
      · go_wp2_with (go_at_fn g; refine hcall.mono ?_; rintro e w' ⟨rfl, rfl⟩)
        go_ret2
        have e1 : readN v b l = (0, 10) := by unfold readN; rw [if_pos (Or.inr (HBD.out hge))]
        rw [e1]
        exact ⟨rfl, rfl⟩
      · have hbad2 : badN v b (l.take (k + 1)) = false := by rw [HTB.out, HB.out]; simp; omega
        by_cases hgt : 1099511627776 < q + d
        · go_wp2_with (go_at_fn g; refine hcall.mono ?_; rintro e w' ⟨rfl, rfl⟩)
          go_round
          case rel =>
            refine ⟨k + 1, 0, true, by omega, rfl, rfl, by go_num, by omega, hbad2, ?_, fun h => by cases h⟩
            rw [HT.out]; symm; rw [decide_eq_true_iff]
            exact (step_over hb1 hq HL.out HV.out).1 hgt
          case measure => simp [intOf]; omega
        · go_wp2_with (go_at_fn g; refine hcall.mono ?_; rintro e w' ⟨rfl, rfl⟩)
          go_round
          case rel =>
            obtain ⟨s1, s2⟩ := (step_over hb1 hq HL.out HV.out).2 (Nat.le_of_not_lt hgt)
            refine ⟨k + 1, q + d, lg, by omega, by go_num, rfl, by go_num, by omega, hbad2, ?_, ?_⟩
            · rw [HT.out]; exact s1
            · rw [HT.out]; exact s2
          case measure => simp [intOf]; omega
    · have hkl : k = l.length := by omega
      subst hkl
      rw [List.take_length] at hbad hlg hval
      cases lg with
      | true =>
        have e1 : readN v b l = (0, 2) := readN_long HN.out hbad (by simpa using hlg.symm)
        clear hlg hval hbad
        go_wp2
        go_ret2
        exact ⟨rfl, rfl⟩
      | false =>
        have e1 : readN v b l = (n, 0) := by
          rw [readN_ok HN.out hbad (by simpa using hlg.symm), hval rfl]
        clear hlg hval hbad
        go_wp2
        go_ret2
        exact ⟨rfl, rfl⟩

theorem decV_lt (n : Nat) (h : n < 256) : decV n < 256 := by unfold decV; split <;> omega
theorem hexV_lt (n : Nat) (h : n < 256) : hexV n < 256 := by unfold hexV; split <;> (try split) <;> (try split) <;> omega

theorem readDec (l : List UInt8) (hl : l.length ≤ 4611686018427387903) (w : World) : Calls Tryz.prog 71 #[.string (S l)] w fun e w' =>
      e = .returned (.tuple #[.int .u64 (readN decV 10 l).1, .int .i64 (readN decV 10 l).2]) ∧ w' = w := by
  have hc := read64 94 decV 10 (by omega) (by omega) decV_lt (enters_of Tryz.func94 (by kernel_rfl) rfl) dec_call l hl w
  go_enter Tryz.func71, Tryz.ntmps71
  go_wp2_with (go_at_call 93; refine hc.mono ?_; rintro e w' ⟨rfl, rfl⟩)
  go_ret2
  exact ⟨rfl, rfl⟩
theorem readN_le (v : Nat → Nat) (b : Nat) (l : List UInt8) : (readN v b l).1 ≤ 1099511627776 := by
  unfold readN
  split
  · exact Nat.zero_le _
  · split
    · exact Nat.zero_le _
    · show valN v b l ≤ _; omega
end Go.Proofs.YtgjemgilanhdiaaGreatDoor
