/- The set of bytes that no text has; text.Unquote: the walks. text.Unquote: the walk. -/
import Derived.Test.YtenflcaalckdfaaGreatDoorVv7
import Derived.Test.YtenflcaalckdfaaGreatDoorVv5
import Derived.Test.YtenflcaalckdfaaGreatDoorVv11
namespace Go.Proofs.YtenflcaalckdfaaGreatDoor
open Go.RowKit Go.Sort Go.Shelf
set_option linter.unusedVariables false

def falsesB : Array Value := Array.replicate 256 (.bool false)
theorem zeroB (w : World) : (zeroValue 149).run Tryz.prog w = .ok (.agg falsesB) w := by kernel_rfl
theorem falsesB_at (j : Nat) (h : j < 256) : falsesB[j]? = some (.bool false) := by
  unfold falsesB; simp [h]

set_option maxHeartbeats 1600000 in
set_option maxRecDepth 100000 in
theorem controls_any (w : World) : Calls Tryz.prog 128 #[] w fun e w' => e = .returned (.pointer (some ⟨w.heap.size, 0, none⟩)) ∧ Below w.heap.size w w' ∧
    w.heap.size < w'.heap.size ∧ ∀ c : UInt8, w'.cell? ⟨w.heap.size, c.toNat, none⟩ = some (.bool (ctlB c)) := by
  have hz := zeroB
  go_enter Tryz.func128, Tryz.ntmps128
  go_wp2
  go_loopw [3] (fun iv wr => ∃ k : Nat, iv = .int .i64 k ∧ k ≤ 256 ∧ (∀ j, j < 256 → wr.cell? ⟨w.heap.size, j, none⟩ = some (.bool (if j < k then ctlB (UInt8.ofNat j) else false)) ∧ wr.frozen? ⟨w.heap.size, j, none⟩ = false) ∧
      w.heap.size < wr.heap.size ∧ Below w.heap.size w wr) (fun iv _ => 256 - (intOf iv).toNat)
  case atStart => exact ⟨0, rfl, Nat.zero_le _, fun j hj => ⟨by rw [World.cell?_alloc_new, falsesB_at j hj]; simp, by simp⟩, by simp, by (repeat (first | with_reducible exact Below.refl _ _ | with_reducible assumption | with_reducible refine Below.drew ?_ | (with_reducible refine Below.setCell ?_ ?_ _; rotate_left; (first | omega | (simp <;> omega))) | (with_reducible refine Below.alloc ?_ ?_ _; rotate_left; (first | omega | (simp <;> omega))) | exact Below.refl _ _ | assumption))⟩
  case round =>
    obtain ⟨k, rfl, hk, hc, hlt, hB⟩ := hrel
    have HC := Lib.hid hc
    clear hc
    by_cases hkl : k < 256
    · obtain ⟨h1, h2⟩ := HC.out k hkl
      rw [if_neg (Nat.lt_irrefl k)] at h1
      have HN := Lib.hid (show ∀ b, b = ctlB (UInt8.ofNat k) → (∀ j, j < 256 → (wr.setCell ⟨w.heap.size, k, none⟩ (.bool b)).cell? ⟨w.heap.size, j, none⟩ = some (.bool (if j < k + 1 then ctlB (UInt8.ofNat j) else false)) ∧ (wr.setCell ⟨w.heap.size, k, none⟩ (.bool b)).frozen? ⟨w.heap.size, j, none⟩ = false) from fun b hb j h => by
        obtain ⟨e1, e2⟩ := HC.out j h
        refine ⟨?_, by simpa using e2⟩
        by_cases hj : j = k
        · subst hj; rw [if_pos (by omega), ← hb]; exact World.cell?_setCell_same _ _ _ h1
        · rw [World.cell?_setCell_other _ _ _ _ (by simp <;> omega), e1]
          by_cases hj2 : j < k
          · rw [if_pos hj2, if_pos (by omega)]
          · rw [if_neg hj2, if_neg (by omega)])
      have hw8 : (UInt8.ofNat k).toNat = k := by simp; omega
      have hw : ctlB (UInt8.ofNat k) = ((decide (k < 32) && !decide (k = 9)) || decide (k = 127)) := by
        unfold ctlB
        rw [hw8]
      have HW := Lib.hid hw
      clear hw hw8
      by_cases a1 : k < 32
      · have a1i : (k : Int) < 32 := by omega
        by_cases a2 : k = 9
        · have HE := Lib.hid (show false = ctlB (UInt8.ofNat k) by rw [HW.out]; simp [a2])
          have a2i : ((k : Int) != 9) = false := by simp; omega
          have a3i : ((k : Int) == 127) = false := by simp; omega
          clear a2
          go_wp2
          go_roundw
          case rel => exact ⟨k + 1, by go_num, by omega, HN.out _ HE.out, by simpa using hlt, by (repeat (first | with_reducible exact Below.refl _ _ | with_reducible assumption | with_reducible refine Below.drew ?_ | (with_reducible refine Below.setCell ?_ ?_ _; rotate_left; (first | omega | (simp <;> omega))) | (with_reducible refine Below.alloc ?_ ?_ _; rotate_left; (first | omega | (simp <;> omega))) | exact Below.refl _ _ | assumption))⟩
          case measure => simp [intOf]; omega
        · have HE := Lib.hid (show true = ctlB (UInt8.ofNat k) by rw [HW.out]; simp [a1, a2])
          have a2i : ((k : Int) != 9) = true := by simp; omega
          go_wp2
          go_roundw
          case rel => exact ⟨k + 1, by go_num, by omega, HN.out _ HE.out, by simpa using hlt, by (repeat (first | with_reducible exact Below.refl _ _ | with_reducible assumption | with_reducible refine Below.drew ?_ | (with_reducible refine Below.setCell ?_ ?_ _; rotate_left; (first | omega | (simp <;> omega))) | (with_reducible refine Below.alloc ?_ ?_ _; rotate_left; (first | omega | (simp <;> omega))) | exact Below.refl _ _ | assumption))⟩
          case measure => simp [intOf]; omega
      · have a1i : 32 ≤ (k : Int) := by omega
        by_cases a2 : k = 127
        · have HE := Lib.hid (show true = ctlB (UInt8.ofNat k) by rw [HW.out]; simp [a2])
          have a3i : ((k : Int) == 127) = true := by simp; omega
          clear a2
          go_wp2
          go_roundw
          case rel => exact ⟨k + 1, by go_num, by omega, HN.out _ HE.out, by simpa using hlt, by (repeat (first | with_reducible exact Below.refl _ _ | with_reducible assumption | with_reducible refine Below.drew ?_ | (with_reducible refine Below.setCell ?_ ?_ _; rotate_left; (first | omega | (simp <;> omega))) | (with_reducible refine Below.alloc ?_ ?_ _; rotate_left; (first | omega | (simp <;> omega))) | exact Below.refl _ _ | assumption))⟩
          case measure => simp [intOf]; omega
        · have HE := Lib.hid (show false = ctlB (UInt8.ofNat k) by rw [HW.out]; simp [a1, a2])
          have a3i : ((k : Int) == 127) = false := by simp; omega
          go_wp2
          go_roundw
          case rel => exact ⟨k + 1, by go_num, by omega, HN.out _ HE.out, by simpa using hlt, by (repeat (first | with_reducible exact Below.refl _ _ | with_reducible assumption | with_reducible refine Below.drew ?_ | (with_reducible refine Below.setCell ?_ ?_ _; rotate_left; (first | omega | (simp <;> omega))) | (with_reducible refine Below.alloc ?_ ?_ _; rotate_left; (first | omega | (simp <;> omega))) | exact Below.refl _ _ | assumption))⟩
          case measure => simp [intOf]; omega
    · obtain rfl : k = 256 := by omega
      go_wp2
      go_ret
      refine ⟨rfl, hB, hlt, fun c => ?_⟩
      rw [(HC.out c.toNat c.toNat_lt).1, if_pos c.toNat_lt]
      simp

theorem hasCtl_any (b : Nat) (c : UInt8) (W : World) (h : W.cell? ⟨b, c.toNat, none⟩ = some (.bool (ctlB c))) : Calls Tryz.prog 129 #[.pointer (some ⟨b, 0, none⟩), .int .u8 (c.toNat : Int)] W fun e w' => e = .returned (.bool (ctlB c)) ∧ w' = W := by
  have hc256 := c.toNat_lt
  go_enter Tryz.func129, Tryz.ntmps129
  go_wp2
  go_ret
  exact ⟨rfl, rfl⟩

set_option maxHeartbeats 800000 in
theorem some_any (g b : Nat) (eg : ∀ args w, (callFunc g args).run Tryz.prog w = .ok (.enter g args) w) (W : World)
    (hcl : ∀ c : UInt8, Calls Tryz.prog g #[.pointer (some ⟨b, 0, none⟩), .int .u8 (c.toNat : Int)] W fun e w' => e = .returned (.bool (ctlB c)) ∧ w' = W)
    (l : List UInt8) (hl : l.length ≤ 9223372036854775807) :
    Calls Tryz.prog 127 #[.string (S l), .pointer (some ⟨b, 0, none⟩), .func (.func g) #[] #[]] W fun e w' => e = .returned (.bool (l.any ctlB)) ∧ w' = W := by
  have HC := Lib.hid hcl
  clear hcl
  go_enter Tryz.func127, Tryz.ntmps127
  go_wp2
  go_loop [10] (fun iv => ∃ k : Nat, iv = .int .i64 k ∧ k ≤ l.length ∧ (l.take k).any ctlB = false) (fun iv => l.length - (intOf iv).toNat)
  case atStart => exact ⟨0, rfl, Nat.zero_le _, rfl⟩
  case round =>
    obtain ⟨k, rfl, hk, hall⟩ := hrel
    have HA := Lib.hid hall
    clear hall
    by_cases hlt : k < l.length
    · have hbk : bAt l k = (l[k].toNat : Int) := bAt_eq hlt
      have htk : (l.take (k + 1)).any ctlB = ctlB l[k] := by
        rw [List.take_succ_eq_append_getElem hlt, List.any_append, HA.out]; simp
      have hno : ctlB l[k] = true → l.any ctlB = true := fun h => by
        rw [List.any_eq_true]; exact ⟨_, List.getElem_mem hlt, h⟩
      obtain ⟨c, hc⟩ : ∃ c, l[k] = c := ⟨_, rfl⟩
      rw [hc] at hbk htk hno
      have hcall := HC.out c
      obtain ⟨v, hv⟩ : ∃ v, ctlB c = v := ⟨_, rfl⟩
      rw [hv] at hcall htk hno
      have HTK := Lib.hid htk
      have HNO := Lib.hid hno
      clear htk hno hv hc
      cases v with
      | false =>
        go_wp2_with (go_at_fn g; refine hcall.mono ?_; rintro e w' ⟨rfl, rfl⟩)
        go_round
        case rel => exact ⟨k + 1, by go_num, by omega, HTK.out⟩
        case measure => simp [intOf]; omega
      | true =>
        go_wp2_with (go_at_fn g; refine hcall.mono ?_; rintro e w' ⟨rfl, rfl⟩)
        go_ret
        exact ⟨by rw [HNO.out trivial]; rfl, rfl⟩
    · obtain rfl : k = l.length := by omega
      have h := HA.out
      rw [List.take_length] at h
      have H := Lib.hid h
      clear h
      go_wp2
      go_ret
      exact ⟨by rw [H.out]; rfl, rfl⟩
end Go.Proofs.YtenflcaalckdfaaGreatDoor
namespace Go.Proofs.YtenflcaalckdfaaGreatDoor
open Go.RowKit Go.Sort Go.Shelf
set_option linter.unusedVariables false

def unqG : Bool → List UInt8 → Option (List UInt8)
  | false, [] => some []
  | true, [] => none
  | true, c :: t => (unqG false t).map (c :: ·)
  | false, c :: t => if c = 34 then none else if c = 92 then unqG true t else (unqG false t).map (c :: ·)
def unqR (s : List UInt8) : Option (List UInt8) :=
  if s.length < 2 ∨ bAt s 0 ≠ 34 ∨ bAt s (s.length - 1) ≠ 34 ∨ s.any ctlB = true then none else unqG false ((s.take (s.length - 1)).drop 1)
def unqL (s : List UInt8) : List UInt8 := (unqR s).getD []
def unqE (s : List UInt8) : Int := if (unqR s).isSome then 0 else 11

theorem mid_cons {s : List UInt8} {j : Nat} (h : j < s.length - 1) : (s.take (s.length - 1)).drop j = (s[j]'(by omega)) :: (s.take (s.length - 1)).drop (j + 1) := by
  rw [List.drop_eq_getElem_cons (by rw [List.length_take]; omega)]
  congr 1
  rw [List.getElem_take]
theorem map_snoc (o : Option (List UInt8)) (out : List UInt8) (c : UInt8) : (o.map (c :: ·)).map (out ++ ·) = o.map ((out ++ [c]) ++ ·) := by
  cases o <;> simp
theorem textUnquote_short (s : List UInt8) (hs : s.length < 2) (w : World) : Calls Tryz.prog 101 #[.string (S s)] w fun e w' => e = .returned (.tuple #[.string (S []), .int .i64 11]) ∧ Below w.heap.size w w' := by
  have h1 : (s.length : Int) < 2 := by omega
  go_enter Tryz.func101, Tryz.ntmps101
  go_wp2
  go_ret2
  exact ⟨rfl, by (repeat (first | with_reducible exact Below.refl _ _ | with_reducible assumption | with_reducible refine Below.drew ?_ | (with_reducible refine Below.setCell ?_ ?_ _; rotate_left; (first | omega | (simp <;> omega))) | (with_reducible refine Below.alloc ?_ ?_ _; rotate_left; (first | omega | (simp <;> omega))) | exact Below.refl _ _ | assumption))⟩
theorem textUnquote_first (s : List UInt8) (hs : 2 ≤ s.length) (hm : s.length ≤ 1000000) (h : bAt s 0 ≠ 34) (w : World) : Calls Tryz.prog 101 #[.string (S s)] w fun e w' => e = .returned (.tuple #[.string (S []), .int .i64 11]) ∧ Below w.heap.size w w' := by
  have h1 : 2 ≤ (s.length : Int) := by omega
  have h0 : 0 < s.length := by omega
  have h2 : (bAt s 0 != 34) = true := by simpa using h
  clear h
  go_enter Tryz.func101, Tryz.ntmps101
  go_wp2
  go_ret2
  exact ⟨rfl, by (repeat (first | with_reducible exact Below.refl _ _ | with_reducible assumption | with_reducible refine Below.drew ?_ | (with_reducible refine Below.setCell ?_ ?_ _; rotate_left; (first | omega | (simp <;> omega))) | (with_reducible refine Below.alloc ?_ ?_ _; rotate_left; (first | omega | (simp <;> omega))) | exact Below.refl _ _ | assumption))⟩
theorem textUnquote_last (s : List UInt8) (hs : 2 ≤ s.length) (hm : s.length ≤ 1000000) (h : bAt s 0 = 34) (h' : bAt s (s.length - 1) ≠ 34) (w : World) : Calls Tryz.prog 101 #[.string (S s)] w fun e w' => e = .returned (.tuple #[.string (S []), .int .i64 11]) ∧ Below w.heap.size w w' := by
  have h1 : 2 ≤ (s.length : Int) := by omega
  have h0 : 0 < s.length := by omega
  obtain ⟨z, hz⟩ : ∃ z, bAt s (s.length - 1) = z := ⟨_, rfl⟩
  rw [hz] at h'
  have h2 : (z != 34) = true := by simpa using h'
  have hz2 : bAt s ((s.length : Int) - 1).toNat = z := by rw [← hz]; congr 1; omega
  clear h'
  go_enter Tryz.func101, Tryz.ntmps101
  go_wp2
  go_ret2
  exact ⟨rfl, by (repeat (first | with_reducible exact Below.refl _ _ | with_reducible assumption | with_reducible refine Below.drew ?_ | (with_reducible refine Below.setCell ?_ ?_ _; rotate_left; (first | omega | (simp <;> omega))) | (with_reducible refine Below.alloc ?_ ?_ _; rotate_left; (first | omega | (simp <;> omega))) | exact Below.refl _ _ | assumption))⟩

theorem someCtl (s : List UInt8) (hm : s.length ≤ 1000000) (w w1 : World) (h : ∀ c : UInt8, w1.cell? ⟨w.heap.size, c.toNat, none⟩ = some (.bool (ctlB c))) : Calls Tryz.prog 127 #[.string (S s), .pointer (some ⟨w.heap.size, 0, none⟩), .func (.func 129) #[] #[]] w1 fun e w' => e = .returned (.bool (s.any ctlB)) ∧ w' = w1 :=
  some_any 129 w.heap.size (enters_of Tryz.func129 (by kernel_rfl) rfl) w1 (fun c => hasCtl_any w.heap.size c w1 (h c)) s (by omega)

set_option maxHeartbeats 1600000 in
set_option maxRecDepth 100000 in
theorem textUnquote_main (s : List UInt8) (hs : 2 ≤ s.length) (hm : s.length ≤ 1000000) (h : bAt s 0 = 34) (h' : bAt s (s.length - 1) = 34) (w : World) : Calls Tryz.prog 101 #[.string (S s)] w fun e w' => e = .returned (.tuple #[.string (S (unqL s)), .int .i64 (unqE s)]) ∧ Below w.heap.size w w' := by
  have h1 : 2 ≤ (s.length : Int) := by omega
  have h0 : 0 < s.length := by omega
  have hmi : (s.length : Int) ≤ 1000000 := by omega
  have hz2 : bAt s ((s.length : Int) - 1).toNat = 34 := by rw [← h']; congr 1; omega
  have CO := Lib.hid (fun W => controls_any W)
  have SO := Lib.hid (fun W W1 hh => someCtl s hm W W1 hh)
  have hR : unqR s = if s.any ctlB = true then none else unqG false ((s.take (s.length - 1)).drop 1) := by
    unfold unqR
    simp only [h, h', ne_eq, not_true_eq_false, false_or, show ¬ s.length < 2 by omega]
  unfold unqL unqE
  obtain ⟨R, hRR⟩ : ∃ R, unqR s = R := ⟨_, rfl⟩
  rw [hRR] at hR ⊢
  clear hRR
  cases ha : s.any ctlB with
  | true =>
    rw [ha, if_pos rfl] at hR
    subst hR
    rw [ha] at SO
    clear ha
    go_enter Tryz.func101, Tryz.ntmps101
    go_wp2_with (first
      | (go_at_call 128; refine Calls.mono (CO.out _) ?_; rintro e w1 ⟨rfl, hb1, hl1, hc1⟩)
      | (go_at_call 127; refine Calls.mono (SO.out _ _ hc1) ?_; rintro e w' ⟨rfl, hw'⟩; obtain rfl := hw'.symm))
    go_ret2
    exact ⟨rfl, hb1⟩
  | false =>
    rw [ha, if_neg (by simp)] at hR
    rw [ha] at SO
    have HR := Lib.hid hR
    clear ha hR
    go_enter Tryz.func101, Tryz.ntmps101
    go_wp2_with (first
      | (go_at_call 128; refine Calls.mono (CO.out _) ?_; rintro e w1 ⟨rfl, hb1, hl1, hc1⟩)
      | (go_at_call 127; refine Calls.mono (SO.out _ _ hc1) ?_; rintro e w' ⟨rfl, hw'⟩; obtain rfl := hw'.symm; have HB1 := Lib.hid hb1; clear hb1 hc1))
    simp only [mk_S]
    go_loopw [5, 6] (fun ov iv wr => ∃ (i : Nat) (out : List UInt8), iv = .int .i64 i ∧ 1 ≤ i ∧ i ≤ s.length - 1 ∧ OwnsB wr w.heap.size ov out ∧ R = (unqG false ((s.take (s.length - 1)).drop i)).map (out ++ ·) ∧ out.length ≤ i ∧ Below w.heap.size w wr) (fun _ iv _ => s.length - (intOf iv).toNat)
    case atStart => exact ⟨1, [], rfl, Nat.le_refl _, by omega, OwnsB.nil _ _, by rw [HR.out]; simp, by simp, HB1.out⟩
    case round =>
      obtain ⟨i, out, rfl, hi0, hi, hown, hout, hol, hB⟩ := hrel
      have HO := Lib.hid hown
      have HBB := Lib.hid hB
      have HOU := Lib.hid hout
      have hz := hB.size
      clear hB hown hout
      by_cases hlt : i < s.length - 1
      · have hil : i < s.length := by omega
        have hii : (i : Int) < (s.length : Int) - 1 := by omega
        have hbi : bAt s i = (s[i].toNat : Int) := bAt_eq hil
        have hmid := mid_cons hlt
        obtain ⟨c, hc⟩ : ∃ c, s[i] = c := ⟨_, rfl⟩
        rw [hc] at hbi hmid
        have hstep := HOU.out
        rw [hmid] at hstep
        clear hmid hc
        by_cases h34 : c = 34
        · subst h34
          have hbj : bAt s i = 34 := hbi
          have hR2 : R = none := hstep
          subst hR2
          clear hstep hbi
          go_wp2
          go_ret2
          exact ⟨rfl, HBB.out⟩
        · have hn34 : ((c.toNat : Int) == 34) = false := by
            simp only [beq_eq_false_iff_ne, ne_eq]
            intro e
            exact h34 (UInt8.toNat.inj (Int.ofNat.inj e))
          by_cases h92 : c = 92
          · subst h92
            have hbj : bAt s i = 92 := hbi
            have hst2 : R = (unqG true ((s.take (s.length - 1)).drop (i + 1))).map (out ++ ·) := hstep
            clear hstep hbi hn34 h34
            by_cases hi2 : i + 1 < s.length - 1
            · rw [mid_cons hi2] at hst2
              have hbd : bAt s (i + 1) = ((s[i + 1]'(by omega)).toNat : Int) := bAt_eq (by omega)
              obtain ⟨d, hd⟩ : ∃ d, (s[i + 1]'(by omega)) = d := ⟨_, rfl⟩
              rw [hd] at hst2 hbd
              have HS := Lib.hid (show R = (unqG false ((s.take (s.length - 1)).drop (i + 2))).map ((out ++ [d]) ++ ·) by rw [← map_snoc]; exact hst2)
              have hne : ((i : Int) + 1 == (s.length : Int) - 1) = false := by simp; omega
              have hi1l : i + 1 < s.length := by omega
              clear hst2 hd
              go_wp2_with (at_builtin; refine wp_append_byte rfl _ _ rfl _ w.heap.size _ out d _ rfl (HO.out.below (by (repeat (first | with_reducible exact Below.refl _ _ | with_reducible assumption | with_reducible refine Below.drew ?_ | (with_reducible refine Below.setCell ?_ ?_ _; rotate_left; (first | omega | (simp <;> omega))) | (with_reducible refine Below.alloc ?_ ?_ _; rotate_left; (first | omega | (simp <;> omega))) | exact Below.refl _ _ | assumption)))) rfl _ rfl rfl (by omega) (by omega) ?_; intro v4 w4 hown4 hb4; have HO4 := Lib.hid hown4; have HB4 := Lib.hid hb4; clear hown4 hb4)
              go_roundw
              case rel => exact ⟨i + 2, out ++ [d], by go_num, by omega, by omega, HO4.out, HS.out, by simp; omega, HBB.out.trans HB4.out⟩
              case measure => simp [intOf]; omega
            · have hR2 : R = none := by
                rw [hst2, List.drop_of_length_le (by rw [List.length_take]; omega)]; rfl
              subst hR2
              have heq : ((i : Int) + 1 == (s.length : Int) - 1) = true := by simp; omega
              clear hst2
              go_wp2
              go_ret2
              exact ⟨rfl, HBB.out⟩
          · have hn92 : ((c.toNat : Int) == 92) = false := by
              simp only [beq_eq_false_iff_ne, ne_eq]
              intro e
              exact h92 (UInt8.toNat.inj (Int.ofNat.inj e))
            have HS := Lib.hid (show R = (unqG false ((s.take (s.length - 1)).drop (i + 1))).map ((out ++ [c]) ++ ·) by
              rw [← map_snoc, hstep]
              conv => lhs; unfold unqG
              rw [if_neg h34, if_neg h92])
            clear hstep h34 h92
            go_wp2_with (at_builtin; refine wp_append_byte rfl _ _ rfl _ w.heap.size _ out c _ rfl (HO.out.below (by (repeat (first | with_reducible exact Below.refl _ _ | with_reducible assumption | with_reducible refine Below.drew ?_ | (with_reducible refine Below.setCell ?_ ?_ _; rotate_left; (first | omega | (simp <;> omega))) | (with_reducible refine Below.alloc ?_ ?_ _; rotate_left; (first | omega | (simp <;> omega))) | exact Below.refl _ _ | assumption)))) rfl _ rfl rfl (by omega) (by omega) ?_; intro v4 w4 hown4 hb4; have HO4 := Lib.hid hown4; have HB4 := Lib.hid hb4; clear hown4 hb4)
            go_roundw
            case rel => exact ⟨i + 1, out ++ [c], by go_num, by omega, by omega, HO4.out, HS.out, by simp; omega, HBB.out.trans HB4.out⟩
            case measure => simp [intOf]; omega
      · have hie : i = s.length - 1 := by omega
        have hdr : (s.take (s.length - 1)).drop i = [] := List.drop_of_length_le (by rw [List.length_take]; omega)
        have hR2 := HOU.out
        rw [hdr] at hR2
        simp only [unqG, Option.map_some, List.append_nil] at hR2
        subst hR2
        have hcv := HO.out.text
        have hii : (s.length : Int) - 1 ≤ (i : Int) := by omega
        clear hdr hie
        go_wp2
        go_ret2
        exact ⟨rfl, HBB.out⟩

theorem textUnquote (s : List UInt8) (hm : s.length ≤ 1000000) (w : World) : Calls Tryz.prog 101 #[.string (S s)] w fun e w' => e = .returned (.tuple #[.string (S (unqL s)), .int .i64 (unqE s)]) ∧ Below w.heap.size w w' := by
  by_cases h1 : s.length < 2
  · have hR : unqR s = none := by unfold unqR; rw [if_pos (.inl h1)]
    unfold unqL unqE
    rw [hR]
    exact textUnquote_short s h1 w
  · by_cases h2 : bAt s 0 = 34
    · by_cases h3 : bAt s (s.length - 1) = 34
      · exact textUnquote_main s (by omega) hm h2 h3 w
      · have hR : unqR s = none := by unfold unqR; rw [if_pos (.inr (.inr (.inl h3)))]
        unfold unqL unqE
        rw [hR]
        exact textUnquote_last s (by omega) hm h2 h3 w
    · have hR : unqR s = none := by unfold unqR; rw [if_pos (.inr (.inl h2))]
      unfold unqL unqE
      rw [hR]
      exact textUnquote_first s (by omega) hm h2 w
end Go.Proofs.YtenflcaalckdfaaGreatDoor
