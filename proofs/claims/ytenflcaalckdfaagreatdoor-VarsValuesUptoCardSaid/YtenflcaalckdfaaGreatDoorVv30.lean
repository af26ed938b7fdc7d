/- The document's value of a digit and part of a query as it is meant: the walks. -/
import Derived.Test.YtenflcaalckdfaaGreatDoorVv7
namespace Go.Proofs.YtenflcaalckdfaaGreatDoor
open Go.RowKit Go.Sort Go.Shelf
set_option linter.unusedVariables false

set_option maxRecDepth 100000 in
theorem refValue (c : UInt8) (w : World) : Calls Tryz.prog 111 #[.int .u8 (c.toNat : Int)] w fun e w' => e = .returned (.int .i64 (valR c)) ∧ w' = w := by
  have hc256 := c.toNat_lt
  unfold valR
  obtain ⟨n, hn⟩ : ∃ n, c.toNat = n := ⟨_, rfl⟩
  rw [hn] at hc256 ⊢
  clear hn
  have n0 : (0 : Int) ≤ n := by omega
  have n256 : (n : Int) < 256 := by omega
  by_cases h1 : 48 ≤ n ∧ n ≤ 57
  · rw [if_pos h1]
    have a1 : (48 : Int) ≤ n := by omega
    have a2 : (n : Int) ≤ 57 := by omega
    have hw : IntKind.u8.wrap ((n : Int) - 48) = (n : Int) - 48 := by (first | rw [IntKind.wrap_u8] | simp only [IntKind.wrap, IntKind.bits, IntKind.signed]) <;> (try simp) <;> omega
    go_enter Tryz.func111, Tryz.ntmps111
    go_wp2
    go_ret
    exact ⟨ret_int (by omega), rfl⟩
  · rw [if_neg h1]
    by_cases h2 : 97 ≤ n ∧ n ≤ 102
    · rw [if_pos h2]
      have a1 : (48 : Int) ≤ n := by omega
      have a2 : (57 : Int) < n := by omega
      have a3 : (97 : Int) ≤ n := by omega
      have a4 : (n : Int) ≤ 102 := by omega
      have hw : IntKind.u8.wrap ((n : Int) - 97) = (n : Int) - 97 := by (first | rw [IntKind.wrap_u8] | simp only [IntKind.wrap, IntKind.bits, IntKind.signed]) <;> (try simp) <;> omega
      go_enter Tryz.func111, Tryz.ntmps111
      go_wp2
      go_ret
      exact ⟨ret_int (by omega), rfl⟩
    · rw [if_neg h2]
      by_cases h3 : 65 ≤ n ∧ n ≤ 70
      · rw [if_pos h3]
        have a1 : (48 : Int) ≤ n := by omega
        have a2 : (57 : Int) < n := by omega
        have a3 : (n : Int) < 97 := by omega
        have a4 : (65 : Int) ≤ n := by omega
        have a5 : (n : Int) ≤ 70 := by omega
        have hw : IntKind.u8.wrap ((n : Int) - 65) = (n : Int) - 65 := by (first | rw [IntKind.wrap_u8] | simp only [IntKind.wrap, IntKind.bits, IntKind.signed]) <;> (try simp) <;> omega
        go_enter Tryz.func111, Tryz.ntmps111
        go_wp2
        go_ret
        exact ⟨ret_int (by omega), rfl⟩
      · rw [if_neg h3]
        have hh : (n : Int) < 48 ∧ (n : Int) < 97 ∧ (n : Int) < 65 ∨ (48 : Int) ≤ n ∧ (57 : Int) < n ∧ (n : Int) < 97 ∧ (n : Int) < 65 ∨ (48 : Int) ≤ n ∧ (57 : Int) < n ∧ (n : Int) < 97 ∧ (65 : Int) ≤ n ∧ (70 : Int) < n ∨ (48 : Int) ≤ n ∧ (57 : Int) < n ∧ (97 : Int) ≤ n ∧ (102 : Int) < n ∧ (65 : Int) ≤ n ∧ (70 : Int) < n := by omega
        clear h1 h2 h3
        rcases hh with ⟨a1, a2, a3⟩ | ⟨a1, a2, a3, a4⟩ | ⟨a1, a2, a3, a4, a5⟩ | ⟨a1, a2, a3, a4, a5, a6⟩
        all_goals
          go_enter Tryz.func111, Tryz.ntmps111
          go_wp2
          go_ret
          exact ⟨rfl, rfl⟩

theorem plainL_plus (t : List UInt8) : plainL (43 :: t) = 32 :: plainL t := rfl
theorem plainL_code {a b : UInt8} (t : List UInt8) (h1 : 0 ≤ hexV a) (h2 : 0 ≤ hexV b) : plainL (37 :: a :: b :: t) = codeB a b :: plainL t := by
  unfold plainL
  conv => lhs; unfold plainG
  rw [if_neg (by decide), if_pos ⟨rfl, by show (decide (0 ≤ hexV _) && decide (0 ≤ hexV _)) = true; rw [decide_eq_true h1, decide_eq_true h2]; rfl⟩]
  rfl
theorem plainL_one {c : UInt8} (t : List UInt8) (h : c ≠ 43) (h2 : c = 37 → codeOk t = false) : plainL (c :: t) = c :: plainL t := by
  unfold plainL
  conv => lhs; unfold plainG
  rw [if_neg h, if_neg (fun e => by rw [h2 e.1] at e; cases e.2)]

inductive Plain : List UInt8 → Prop
  | nil : Plain []
  | plus (t) : Plain (43 :: t)
  | code (a b t) (h1 : 0 ≤ hexV a) (h2 : 0 ≤ hexV b) : Plain (37 :: a :: b :: t)
  | bad1 (a b t) (h1 : hexV a = -1) : Plain (37 :: a :: b :: t)
  | bad2 (a b t) (h1 : 0 ≤ hexV a) (h2 : hexV b = -1) : Plain (37 :: a :: b :: t)
  | short0 : Plain [37]
  | short1 (a) : Plain [37, a]
  | other (c t) (h : c ≠ 43) (h2 : c ≠ 37) : Plain (c :: t)
theorem plain_cases (l : List UInt8) : Plain l := by
  match l with
  | [] => exact .nil
  | c :: t =>
    by_cases h : c = 43
    · subst h; exact .plus t
    · by_cases h2 : c = 37
      · subst h2
        match t with
        | [] => exact .short0
        | [a] => exact .short1 a
        | a :: b :: t =>
          rcases hexV_range a with h1 | ⟨h1, _⟩
          · exact .bad1 a b t h1
          · rcases hexV_range b with h3 | ⟨h3, _⟩
            · exact .bad2 a b t h1 h3
            · exact .code a b t h1 h3
      · exact .other c t h h2

set_option maxHeartbeats 3200000 in
set_option maxRecDepth 100000 in
theorem refPlain (s : List UInt8) (hs : s.length ≤ 1000000) (w : World) : Calls Tryz.prog 75 #[.string (S s)] w fun e w' => e = .returned (.string (S (plainL s))) ∧ Below w.heap.size w w' := by
  obtain ⟨R, hR⟩ : ∃ R, plainL s = R := ⟨_, rfl⟩
  rw [hR]
  have HV := Lib.hid (fun c W => refValue c W)
  have hs1 : (s.length : Int) ≤ 1000000 := by omega
  have HR := Lib.hid hR
  clear hR
  go_enter Tryz.func75, Tryz.ntmps75
  go_wp2
  simp only [mk_S]
  go_loopw [0, 3] (fun sv ov wr => ∃ (t out : List UInt8), sv = .string (S t) ∧ ov = .string (S out) ∧ out ++ plainL t = R ∧ t.length + out.length ≤ s.length ∧ Below w.heap.size w wr) (fun sv _ _ => strLen sv)
  case atStart => exact ⟨s, [], rfl, rfl, HR.out, by simp, Below.refl _ _⟩
  case round =>
    obtain ⟨t, out, rfl, rfl, hout, hlen, hB⟩ := hrel
    have HB := Lib.hid hB
    have hz := hB.size
    clear hB
    rcases plain_cases t with _ | ⟨t⟩ | ⟨a, b, t, h1, h2⟩ | ⟨a, b, t, h1⟩ | ⟨a, b, t, h1, h2⟩ | _ | ⟨a⟩ | ⟨c, t, h, h2⟩
    case nil =>
      obtain rfl : out = R := by rw [← hout]; simp [plainL, plainG]
      clear hout
      go_wp2
      go_ret
      exact ⟨rfl, HB.out⟩
    case plus =>
      have hb0 : bAt (43 :: t) 0 = 43 := rfl
      have HO := Lib.hid (show (out ++ [32]) ++ plainL t = R by rw [← hout, plainL_plus]; simp)
      simp only [List.length_cons] at hlen
      clear hout
      go_wp2
      go_roundw
      case rel => exact ⟨t, out ++ [32], by simp, by simp, HO.out, by simp; omega, by (repeat (first | with_reducible exact Below.refl _ _ | with_reducible assumption | with_reducible refine Below.drew ?_ | (with_reducible refine Below.setCell ?_ ?_ _; rotate_left; (first | omega | (simp <;> omega))) | (with_reducible refine Below.alloc ?_ ?_ _; rotate_left; (first | omega | (simp <;> omega))) | exact Below.refl _ _ | assumption))⟩
      case measure => simp [strLen_S]
    case code =>
      have hb0 : bAt (37 :: a :: b :: t) 0 = 37 := rfl
      have hb1 : bAt (37 :: a :: b :: t) 1 = (a.toNat : Int) := rfl
      have hb2 : bAt (37 :: a :: b :: t) 2 = (b.toNat : Int) := rfl
      have HO := Lib.hid (show (out ++ [codeB a b]) ++ plainL t = R by rw [← hout, plainL_code t h1 h2]; simp)
      have VA := fun W => HV.out a W
      have VB := fun W => HV.out b W
      obtain ⟨hcz, hcm⟩ := codeB_nat h1 h2
      rcases hexV_range a with h | ⟨_, ha15⟩
      · omega
      rcases hexV_range b with h | ⟨_, hb15⟩
      · omega
      rw [valR_eq, if_pos h1] at VA
      rw [valR_eq, if_pos h2] at VB
      obtain ⟨va, hva⟩ : ∃ y, hexV a = y := ⟨_, rfl⟩
      obtain ⟨vb, hvb⟩ : ∃ y, hexV b = y := ⟨_, rfl⟩
      rw [hva] at VA hcz hcm h1 ha15
      rw [hvb] at VB hcz hcm h2 hb15
      simp only [List.length_cons] at hlen
      have l2 : 2 < (t.length : Int) + 1 + 1 + 1 := by omega
      have va16 : va < 16 := by omega
      have vb16 : vb < 16 := by omega
      have hw1 : IntKind.i64.wrap (16 * va) = 16 * va := by (first | rw [IntKind.wrap_i64] | simp only [IntKind.wrap, IntKind.bits, IntKind.signed]) <;> (try simp) <;> omega
      have hw2 : IntKind.i64.wrap (16 * va + vb) = 16 * va + vb := by (first | rw [IntKind.wrap_i64] | simp only [IntKind.wrap, IntKind.bits, IntKind.signed]) <;> (try simp) <;> omega
      have hw5 : IntKind.u8.wrap (16 * va + vb) = ((codeB a b).toNat : Int) := by rw [hcz]; (first | rw [IntKind.wrap_u8] | simp only [IntKind.wrap, IntKind.bits, IntKind.signed]) <;> (try simp) <;> omega
      have CV := fun W bb => conv_one W bb (codeB a b)
      obtain ⟨d, hd⟩ : ∃ d, codeB a b = d := ⟨_, rfl⟩
      rw [hd] at HO CV hw5
      have VA := Lib.hid VA
      have VB := Lib.hid VB
      clear hout hcz hcm hva hvb hd
      go_wp2_with (first
        | (go_at_call 111; with_reducible refine Calls.mono (VA.out _) ?_; rintro e w' ⟨rfl, hw'⟩; obtain rfl := hw'.symm)
        | (go_at_call 111; with_reducible refine Calls.mono (VB.out _) ?_; rintro e w' ⟨rfl, hw'⟩; obtain rfl := hw'.symm)
        | fail)
      go_region_with (first
        | (go_at_call 111; with_reducible refine Calls.mono (VA.out _) ?_; rintro e w' ⟨rfl, hw'⟩; obtain rfl := hw'.symm)
        | (go_at_call 111; with_reducible refine Calls.mono (VB.out _) ?_; rintro e w' ⟨rfl, hw'⟩; obtain rfl := hw'.symm))
      all_goals
        go_wp2
        go_roundw
        case rel => exact ⟨t, out ++ [d], by simp, by simp, HO.out, by simp; omega, Below.trans HB.out (Below.mono (show Below wr.heap.size wr _ by (repeat (first | with_reducible exact Below.refl _ _ | with_reducible assumption | with_reducible refine Below.drew ?_ | (with_reducible refine Below.setCell ?_ ?_ _; rotate_left; (first | omega | (simp <;> omega))) | (with_reducible refine Below.alloc ?_ ?_ _; rotate_left; (first | omega | (simp <;> omega))) | exact Below.refl _ _ | assumption))) hz)⟩
        case measure => simp [strLen_S]; omega
    case bad1 =>
      have hb0 : bAt (37 :: a :: b :: t) 0 = 37 := rfl
      have hb1 : bAt (37 :: a :: b :: t) 1 = (a.toNat : Int) := rfl
      have HO := Lib.hid (show (out ++ [37]) ++ plainL (a :: b :: t) = R by rw [← hout, plainL_one (c := 37) (a :: b :: t) (by decide) (fun _ => by show (decide (0 ≤ hexV a) && _) = false; rw [h1]; rfl)]; simp)
      have VA := fun W => HV.out a W
      rw [valR_eq, if_neg (by omega)] at VA
      have VA := Lib.hid VA
      simp only [List.length_cons] at hlen
      have l2 : 2 < (t.length : Int) + 1 + 1 + 1 := by omega
      clear hout
      go_wp2_with (first
        | (go_at_call 111; with_reducible refine Calls.mono (VA.out _) ?_; rintro e w' ⟨rfl, hw'⟩; obtain rfl := hw'.symm)
        | fail)
      go_roundw
      case rel => exact ⟨a :: b :: t, out ++ [37], by simp, by simp, HO.out, by simp; omega, by first | exact HB.out | (have := HB.out; (repeat (first | with_reducible exact Below.refl _ _ | with_reducible assumption | with_reducible refine Below.drew ?_ | (with_reducible refine Below.setCell ?_ ?_ _; rotate_left; (first | omega | (simp <;> omega))) | (with_reducible refine Below.alloc ?_ ?_ _; rotate_left; (first | omega | (simp <;> omega))) | exact Below.refl _ _ | assumption)))⟩
      case measure => simp [strLen_S]
    case bad2 =>
      have hb0 : bAt (37 :: a :: b :: t) 0 = 37 := rfl
      have hb1 : bAt (37 :: a :: b :: t) 1 = (a.toNat : Int) := rfl
      have hb2 : bAt (37 :: a :: b :: t) 2 = (b.toNat : Int) := rfl
      have HO := Lib.hid (show (out ++ [37]) ++ plainL (a :: b :: t) = R by rw [← hout, plainL_one (c := 37) (a :: b :: t) (by decide) (fun _ => by show (_ && decide (0 ≤ hexV b)) = false; rw [h2]; simp)]; simp)
      have VA := fun W => HV.out a W
      have VB := fun W => HV.out b W
      rw [valR_eq, if_pos h1] at VA
      rw [valR_eq, if_neg (by omega)] at VB
      rcases hexV_range a with h | ⟨_, ha15⟩
      · omega
      obtain ⟨va, hva⟩ : ∃ y, hexV a = y := ⟨_, rfl⟩
      rw [hva] at VA ha15 h1
      have va16 : va < 16 := by omega
      have VA := Lib.hid VA
      have VB := Lib.hid VB
      simp only [List.length_cons] at hlen
      have l2 : 2 < (t.length : Int) + 1 + 1 + 1 := by omega
      clear hout
      go_wp2_with (first
        | (go_at_call 111; with_reducible refine Calls.mono (VA.out _) ?_; rintro e w' ⟨rfl, hw'⟩; obtain rfl := hw'.symm)
        | (go_at_call 111; with_reducible refine Calls.mono (VB.out _) ?_; rintro e w' ⟨rfl, hw'⟩; obtain rfl := hw'.symm)
        | fail)
      go_roundw
      case rel => exact ⟨a :: b :: t, out ++ [37], by simp, by simp, HO.out, by simp; omega, by first | exact HB.out | (have := HB.out; (repeat (first | with_reducible exact Below.refl _ _ | with_reducible assumption | with_reducible refine Below.drew ?_ | (with_reducible refine Below.setCell ?_ ?_ _; rotate_left; (first | omega | (simp <;> omega))) | (with_reducible refine Below.alloc ?_ ?_ _; rotate_left; (first | omega | (simp <;> omega))) | exact Below.refl _ _ | assumption)))⟩
      case measure => simp [strLen_S]
    case short0 =>
      have hb0 : bAt [37] 0 = 37 := rfl
      have HO := Lib.hid (show (out ++ [37]) ++ plainL [] = R by rw [← hout]; simp [plainL, plainG, codeOk])
      simp only [List.length_cons, List.length_nil] at hlen
      clear hout
      go_wp2
      go_roundw
      case rel => exact ⟨[], out ++ [37], by simp, by simp, HO.out, by simp; omega, by first | exact HB.out | (have := HB.out; (repeat (first | with_reducible exact Below.refl _ _ | with_reducible assumption | with_reducible refine Below.drew ?_ | (with_reducible refine Below.setCell ?_ ?_ _; rotate_left; (first | omega | (simp <;> omega))) | (with_reducible refine Below.alloc ?_ ?_ _; rotate_left; (first | omega | (simp <;> omega))) | exact Below.refl _ _ | assumption)))⟩
      case measure => simp [strLen_S]
    case short1 =>
      have hb0 : bAt [37, a] 0 = 37 := rfl
      have HO := Lib.hid (show (out ++ [37]) ++ plainL [a] = R by rw [← hout, plainL_one (c := 37) [a] (by decide) (fun _ => rfl)]; simp)
      simp only [List.length_cons, List.length_nil] at hlen
      clear hout
      go_wp2
      go_roundw
      case rel => exact ⟨[a], out ++ [37], by simp, by simp, HO.out, by simp; omega, by first | exact HB.out | (have := HB.out; (repeat (first | with_reducible exact Below.refl _ _ | with_reducible assumption | with_reducible refine Below.drew ?_ | (with_reducible refine Below.setCell ?_ ?_ _; rotate_left; (first | omega | (simp <;> omega))) | (with_reducible refine Below.alloc ?_ ?_ _; rotate_left; (first | omega | (simp <;> omega))) | exact Below.refl _ _ | assumption)))⟩
      case measure => simp [strLen_S]
    case other =>
      have hb0 : bAt (c :: t) 0 = (c.toNat : Int) := rfl
      have hn43 : ((c.toNat : Int) == 43) = false := by
        simp only [beq_eq_false_iff_ne, ne_eq]; intro e; exact h (UInt8.toNat.inj (Int.ofNat.inj e))
      have hn37 : ((c.toNat : Int) == 37) = false := by
        simp only [beq_eq_false_iff_ne, ne_eq]; intro e; exact h2 (UInt8.toNat.inj (Int.ofNat.inj e))
      have HO := Lib.hid (show (out ++ [c]) ++ plainL t = R by rw [← hout, plainL_one _ h (fun e => absurd e h2)]; simp)
      simp only [List.length_cons] at hlen
      clear hout h h2
      go_wp2
      go_roundw
      case rel => exact ⟨t, out ++ [c], by simp, by simp, HO.out, by simp; omega, by first | exact HB.out | (have := HB.out; (repeat (first | with_reducible exact Below.refl _ _ | with_reducible assumption | with_reducible refine Below.drew ?_ | (with_reducible refine Below.setCell ?_ ?_ _; rotate_left; (first | omega | (simp <;> omega))) | (with_reducible refine Below.alloc ?_ ?_ _; rotate_left; (first | omega | (simp <;> omega))) | exact Below.refl _ _ | assumption)))⟩
      case measure => simp [strLen_S]
end Go.Proofs.YtenflcaalckdfaaGreatDoor
