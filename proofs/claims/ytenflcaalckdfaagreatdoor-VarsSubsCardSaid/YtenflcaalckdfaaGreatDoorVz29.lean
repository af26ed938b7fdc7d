/- The document's value of a digit and part of a query as it is meant: the walks. The document's cut and split of a text at a byte: the walks. -/
import Derived.Test.YtenflcaalckdfaaGreatDoorVz7
import Derived.Test.YtenflcaalckdfaaGreatDoorVz10
import Derived.Test.YtenflcaalckdfaaGreatDoorVz8
namespace Go.Proofs.YtenflcaalckdfaaGreatDoor
open Go.RowKit Go.Sort Go.Shelf
set_option linter.unusedVariables false

set_option maxRecDepth 100000 in
theorem refValue (c : UInt8) (w : World) : Calls Tryz.prog 111 #[.int .u8 (c.toNat : Int)] w fun e w' => e = .returned (.int .i64 (valR c)) ∧ w' = w := by
  have hc256 := c.toNat_lt
  unfold valR
  obtain ⟨n, hn⟩ : ∃ n, c.toNat = n := ⟨_, rfl⟩
  rw [hn] at hc256 ⊢
  clear hn
  have n0 : (0 : Int) ≤ n := by omega
  have n256 : (n : Int) < 256 := by omega
  by_cases h1 : 48 ≤ n ∧ n ≤ 57
  · rw [if_pos h1]
    have a1 : (48 : Int) ≤ n := by omega
    have a2 : (n : Int) ≤ 57 := by omega
    have hw : IntKind.u8.wrap ((n : Int) - 48) = (n : Int) - 48 := by (first | rw [IntKind.wrap_u8] | simp only [IntKind.wrap, IntKind.bits, IntKind.signed]) <;> (try simp) <;> omega
    go_enter Tryz.func111, Tryz.ntmps111
    go_wp2
    go_ret
    exact ⟨ret_int (by omega), rfl⟩
  · rw [if_neg h1]
    by_cases h2 : 97 ≤ n ∧ n ≤ 102
    · rw [if_pos h2]
      have a1 : (48 : Int) ≤ n := by omega
      have a2 : (57 : Int) < n := by omega
      have a3 : (97 : Int) ≤ n := by omega
      have a4 : (n : Int) ≤ 102 := by omega
      have hw : IntKind.u8.wrap ((n : Int) - 97) = (n : Int) - 97 := by (first | rw [IntKind.wrap_u8] | simp only [IntKind.wrap, IntKind.bits, IntKind.signed]) <;> (try simp) <;> omega
      go_enter Tryz.func111, Tryz.ntmps111
      go_wp2
      go_ret
      exact ⟨ret_int (by omega), rfl⟩
    · rw [if_neg h2]
      by_cases h3 : 65 ≤ n ∧ n ≤ 70
      · rw [if_pos h3]
        have a1 : (48 : Int) ≤ n := by omega
        have a2 : (57 : Int) < n := by omega
        have a3 : (n : Int) < 97 := by omega
        have a4 : (65 : Int) ≤ n := by omega
        have a5 : (n : Int) ≤ 70 := by omega
        have hw : IntKind.u8.wrap ((n : Int) - 65) = (n : Int) - 65 := by (first | rw [IntKind.wrap_u8] | simp only [IntKind.wrap, IntKind.bits, IntKind.signed]) <;> (try simp) <;> omega
        go_enter Tryz.func111, Tryz.ntmps111
        go_wp2
        go_ret
        exact ⟨ret_int (by omega), rfl⟩
      · rw [if_neg h3]
        have hh : (n : Int) < 48 ∧ (n : Int) < 97 ∧ (n : Int) < 65 ∨ (48 : Int) ≤ n ∧ (57 : Int) < n ∧ (n : Int) < 97 ∧ (n : Int) < 65 ∨ (48 : Int) ≤ n ∧ (57 : Int) < n ∧ (n : Int) < 97 ∧ (65 : Int) ≤ n ∧ (70 : Int) < n ∨ (48 : Int) ≤ n ∧ (57 : Int) < n ∧ (97 : Int) ≤ n ∧ (102 : Int) < n ∧ (65 : Int) ≤ n ∧ (70 : Int) < n := by omega
        clear h1 h2 h3
        rcases hh with ⟨a1, a2, a3⟩ | ⟨a1, a2, a3, a4⟩ | ⟨a1, a2, a3, a4, a5⟩ | ⟨a1, a2, a3, a4, a5, a6⟩
        all_goals
          go_enter Tryz.func111, Tryz.ntmps111
          go_wp2
          go_ret
          exact ⟨rfl, rfl⟩

theorem plainL_plus (t : List UInt8) : plainL (43 :: t) = 32 :: plainL t := rfl
theorem plainL_code {a b : UInt8} (t : List UInt8) (h1 : 0 ≤ hexV a) (h2 : 0 ≤ hexV b) : plainL (37 :: a :: b :: t) = codeB a b :: plainL t := by
  unfold plainL
  conv => lhs; unfold plainG
  rw [if_neg (by decide), if_pos ⟨rfl, by show (decide (0 ≤ hexV _) && decide (0 ≤ hexV _)) = true; rw [decide_eq_true h1, decide_eq_true h2]; rfl⟩]
  rfl
theorem plainL_one {c : UInt8} (t : List UInt8) (h : c ≠ 43) (h2 : c = 37 → codeOk t = false) : plainL (c :: t) = c :: plainL t := by
  unfold plainL
  conv => lhs; unfold plainG
  rw [if_neg h, if_neg (fun e => by rw [h2 e.1] at e; cases e.2)]

/-- How the text goes on. -/
inductive Plain : List UInt8 → Prop
  | nil : Plain []
  | plus (t) : Plain (43 :: t)
  | code (a b t) (h1 : 0 ≤ hexV a) (h2 : 0 ≤ hexV b) : Plain (37 :: a :: b :: t)
  | bad1 (a b t) (h1 : hexV a = -1) : Plain (37 :: a :: b :: t)
  | bad2 (a b t) (h1 : 0 ≤ hexV a) (h2 : hexV b = -1) : Plain (37 :: a :: b :: t)
  | short0 : Plain [37]
  | short1 (a) : Plain [37, a]
  | other (c t) (h : c ≠ 43) (h2 : c ≠ 37) : Plain (c :: t)
theorem plain_cases (l : List UInt8) : Plain l := by
  match l with
  | [] => exact .nil
  | c :: t =>
    by_cases h : c = 43
    · subst h; exact .plus t
    · by_cases h2 : c = 37
      · subst h2
        match t with
        | [] => exact .short0
        | [a] => exact .short1 a
        | a :: b :: t =>
          rcases hexV_range a with h1 | ⟨h1, _⟩
          · exact .bad1 a b t h1
          · rcases hexV_range b with h3 | ⟨h3, _⟩
            · exact .bad2 a b t h1 h3
            · exact .code a b t h1 h3
      · exact .other c t h h2

set_option maxHeartbeats 3200000 in
set_option maxRecDepth 100000 in
theorem refPlain (s : List UInt8) (hs : s.length ≤ 1000000) (w : World) : Calls Tryz.prog 75 #[.string (S s)] w fun e w' => e = .returned (.string (S (plainL s))) ∧ Below w.heap.size w w' := by
  obtain ⟨R, hR⟩ : ∃ R, plainL s = R := ⟨_, rfl⟩
  rw [hR]
  have HV := Lib.hid (fun c W => refValue c W)
  have hs1 : (s.length : Int) ≤ 1000000 := by omega
  have HR := Lib.hid hR
  clear hR
  go_enter Tryz.func75, Tryz.ntmps75
  go_wp2
  simp only [mk_S]
  go_loopw [0, 3] (fun sv ov wr => ∃ (t out : List UInt8), sv = .string (S t) ∧ ov = .string (S out) ∧ out ++ plainL t = R ∧ t.length + out.length ≤ s.length ∧ Below w.heap.size w wr) (fun sv _ _ => strLen sv)
  case atStart => exact ⟨s, [], rfl, rfl, HR.out, by simp, Below.refl _ _⟩
  case round =>
    obtain ⟨t, out, rfl, rfl, hout, hlen, hB⟩ := hrel
    have HB := Lib.hid hB
    have hz := hB.size
    clear hB
    rcases plain_cases t with _ | ⟨t⟩ | ⟨a, b, t, h1, h2⟩ | ⟨a, b, t, h1⟩ | ⟨a, b, t, h1, h2⟩ | _ | ⟨a⟩ | ⟨c, t, h, h2⟩
    case nil =>
      obtain rfl : out = R := by rw [← hout]; simp [plainL, plainG]
      clear hout
      go_wp2
      go_ret
      exact ⟨rfl, HB.out⟩
    case plus =>
      have hb0 : bAt (43 :: t) 0 = 43 := rfl
      have HO := Lib.hid (show (out ++ [32]) ++ plainL t = R by rw [← hout, plainL_plus]; simp)
      simp only [List.length_cons] at hlen
      clear hout
      go_wp2
      go_roundw
      case rel => exact ⟨t, out ++ [32], by simp, by simp, HO.out, by simp; omega, by (repeat (first | (with_reducible exact Below.refl _ _) | (with_reducible assumption) | (with_reducible refine Below.drew ?_) | (focus ((with_reducible refine Below.setCell ?_ ?_ _); rotate_left; (first | omega | (simp <;> omega)))) | (focus ((with_reducible refine Below.alloc ?_ ?_ _); rotate_left; (first | omega | (simp <;> omega)))) | exact Below.refl _ _ | assumption | refine Below.drew ?_ | refine Below.alloc ?_ (by first | omega | (simp <;> omega)) _ | refine Below.setCell ?_ (by first | omega | (simp <;> omega)) _))⟩
      case measure => simp [strLen_S]
    case code =>
      have hb0 : bAt (37 :: a :: b :: t) 0 = 37 := rfl
      have hb1 : bAt (37 :: a :: b :: t) 1 = (a.toNat : Int) := rfl
      have hb2 : bAt (37 :: a :: b :: t) 2 = (b.toNat : Int) := rfl
      have HO := Lib.hid (show (out ++ [codeB a b]) ++ plainL t = R by rw [← hout, plainL_code t h1 h2]; simp)
      have VA := fun W => HV.out a W
      have VB := fun W => HV.out b W
      obtain ⟨hcz, hcm⟩ := codeB_nat h1 h2
      rcases hexV_range a with h | ⟨_, ha15⟩
      · omega
      rcases hexV_range b with h | ⟨_, hb15⟩
      · omega
      rw [valR_eq, if_pos h1] at VA
      rw [valR_eq, if_pos h2] at VB
      obtain ⟨va, hva⟩ : ∃ y, hexV a = y := ⟨_, rfl⟩
      obtain ⟨vb, hvb⟩ : ∃ y, hexV b = y := ⟨_, rfl⟩
      rw [hva] at VA hcz hcm h1 ha15
      rw [hvb] at VB hcz hcm h2 hb15
      simp only [List.length_cons] at hlen
      have l2 : 2 < (t.length : Int) + 1 + 1 + 1 := by omega
      have va16 : va < 16 := by omega
      have vb16 : vb < 16 := by omega
      have hw1 : IntKind.i64.wrap (16 * va) = 16 * va := by (first | rw [IntKind.wrap_i64] | simp only [IntKind.wrap, IntKind.bits, IntKind.signed]) <;> (try simp) <;> omega
      have hw2 : IntKind.i64.wrap (16 * va + vb) = 16 * va + vb := by (first | rw [IntKind.wrap_i64] | simp only [IntKind.wrap, IntKind.bits, IntKind.signed]) <;> (try simp) <;> omega
      have hw5 : IntKind.u8.wrap (16 * va + vb) = ((codeB a b).toNat : Int) := by rw [hcz]; (first | rw [IntKind.wrap_u8] | simp only [IntKind.wrap, IntKind.bits, IntKind.signed]) <;> (try simp) <;> omega
      have CV := fun W bb => conv_one W bb (codeB a b)
      obtain ⟨d, hd⟩ : ∃ d, codeB a b = d := ⟨_, rfl⟩
      rw [hd] at HO CV hw5
      have VA := Lib.hid VA
      have VB := Lib.hid VB
      clear hout hcz hcm hva hvb hd
      go_wp2_with (first
        | (go_at_call 111; with_reducible refine Calls.mono (VA.out _) ?_; rintro e w' ⟨rfl, hw'⟩; obtain rfl := hw'.symm)
        | (go_at_call 111; with_reducible refine Calls.mono (VB.out _) ?_; rintro e w' ⟨rfl, hw'⟩; obtain rfl := hw'.symm)
        | fail)
      go_region_with (first
        | (go_at_call 111; with_reducible refine Calls.mono (VA.out _) ?_; rintro e w' ⟨rfl, hw'⟩; obtain rfl := hw'.symm)
        | (go_at_call 111; with_reducible refine Calls.mono (VB.out _) ?_; rintro e w' ⟨rfl, hw'⟩; obtain rfl := hw'.symm))
      all_goals
        go_wp2
        go_roundw
        case rel => exact ⟨t, out ++ [d], by simp, by simp, HO.out, by simp; omega, Below.trans HB.out (Below.mono (show Below wr.heap.size wr _ by (repeat (first | (with_reducible exact Below.refl _ _) | (with_reducible assumption) | (with_reducible refine Below.drew ?_) | (focus ((with_reducible refine Below.setCell ?_ ?_ _); rotate_left; (first | omega | (simp <;> omega)))) | (focus ((with_reducible refine Below.alloc ?_ ?_ _); rotate_left; (first | omega | (simp <;> omega)))) | exact Below.refl _ _ | assumption | refine Below.drew ?_ | refine Below.alloc ?_ (by first | omega | (simp <;> omega)) _ | refine Below.setCell ?_ (by first | omega | (simp <;> omega)) _))) hz)⟩
        case measure => simp [strLen_S]; omega
    case bad1 =>
      have hb0 : bAt (37 :: a :: b :: t) 0 = 37 := rfl
      have hb1 : bAt (37 :: a :: b :: t) 1 = (a.toNat : Int) := rfl
      have HO := Lib.hid (show (out ++ [37]) ++ plainL (a :: b :: t) = R by rw [← hout, plainL_one (c := 37) (a :: b :: t) (by decide) (fun _ => by show (decide (0 ≤ hexV a) && _) = false; rw [h1]; rfl)]; simp)
      have VA := fun W => HV.out a W
      rw [valR_eq, if_neg (by omega)] at VA
      have VA := Lib.hid VA
      simp only [List.length_cons] at hlen
      have l2 : 2 < (t.length : Int) + 1 + 1 + 1 := by omega
      clear hout
      go_wp2_with (first
        | (go_at_call 111; with_reducible refine Calls.mono (VA.out _) ?_; rintro e w' ⟨rfl, hw'⟩; obtain rfl := hw'.symm)
        | fail)
      go_roundw
      case rel => exact ⟨a :: b :: t, out ++ [37], by simp, by simp, HO.out, by simp; omega, by first | exact HB.out | (have := HB.out; (repeat (first | (with_reducible exact Below.refl _ _) | (with_reducible assumption) | (with_reducible refine Below.drew ?_) | (focus ((with_reducible refine Below.setCell ?_ ?_ _); rotate_left; (first | omega | (simp <;> omega)))) | (focus ((with_reducible refine Below.alloc ?_ ?_ _); rotate_left; (first | omega | (simp <;> omega)))) | exact Below.refl _ _ | assumption | refine Below.drew ?_ | refine Below.alloc ?_ (by first | omega | (simp <;> omega)) _ | refine Below.setCell ?_ (by first | omega | (simp <;> omega)) _)))⟩
      case measure => simp [strLen_S]
    case bad2 =>
      have hb0 : bAt (37 :: a :: b :: t) 0 = 37 := rfl
      have hb1 : bAt (37 :: a :: b :: t) 1 = (a.toNat : Int) := rfl
      have hb2 : bAt (37 :: a :: b :: t) 2 = (b.toNat : Int) := rfl
      have HO := Lib.hid (show (out ++ [37]) ++ plainL (a :: b :: t) = R by rw [← hout, plainL_one (c := 37) (a :: b :: t) (by decide) (fun _ => by show (_ && decide (0 ≤ hexV b)) = false; rw [h2]; simp)]; simp)
      have VA := fun W => HV.out a W
      have VB := fun W => HV.out b W
      rw [valR_eq, if_pos h1] at VA
      rw [valR_eq, if_neg (by omega)] at VB
      rcases hexV_range a with h | ⟨_, ha15⟩
      · omega
      obtain ⟨va, hva⟩ : ∃ y, hexV a = y := ⟨_, rfl⟩
      rw [hva] at VA ha15 h1
      have va16 : va < 16 := by omega
      have VA := Lib.hid VA
      have VB := Lib.hid VB
      simp only [List.length_cons] at hlen
      have l2 : 2 < (t.length : Int) + 1 + 1 + 1 := by omega
      clear hout
      go_wp2_with (first
        | (go_at_call 111; with_reducible refine Calls.mono (VA.out _) ?_; rintro e w' ⟨rfl, hw'⟩; obtain rfl := hw'.symm)
        | (go_at_call 111; with_reducible refine Calls.mono (VB.out _) ?_; rintro e w' ⟨rfl, hw'⟩; obtain rfl := hw'.symm)
        | fail)
      go_roundw
      case rel => exact ⟨a :: b :: t, out ++ [37], by simp, by simp, HO.out, by simp; omega, by first | exact HB.out | (have := HB.out; (repeat (first | (with_reducible exact Below.refl _ _) | (with_reducible assumption) | (with_reducible refine Below.drew ?_) | (focus ((with_reducible refine Below.setCell ?_ ?_ _); rotate_left; (first | omega | (simp <;> omega)))) | (focus ((with_reducible refine Below.alloc ?_ ?_ _); rotate_left; (first | omega | (simp <;> omega)))) | exact Below.refl _ _ | assumption | refine Below.drew ?_ | refine Below.alloc ?_ (by first | omega | (simp <;> omega)) _ | refine Below.setCell ?_ (by first | omega | (simp <;> omega)) _)))⟩
      case measure => simp [strLen_S]
    case short0 =>
      have hb0 : bAt [37] 0 = 37 := rfl
      have HO := Lib.hid (show (out ++ [37]) ++ plainL [] = R by rw [← hout]; simp [plainL, plainG, codeOk])
      simp only [List.length_cons, List.length_nil] at hlen
      clear hout
      go_wp2
      go_roundw
      case rel => exact ⟨[], out ++ [37], by simp, by simp, HO.out, by simp; omega, by first | exact HB.out | (have := HB.out; (repeat (first | (with_reducible exact Below.refl _ _) | (with_reducible assumption) | (with_reducible refine Below.drew ?_) | (focus ((with_reducible refine Below.setCell ?_ ?_ _); rotate_left; (first | omega | (simp <;> omega)))) | (focus ((with_reducible refine Below.alloc ?_ ?_ _); rotate_left; (first | omega | (simp <;> omega)))) | exact Below.refl _ _ | assumption | refine Below.drew ?_ | refine Below.alloc ?_ (by first | omega | (simp <;> omega)) _ | refine Below.setCell ?_ (by first | omega | (simp <;> omega)) _)))⟩
      case measure => simp [strLen_S]
    case short1 =>
      have hb0 : bAt [37, a] 0 = 37 := rfl
      have HO := Lib.hid (show (out ++ [37]) ++ plainL [a] = R by rw [← hout, plainL_one (c := 37) [a] (by decide) (fun _ => rfl)]; simp)
      simp only [List.length_cons, List.length_nil] at hlen
      clear hout
      go_wp2
      go_roundw
      case rel => exact ⟨[a], out ++ [37], by simp, by simp, HO.out, by simp; omega, by first | exact HB.out | (have := HB.out; (repeat (first | (with_reducible exact Below.refl _ _) | (with_reducible assumption) | (with_reducible refine Below.drew ?_) | (focus ((with_reducible refine Below.setCell ?_ ?_ _); rotate_left; (first | omega | (simp <;> omega)))) | (focus ((with_reducible refine Below.alloc ?_ ?_ _); rotate_left; (first | omega | (simp <;> omega)))) | exact Below.refl _ _ | assumption | refine Below.drew ?_ | refine Below.alloc ?_ (by first | omega | (simp <;> omega)) _ | refine Below.setCell ?_ (by first | omega | (simp <;> omega)) _)))⟩
      case measure => simp [strLen_S]
    case other =>
      have hb0 : bAt (c :: t) 0 = (c.toNat : Int) := rfl
      have hn43 : ((c.toNat : Int) == 43) = false := by
        simp only [beq_eq_false_iff_ne, ne_eq]; intro e; exact h (UInt8.toNat.inj (Int.ofNat.inj e))
      have hn37 : ((c.toNat : Int) == 37) = false := by
        simp only [beq_eq_false_iff_ne, ne_eq]; intro e; exact h2 (UInt8.toNat.inj (Int.ofNat.inj e))
      have HO := Lib.hid (show (out ++ [c]) ++ plainL t = R by rw [← hout, plainL_one _ h (fun e => absurd e h2)]; simp)
      simp only [List.length_cons] at hlen
      clear hout h h2
      go_wp2
      go_roundw
      case rel => exact ⟨t, out ++ [c], by simp, by simp, HO.out, by simp; omega, by first | exact HB.out | (have := HB.out; (repeat (first | (with_reducible exact Below.refl _ _) | (with_reducible assumption) | (with_reducible refine Below.drew ?_) | (focus ((with_reducible refine Below.setCell ?_ ?_ _); rotate_left; (first | omega | (simp <;> omega)))) | (focus ((with_reducible refine Below.alloc ?_ ?_ _); rotate_left; (first | omega | (simp <;> omega)))) | exact Below.refl _ _ | assumption | refine Below.drew ?_ | refine Below.alloc ?_ (by first | omega | (simp <;> omega)) _ | refine Below.setCell ?_ (by first | omega | (simp <;> omega)) _)))⟩
      case measure => simp [strLen_S]
end Go.Proofs.YtenflcaalckdfaaGreatDoor
namespace Go.Proofs.YtenflcaalckdfaaGreatDoor
open Go.RowKit Go.Sort Go.Shelf
set_option linter.unusedVariables false

theorem cutR_no {l : List UInt8} {c : UInt8} (h : ∀ j (hj : j < l.length), l[j] ≠ c) : cut1 l c = (l, [], false) := by
  unfold cut1
  rw [index_no _ _ (fun hm => by obtain ⟨j, hj, e⟩ := List.getElem_of_mem hm; exact h j hj e)]
  simp
theorem cutR_at {l : List UInt8} {c : UInt8} {i : Nat} (hi : i < l.length) (hc : l[i] = c) (h : ∀ j (hj : j < l.length), j < i → l[j] ≠ c) : cut1 l c = (l.take i, l.drop (i + 1), true) := by
  have e : Lib.indexByte l c = i := by
    conv => lhs; rw [← List.take_append_drop i l, List.drop_eq_getElem_cons hi, hc]
    rw [index_at _ _ _ (fun hm => by
      obtain ⟨j, hj, e⟩ := List.getElem_of_mem hm
      rw [List.length_take] at hj
      rw [List.getElem_take] at e
      exact h j (by omega) (by omega) e)]
    rw [List.length_take]; omega
  unfold cut1
  rw [e]
  simp

set_option maxHeartbeats 800000 in
theorem refCut (l : List UInt8) (c : UInt8) (hl : l.length ≤ 1000000) (w : World) : Calls Tryz.prog 72 #[.string (S l), .int .u8 (c.toNat : Int)] w fun e w' => e = .returned (.tuple #[.string (S (cut1 l c).1), .string (S (cut1 l c).2.1), .bool (cut1 l c).2.2]) ∧ Below w.heap.size w w' := by
  have hl1 : (l.length : Int) ≤ 1000000 := by omega
  have hc256 := c.toNat_lt
  have HB := Lib.hid (show ∀ d : UInt8, (d = c ↔ (d.toNat : Int) = (c.toNat : Int)) from fun d => ⟨fun e => by rw [e], fun e => UInt8.toNat.inj (by omega)⟩)
  have HY := Lib.hid (fun (i : Nat) (hi : i < l.length) (hc : l[i] = c) h => cutR_at hi hc h)
  have HN := Lib.hid (fun h => cutR_no (l := l) (c := c) h)
  obtain ⟨⟨x, y, z⟩, hxyz⟩ : ∃ q, cut1 l c = q := ⟨_, rfl⟩
  rw [hxyz] at HY HN ⊢
  obtain ⟨ci, hci⟩ : ∃ ci : Int, (c.toNat : Int) = ci := ⟨_, rfl⟩
  have hci0 : 0 ≤ ci ∧ ci < 256 := by omega
  obtain ⟨hci0, hci1⟩ := hci0
  rw [hci] at HB ⊢
  simp only
  clear hci hc256 hxyz
  go_enter Tryz.func72, Tryz.ntmps72
  go_wp2
  go_loop [7] (fun iv => ∃ i : Nat, iv = .int .i64 i ∧ i ≤ l.length ∧ (∀ j (hj : j < l.length), j < i → l[j] ≠ c)) (fun iv => l.length - (intOf iv).toNat)
  case atStart => exact ⟨0, rfl, Nat.zero_le _, fun j _ h => by omega⟩
  case round =>
    obtain ⟨i, rfl, hi, hall⟩ := hrel
    have HA := Lib.hid hall
    clear hall
    by_cases hlt : i < l.length
    · have hw : IntKind.i64.wrap ((i : Int) + 1) = (i : Int) + 1 := by (first | rw [IntKind.wrap_i64] | simp only [IntKind.wrap, IntKind.bits, IntKind.signed]) <;> (try simp) <;> omega
      by_cases hc : l[i] = c
      · have e1 : bAt l i = ci := by rw [bAt_eq hlt]; exact (HB.out _).1 hc
        have hr := HY.out i hlt hc HA.out
        injection hr with r1 r23
        injection r23 with r2 r3
        subst r1 r2 r3
        have hi1 : i + 1 ≤ l.length := by omega
        clear hc
        go_wp2_with fail
        go_region
        all_goals
          go_wp2
          go_ret3
          exact ⟨by first | rfl | (simp; done) | (congr 3; simp <;> omega), by (repeat (first | (with_reducible exact Below.refl _ _) | (with_reducible assumption) | (with_reducible refine Below.drew ?_) | (focus ((with_reducible refine Below.setCell ?_ ?_ _); rotate_left; (first | omega | (simp <;> omega)))) | (focus ((with_reducible refine Below.alloc ?_ ?_ _); rotate_left; (first | omega | (simp <;> omega)))) | exact Below.refl _ _ | assumption | refine Below.drew ?_ | refine Below.alloc ?_ (by first | omega | (simp <;> omega)) _ | refine Below.setCell ?_ (by first | omega | (simp <;> omega)) _))⟩
      · have e1 : ¬ bAt l i = ci := by rw [bAt_eq hlt]; exact fun e => hc ((HB.out _).2 e)
        have e2 : (bAt l i == ci) = false := by simpa using e1
        have HF := Lib.hid (show ∀ j (hj : j < l.length), j < i + 1 → l[j] ≠ c from fun j hj h => by
          by_cases e : j = i
          · subst e; exact hc
          · exact HA.out j hj (by omega))
        clear hc
        go_wp2
        go_round
        case rel => exact ⟨i + 1, by go_num, by omega, HF.out⟩
        case measure => simp [intOf]; omega
    · obtain rfl : i = l.length := by omega
      have hr := HN.out (fun j hj => HA.out j hj hj)
      injection hr with r1 r23
      injection r23 with r2 r3
      subst r1 r2 r3
      go_wp2
      go_ret3
      exact ⟨by first | rfl | (simp; done), by (repeat (first | (with_reducible exact Below.refl _ _) | (with_reducible assumption) | (with_reducible refine Below.drew ?_) | (focus ((with_reducible refine Below.setCell ?_ ?_ _); rotate_left; (first | omega | (simp <;> omega)))) | (focus ((with_reducible refine Below.alloc ?_ ?_ _); rotate_left; (first | omega | (simp <;> omega)))) | exact Below.refl _ _ | assumption | refine Below.drew ?_ | refine Below.alloc ?_ (by first | omega | (simp <;> omega)) _ | refine Below.setCell ?_ (by first | omega | (simp <;> omega)) _))⟩

theorem split_step (l : List UInt8) (c : UInt8) : Lib.split l [c] = (cut1 l c).1 :: (if (cut1 l c).2.2 = true then Lib.split (cut1 l c).2.1 [c] else []) := by
  rcases first_part l c with h | ⟨a, r, h1, rfl⟩
  · have e : cut1 l c = (l, [], false) := cutR_no fun j hj e => h (e ▸ List.getElem_mem hj)
    rw [e, split_none _ _ h]; simp
  · have e : cut1 (a ++ c :: r) c = (a, r, true) := by
      unfold cut1
      rw [index_at _ _ _ h1]
      simp
    rw [e, split_at _ _ _ h1]; simp
theorem cut_shrinks (l : List UInt8) (c : UInt8) (h : (cut1 l c).2.2 = true) : (cut1 l c).2.1.length < l.length ∧ (cut1 l c).1.length ≤ l.length := by
  rcases first_part l c with h2 | ⟨a, r, h1, rfl⟩
  · have e : cut1 l c = (l, [], false) := cutR_no fun j hj e => h2 (e ▸ List.getElem_mem hj)
    rw [e] at h; cases h
  · have e : cut1 (a ++ c :: r) c = (a, r, true) := by
      unfold cut1
      rw [index_at _ _ _ h1]
      simp
    rw [e]; simp; omega

set_option maxHeartbeats 1600000 in
set_option maxRecDepth 100000 in
theorem refPSplit (s : List UInt8) (c : UInt8) (ci : Int) (hci : (c.toNat : Int) = ci) (hs : s.length ≤ 1000000) (w : World) : Calls Tryz.prog 71 #[.string (S s), .int .u8 ci] w fun e w' => ∃ v, e = .returned v ∧ Owns w' w.heap.size v (Lib.split s [c]) ∧ Below w.heap.size w w' := by
  subst hci
  obtain ⟨R, hR⟩ : ∃ R, Lib.split s [c] = R := ⟨_, rfl⟩
  rw [hR]
  have HR := Lib.hid hR
  have CU := Lib.hid (fun t (ht : t.length ≤ 1000000) W => refCut t c ht W)
  have HST := Lib.hid (fun t => split_step t c)
  have HSH := Lib.hid (fun t => cut_shrinks t c)
  obtain ⟨ci, hci⟩ : ∃ ci : Int, (c.toNat : Int) = ci := ⟨_, rfl⟩
  rw [hci] at CU ⊢
  clear hR hci
  go_enter Tryz.func71, Tryz.ntmps71
  go_wp2
  go_loopw [0, 5] (fun sv ov wr => ∃ (t : List UInt8) (out : List (List UInt8)), sv = .string (S t) ∧ out ++ Lib.split t [c] = R ∧ t.length + out.length ≤ s.length ∧ Owns wr w.heap.size ov out ∧ Below w.heap.size w wr) (fun sv _ _ => strLen sv)
  case atStart => exact ⟨s, [], rfl, HR.out, by simp, Owns.made _ _ (Nat.le_refl _), by (repeat (first | (with_reducible exact Below.refl _ _) | (with_reducible assumption) | (with_reducible refine Below.drew ?_) | (focus ((with_reducible refine Below.setCell ?_ ?_ _); rotate_left; (first | omega | (simp <;> omega)))) | (focus ((with_reducible refine Below.alloc ?_ ?_ _); rotate_left; (first | omega | (simp <;> omega)))) | exact Below.refl _ _ | assumption | refine Below.drew ?_ | refine Below.alloc ?_ (by first | omega | (simp <;> omega)) _ | refine Below.setCell ?_ (by first | omega | (simp <;> omega)) _))⟩
  case round =>
    obtain ⟨t, out, rfl, hout, hlen, hown, hB⟩ := hrel
    have HO := Lib.hid hown
    have HBB := Lib.hid hB
    have hz := hB.size
    have C := CU.out t (by omega)
    have hst := HST.out t
    have hsh := HSH.out t
    rw [hst] at hout
    obtain ⟨⟨x, y, z⟩, hxyz⟩ : ∃ q, cut1 t c = q := ⟨_, rfl⟩
    rw [hxyz] at C hout hsh
    have C := Lib.hid C
    simp only at C hout hsh
    have HOU := Lib.hid hout
    clear hst hxyz hout hown hB
    cases z with
    | true =>
      obtain ⟨hs1, hs2⟩ := hsh rfl
      go_wp2_with (first
        | (go_at_call 72; refine Calls.mono (C.out _) ?_; rintro e w2 ⟨rfl, hb2⟩; have hz2 := hb2.size)
        | (at_builtin; refine wp_append_text rfl _ _ rfl _ w.heap.size _ out x (HO.out.below (by (repeat (first | (with_reducible exact Below.refl _ _) | (with_reducible assumption) | (with_reducible refine Below.drew ?_) | (focus ((with_reducible refine Below.setCell ?_ ?_ _); rotate_left; (first | omega | (simp <;> omega)))) | (focus ((with_reducible refine Below.alloc ?_ ?_ _); rotate_left; (first | omega | (simp <;> omega)))) | exact Below.refl _ _ | assumption | refine Below.drew ?_ | refine Below.alloc ?_ (by first | omega | (simp <;> omega)) _ | refine Below.setCell ?_ (by first | omega | (simp <;> omega)) _)))) rfl rfl (by omega) (by omega) ?_; intro v4 w4 hown4 hb4; have HO4 := Lib.hid hown4; have HB4 := Lib.hid hb4; clear hown4 hb4)
        | fail)
      go_roundw
      case rel => exact ⟨y, out ++ [x], rfl, by have := HOU.out; simpa using this, by simp; omega, HO4.out, HBB.out.trans (hb2.mono hz) |>.trans HB4.out⟩
      case measure => simp [strLen_S]; omega
    | false =>
      go_wp2_with (first
        | (go_at_call 72; refine Calls.mono (C.out _) ?_; rintro e w2 ⟨rfl, hb2⟩; have hz2 := hb2.size)
        | (at_builtin; refine wp_append_text rfl _ _ rfl _ w.heap.size _ out x (HO.out.below (by (repeat (first | (with_reducible exact Below.refl _ _) | (with_reducible assumption) | (with_reducible refine Below.drew ?_) | (focus ((with_reducible refine Below.setCell ?_ ?_ _); rotate_left; (first | omega | (simp <;> omega)))) | (focus ((with_reducible refine Below.alloc ?_ ?_ _); rotate_left; (first | omega | (simp <;> omega)))) | exact Below.refl _ _ | assumption | refine Below.drew ?_ | refine Below.alloc ?_ (by first | omega | (simp <;> omega)) _ | refine Below.setCell ?_ (by first | omega | (simp <;> omega)) _)))) rfl rfl (by omega) (by omega) ?_; intro v4 w4 hown4 hb4; have HO4 := Lib.hid hown4; have HB4 := Lib.hid hb4; clear hown4 hb4)
        | fail)
      have hfin : Owns w4 w.heap.size v4 R := by have := HOU.out; simp at this; rw [← this]; exact HO4.out
      have HF := Lib.hid hfin
      obtain ⟨ao, cap, rfl, _⟩ := hfin.shape
      go_ret
      exact ⟨_, rfl, HF.out, HBB.out.trans (hb2.mono hz) |>.trans HB4.out⟩
end Go.Proofs.YtenflcaalckdfaaGreatDoor
