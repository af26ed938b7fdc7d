/- strings.IndexRune at the two bytes "/?" and a code point that is not ASCII: it is not there. strings.IndexAny at the two bytes "/?", on any bytes. -/
import Derived.Test.YtgjemgilanhdiaaGreatDoorRf16
import Derived.Test.YtgjemgilanhdiaaGreatDoorRf2
import Derived.Laws.Runes
import Derived.WalkMore
import Derived.Lib.IndexAny
namespace Go.Proofs.YtgjemgilanhdiaaGreatDoor
open Go.RowKit
set_option linter.unusedVariables false

set_option maxHeartbeats 1600000 in
set_option maxRecDepth 1000000 in
theorem indexRune_error (w : World) : Calls Tryz.prog 66 #[.string (S [47, 63]), .int .i32 65533] w fun e w' => e = .returned (.int .i64 (-1)) ∧ Below w.heap.size w w' := by
  have hs0 : (w.iter (S [47, 63]) 0).heap[w.heap.size]? = some (.stringIter (S [47, 63]) 0) := World.iter_heap _ _ _
  go_enter Tryz.func66, Tryz.ntmps66
  go_wp2
  try simp only [mk_S]
  go_loopw [] (fun wr => ∃ pos : Nat, pos ≤ 2 ∧ wr.heap[w.heap.size]? = some (.stringIter (S [47, 63]) pos) ∧ Below w.heap.size w wr) (fun wr => 2 - iterPos wr w.heap.size)
  case atStart => exact ⟨0, by omega, hs0, iter_below _ _ (Below.refl _ _) (Nat.le_refl _)⟩
  case round =>
    obtain ⟨pos, hp, hW, hB⟩ := hrel
    have hip := iterPos_at hW
    by_cases h2 : pos < 2
    · obtain ⟨d, hd, hne⟩ : ∃ d : Nat, Utf8.decode (S [47, 63]) pos = (d, 1) ∧ d < 128 := by
        rcases (by omega : pos = 0 ∨ pos = 1) with rfl | rfl
        · exact ⟨47, by decide, by decide⟩
        · exact ⟨63, by decide, by decide⟩
      have hn := fun ty => run_next_at (P := Tryz.prog) wr w.heap.size (S [47, 63]) pos d 1 ty hW (by rw [S_size]; exact h2) hd
      have hd1 : ¬ (d : Int) = 65533 := by omega
      go_wp2
      go_round
      case rel => exact ⟨pos + 1, by omega, setIter_at hW, setIter_below _ _ hB (Nat.le_refl _)⟩
      case measure => rw [hip, iterPos_at (setIter_at hW)]; omega
    · obtain rfl : pos = 2 := by omega
      have hn := fun ty => run_next_over (P := Tryz.prog) wr w.heap.size (S [47, 63]) 2 ty hW (by rw [S_size]; simp)
      go_wp2
      go_ret
      exact ⟨rfl, hB⟩

set_option maxHeartbeats 800000 in
theorem validRune (n : Int) (h0 : 0 ≤ n) (h : n < 55296 ∨ (57343 < n ∧ n ≤ 1114111)) (w : World) : Calls Tryz.prog 89 #[.int .i32 n] w fun e w' => e = .returned (.bool true) ∧ w' = w := by
  rcases h with h1 | ⟨h1, h2⟩
  · go_enter Tryz.func89, Tryz.ntmps89
    go_wp2
    go_ret
    exact ⟨rfl, rfl⟩
  · have h3 : ¬ n < 55296 := by omega
    go_enter Tryz.func89, Tryz.ntmps89
    go_wp2
    go_ret
    exact ⟨rfl, rfl⟩

set_option maxHeartbeats 1600000 in
set_option maxRecDepth 1000000 in
theorem indexRune_two (n : Int) (a b : UInt8) (h : 128 ≤ n) (h3 : n ≠ 65533) (hv : n < 55296 ∨ (57343 < n ∧ n ≤ 1114111)) (he : Utf8.encode n = S [a, b]) (hb : (63 != bAt [a, b] 1) = true) (w : World) :
    Calls Tryz.prog 66 #[.string (S [47, 63]), .int .i32 n] w fun e w' => e = .returned (.int .i64 (-1)) ∧ Below w.heap.size w w' := by
  have HV := Lib.hid (validRune n (by omega) hv)
  have IB := Lib.hid (fun (d : Int) W => indexByte_S (s := []) (c := d) (i := -1) rfl W)
  have h5 : ¬ n < 128 := by omega
  have h6 : ¬ n = 65533 := by omega
  have h7 : 0 ≤ n := by omega
  have hu : (Tryz.prog.underlying 21).isSome = true := by kernel_rfl
  have hcv : ∀ W : World, (convert 21 9 (.int .i32 n)).run Tryz.prog W = .ok (.string (S [a, b])) W := fun W => by rw [run_convert_int_string W _ _ _ _ hu Tryz.underlying9, he]
  have hb2 : bAt [47, 63] 1 = 63 := rfl
  clear hv hu
  go_enter Tryz.func66, Tryz.ntmps66
  go_wp2_with (go_at_call 89; refine (HV.out _).mono ?_; rintro e w' ⟨rfl, rfl⟩)
  go_step3
  go_wp2_with fail
  go_loopw [9] (fun iv wr => iv = .int .i64 1 ∧ wr = w') (fun _ _ => 0)
  case atStart => exact ⟨rfl, rfl⟩
  case round =>
    obtain ⟨rfl, rfl⟩ := hrel
    go_wp2
    go_step3
    go_wp2
    go_region
    go_wp2
    go_region_with (go_at_call 61; refine (IB.out _ _).mono ?_; rintro e w' ⟨rfl, rfl⟩)
    all_goals (go_wp2; simp only [Exit.noGoto_ret]; go_wp2; simp only [Exit.noGoto_ret]; go_wp2; go_ret; exact ⟨rfl, by (repeat (first | with_reducible exact Below.refl _ _ | with_reducible assumption | with_reducible refine Below.drew ?_ | (with_reducible refine Below.setCell ?_ ?_ _; rotate_left; (first | omega | (simp <;> omega))) | (with_reducible refine Below.alloc ?_ ?_ _; rotate_left; (first | omega | (simp <;> omega))) | exact Below.refl _ _ | assumption))⟩)

set_option maxHeartbeats 1600000 in
set_option maxRecDepth 1000000 in
theorem indexRune_more (n : Int) (rs : List UInt8) (h : 128 ≤ n) (h3 : n ≠ 65533) (hv : n < 55296 ∨ (57343 < n ∧ n ≤ 1114111)) (he : Utf8.encode n = S rs) (hr3 : 3 ≤ rs.length) (hr4 : rs.length ≤ 4) (w : World) :
    Calls Tryz.prog 66 #[.string (S [47, 63]), .int .i32 n] w fun e w' => e = .returned (.int .i64 (-1)) ∧ Below w.heap.size w w' := by
  have HV := Lib.hid (validRune n (by omega) hv)
  have IB := Lib.hid (fun (d : Int) W => indexByte_S (s := []) (c := d) (i := -1) rfl W)
  have h5 : ¬ n < 128 := by omega
  have h6 : ¬ n = 65533 := by omega
  have h7 : 0 ≤ n := by omega
  have hu : (Tryz.prog.underlying 21).isSome = true := by kernel_rfl
  have hcv : ∀ W : World, (convert 21 9 (.int .i32 n)).run Tryz.prog W = .ok (.string (S rs)) W := fun W => by rw [run_convert_int_string W _ _ _ _ hu Tryz.underlying9, he]
  have hb2 : bAt [47, 63] 1 = 63 := rfl
  clear hv hu
  go_enter Tryz.func66, Tryz.ntmps66
  go_wp2_with (go_at_call 89; refine (HV.out _).mono ?_; rintro e w' ⟨rfl, rfl⟩)
  go_step3
  go_wp2_with fail
  go_loopw [9] (fun iv wr => iv = .int .i64 ((rs.length : Int) - 1) ∧ wr = w') (fun _ _ => 0)
  case atStart => exact ⟨rfl, rfl⟩
  case round =>
    obtain ⟨rfl, rfl⟩ := hrel
    have hr5 : ¬ (rs.length : Int) - 1 < 2 := by omega
    go_wp2
    go_ret
    exact ⟨rfl, by (repeat (first | with_reducible exact Below.refl _ _ | with_reducible assumption | with_reducible refine Below.drew ?_ | (with_reducible refine Below.setCell ?_ ?_ _; rotate_left; (first | omega | (simp <;> omega))) | (with_reducible refine Below.alloc ?_ ?_ _; rotate_left; (first | omega | (simp <;> omega))) | exact Below.refl _ _ | assumption))⟩

set_option maxRecDepth 1000000 in
theorem indexRune_high (c : Nat) (h : 128 ≤ c) (hv : Utf8.valid c = true) (w : World) : Calls Tryz.prog 66 #[.string (S [47, 63]), .int .i32 c] w fun e w' => e = .returned (.int .i64 (-1)) ∧ Below w.heap.size w w' := by
  have hv2 : (c : Int) < 55296 ∨ (57343 < (c : Int) ∧ (c : Int) ≤ 1114111) := by
    rw [Go.validRune_eq] at hv
    rcases of_decide_eq_true hv with h1 | h1
    · exact .inl h1.2
    · exact .inr h1
  by_cases h3 : c = 65533
  · rw [show (c : Int) = 65533 by omega]; exact indexRune_error w
  · obtain ⟨rs, he, h2, h4, hlast⟩ := encode_high c h hv
    have h8 : (128 : Int) ≤ (c : Int) := by omega
    have h9 : ¬ (c : Int) = 65533 := by omega
    clear h h3 hv
    generalize (c : Int) = n at *
    rcases rs with _ | ⟨a, _ | ⟨b, _ | ⟨d, r⟩⟩⟩
    · simp at h2
    · simp at h2
    · have h7 : 128 ≤ b.toNat := hlast 1 (by simp) rfl
      exact indexRune_two n a b h8 h9 hv2 he (by
        have h6 : bAt [a, b] 1 = (b.toNat : Int) := rfl
        rw [h6, bne_iff_ne]; omega) w
    · exact indexRune_more n _ h8 h9 hv2 he (by simp) h4 w
end Go.Proofs.YtgjemgilanhdiaaGreatDoor
namespace Go.Proofs.YtgjemgilanhdiaaGreatDoor
open Go.RowKit
set_option linter.unusedVariables false

def slashAsk (c : UInt8) : Bool := ([47, 63] : List UInt8).contains c
theorem rune_idx (c : UInt8) : (slashAsk c = true → 0 ≤ Lib.indexByte [47, 63] c) ∧ (slashAsk c = false → Lib.indexByte [47, 63] c = -1) := by
  have h := all_bytes (p := fun c => (slashAsk c = true → 0 ≤ Lib.indexByte [47, 63] c) ∧ (slashAsk c = false → Lib.indexByte [47, 63] c = -1)) (by decide +kernel)
  exact h c
theorem decode_low (l : List UInt8) (i : Nat) (h : i < l.length) (hb : (l[i]).toNat < 128) : Utf8.decode (S l) i = ((l[i]).toNat, 1) := by
  have hs : i < (S l).size := by rw [S_size]; exact h
  have e : ((S l)[i]'hs).toNat = (l[i]).toNat := rfl
  rw [decode_ascii (S l) i hs (by rw [e]; exact hb)]
  rfl
theorem noAny_high {l : List UInt8} {i wd : Nat} (h : Lib.NoAny l [47, 63] i) (hh : ∀ k (hk : i + k < l.length), k < wd → 128 ≤ (l[i + k]).toNat) : Lib.NoAny l [47, 63] (i + wd) := by
  intro j b hj hb
  rcases Nat.lt_or_ge j i with h1 | h1
  · exact h j b h1 hb
  · obtain ⟨hjl, hjb⟩ := List.getElem?_eq_some_iff.1 hb
    obtain ⟨k, rfl⟩ : ∃ k, j = i + k := ⟨j - i, by omega⟩
    have := hh k hjl (by omega)
    rw [hjb] at this
    cases hc : ([47, 63] : List UInt8).contains b with
    | false => rfl
    | true =>
      simp at hc
      rcases hc with rfl | rfl
      · exact absurd this (by decide)
      · exact absurd this (by decide)

set_option maxHeartbeats 3200000 in
set_option maxRecDepth 1000000 in
theorem indexAny_short (l : List UInt8) (h8 : l.length ≤ 8) (w : World) : Calls Tryz.prog 40 #[.string (S l), .string (S [47, 63])] w fun e w' => e = .returned (.int .i64 (Lib.indexAny l [47, 63])) ∧ Below w.heap.size w w' := by
  have hs0 : (w.iter (S l) 0).heap[w.heap.size]? = some (.stringIter (S l) 0) := World.iter_heap _ _ _
  have SU := Lib.hid (fun W => show Calls Tryz.prog 67 #[.int .i64 l.length] W fun e w' => e = .returned (.bool false) ∧ w' = W from (Tryz.strings_shouldUseASCIISet (l.length : Int) W).mono fun e w' ⟨h1, h2⟩ => ⟨h1.trans (by rw [decide_eq_false (by omega)]), h2⟩)
  obtain ⟨r, hr⟩ : ∃ r, Lib.indexAny l [47, 63] = r := ⟨_, rfl⟩
  rw [hr]
  have HR := Lib.hid hr
  clear hr
  go_enter Tryz.func40, Tryz.ntmps40
  go_wp2_with (go_at_call 67; refine (SU.out _).mono ?_; rintro e w' ⟨rfl, rfl⟩)
  try simp only [mk_S]
  go_loopw [] (fun wr => ∃ pos : Nat, pos ≤ l.length ∧ wr.heap[w'.heap.size]? = some (.stringIter (S l) pos) ∧ Lib.NoAny l [47, 63] pos ∧ Below w'.heap.size w' wr) (fun wr => l.length - iterPos wr w'.heap.size)
  case atStart => exact ⟨0, by omega, hs0, Lib.NoAny.zero _ _, iter_below _ _ (Below.refl _ _) (Nat.le_refl _)⟩
  case round =>
    obtain ⟨pos, hp, hW, hno, hB⟩ := hrel
    have HNO := Lib.hid hno
    clear hno
    have hip := iterPos_at hW
    by_cases h2 : pos < l.length
    · by_cases hb : (l[pos]).toNat < 128
      · have hd := decode_low l pos h2 hb
        obtain ⟨c, hc⟩ : ∃ c, l[pos] = c := ⟨_, rfl⟩
        rw [hc] at hb hd
        have HC := Lib.hid hc
        clear hc
        have hn := fun ty => run_next_at (P := Tryz.prog) wr w'.heap.size (S l) pos c.toNat 1 ty hW (by rw [S_size]; exact h2) hd
        have IR := Lib.hid (fun W => show Calls Tryz.prog 66 #[.string (S [47, 63]), .int .i32 (c.toNat : Int)] W fun e w' => e = .returned (.int .i64 (Lib.indexByte [47, 63] c)) ∧ w' = W from (Tryz.strings_IndexRune_ascii (S [47, 63]) (c.toNat : Int) W (by omega) (by omega)).mono fun e w' ⟨h1, h2⟩ => ⟨h1.trans (by rw [S_data]; congr; simp), h2⟩)
        obtain ⟨i, hi⟩ : ∃ i, Lib.indexByte [47, 63] c = i := ⟨_, rfl⟩
        have HI := Lib.hid (rune_idx c)
        rw [hi] at IR HI
        clear hi hd
        by_cases hit : slashAsk c = true
        · have hi0 := HI.out.1 hit
          have HE := Lib.hid (Lib.indexAny_hit HNO.out (show l[pos]? = some c by rw [List.getElem?_eq_getElem h2, HC.out]) hit)
          go_wp2_with (go_at_call 66; refine (IR.out _).mono ?_; rintro e w2 ⟨rfl, rfl⟩)
          go_ret
          exact ⟨ret_int (by rw [← HR.out, HE.out]), setIter_below _ _ hB (Nat.le_refl _)⟩
        · have hit2 : slashAsk c = false := by simpa using hit
          have hi0 := HI.out.2 hit2
          subst hi0
          go_wp2_with (go_at_call 66; refine (IR.out _).mono ?_; rintro e w2 ⟨rfl, rfl⟩)
          go_round
          case rel => exact ⟨pos + 1, by omega, setIter_at hW, HNO.out.succ (show l[pos]? = some c by rw [List.getElem?_eq_getElem h2, HC.out]) hit2, setIter_below _ _ hB (Nat.le_refl _)⟩
          case measure => rw [hip, iterPos_at (setIter_at hW)]; omega
      · obtain ⟨c, wd, hd, hc1, hc2, hc3, hc4, hc5⟩ := decode_high l pos h2 (by omega)
        have hn := fun ty => run_next_at (P := Tryz.prog) wr w'.heap.size (S l) pos c wd ty hW (by rw [S_size]; exact h2) hd
        have IR := Lib.hid (fun W => indexRune_high c hc1 hc2 W)
        have HN2 := Lib.hid (noAny_high HNO.out hc5)
        clear hd hc1 hc2 hc5 hb
        go_wp2_with fail
        refine Calls.mono (IR.out _) ?_
        rintro e w3 ⟨rfl, hb3⟩
        have hz3 := hb3.size
        have hW3 : w3.heap[w'.heap.size]? = some (.stringIter (S l) (pos + wd)) := by
          rw [hb3.block _ (by have := (Array.getElem?_eq_some_iff.1 (setIter_at hW (pos' := pos + wd))).1; exact this)]
          exact setIter_at hW
        have hB3 : Below w'.heap.size w' w3 := (setIter_below (S l) (pos + wd) hB (Nat.le_refl _)).trans (hb3.mono (by have := hB.size; simp [World.setIter]; omega))
        go_wp2
        go_round
        case rel => exact ⟨pos + wd, hc4, hW3, HN2.out, hB3⟩
        case measure => rw [hip, iterPos_at hW3]; omega
    · obtain rfl : pos = l.length := by omega
      have hn := fun ty => run_next_over (P := Tryz.prog) wr w'.heap.size (S l) l.length ty hW (by rw [S_size]; omega)
      have HE := Lib.hid (Lib.indexAny_none HNO.out)
      go_wp2
      go_ret
      exact ⟨ret_int (by rw [← HR.out, HE.out]), hB⟩

theorem indexAny2 (l : List UInt8) (hl : l.length ≤ 1000000) (w : World) : Calls Tryz.prog 40 #[.string (S l), .string (S [47, 63])] w fun e w' => e = .returned (.int .i64 (Lib.indexAny l [47, 63])) ∧ Below w.heap.size w w' := by
  by_cases h8 : l.length ≤ 8
  · exact indexAny_short l h8 w
  · refine (Tryz.strings_IndexAny_long (fun W => by kernel_rfl) (S l) (S [47, 63]) w (by rw [S_size]; decide) (by rw [S_size]; omega) (by rw [S_size]; omega) (by rw [S_size]; decide) (fun j b hb => by
      rw [S_data] at hb
      have := List.mem_of_getElem? hb
      simp at this
      rcases this with rfl | rfl <;> decide)).mono fun e w' ⟨h1, h2⟩ => ⟨h1.trans (by rw [S_data, S_data]), ?_⟩
    subst h2
    exact ((Below.refl _ _).alloc (Nat.le_refl _) _).alloc (by simp) _
end Go.Proofs.YtgjemgilanhdiaaGreatDoor
