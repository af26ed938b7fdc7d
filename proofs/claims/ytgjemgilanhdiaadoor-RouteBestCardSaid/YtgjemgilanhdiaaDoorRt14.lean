/- Ranging over a text's code points, at any world. strings.IndexRune at the two bytes "/?" and a code point that is not ASCII: it is not there. -/
import Derived.Test.YtgjemgilanhdiaaDoorRt13
import Derived.Laws.RangeString
import Derived.Test.YtgjemgilanhdiaaDoorRt2
import Derived.Laws.Runes
import Derived.WalkMore
namespace Go.Proofs.YtgjemgilanhdiaaDoor
open Go.RowKit
set_option linter.unusedVariables false

/-- The iterator moved on. -/
def World.setIter (w : World) (b : Nat) (s : ByteArray) (pos : Nat) : World := { w with heap := w.heap.setIfInBounds b (.stringIter s pos) }

theorem run_next_at {P : Program} (W : World) (b : Nat) (s : ByteArray) (pos c wd : Nat) (ty : TypeId) (hW : W.heap[b]? = some (.stringIter s pos)) (h : pos < s.size) (hd : Utf8.decode s pos = (c, wd)) :
    (Instr.next (.pointer (some ⟨b, 0, none⟩)) true ty).run P W = .ok (.tuple #[.bool true, .int .i64 pos, .int .i32 c]) (World.setIter W b s (pos + wd)) := by
  simp only [Instr.next, getObj, setObj, Sem.run_bind, Sem.run, hW, Result.andThen, h, if_true, hd]
  simp [goInt, World.setIter]
theorem run_next_over {P : Program} (W : World) (b : Nat) (s : ByteArray) (pos : Nat) (ty : TypeId) (hW : W.heap[b]? = some (.stringIter s pos)) (h : ¬ pos < s.size) :
    (Instr.next (.pointer (some ⟨b, 0, none⟩)) true ty).run P W = .ok (.tuple #[.bool false]) W := by
  simp [Instr.next, getObj, Sem.run, hW, h]
theorem setIter_at {W : World} {b : Nat} {s : ByteArray} {pos pos' : Nat} (hW : W.heap[b]? = some (.stringIter s pos)) : (World.setIter W b s pos').heap[b]? = some (.stringIter s pos') := by
  have hb : b < W.heap.size := (Array.getElem?_eq_some_iff.1 hW).1
  simp [World.setIter, hb]
theorem setIter_below {B : Nat} {w W : World} {b : Nat} (s : ByteArray) (pos : Nat) (h : Below B w W) (hb : B ≤ b) : Below B w (World.setIter W b s pos) :=
  h.trans ⟨rfl, rfl, rfl, by simp [World.setIter], fun k hk => by
    show (W.heap.setIfInBounds b _)[k]? = _
    rw [Array.getElem?_setIfInBounds_ne (by omega)]⟩
theorem iter_below {B : Nat} {w W : World} (s : ByteArray) (pos : Nat) (h : Below B w W) (hB : B ≤ W.heap.size) : Below B w (W.iter s pos) := h.alloc hB _
/-- Where an iterator stands. -/
def iterPos (w : World) (b : Nat) : Nat := match w.heap[b]? with | some (.stringIter _ p) => p | _ => 0
theorem iterPos_at {w : World} {b : Nat} {s : ByteArray} {p : Nat} (h : w.heap[b]? = some (.stringIter s p)) : iterPos w b = p := by unfold iterPos; rw [h]
end Go.Proofs.YtgjemgilanhdiaaDoor
namespace Go.Proofs.YtgjemgilanhdiaaDoor
open Go.RowKit
set_option linter.unusedVariables false

set_option maxHeartbeats 1600000 in
set_option maxRecDepth 1000000 in
theorem indexRune_error (w : World) : Calls Tryd.prog 39 #[.string (S [47, 63]), .int .i32 65533] w fun e w' => e = .returned (.int .i64 (-1)) ∧ Below w.heap.size w w' := by
  have hs0 : (w.iter (S [47, 63]) 0).heap[w.heap.size]? = some (.stringIter (S [47, 63]) 0) := World.iter_heap _ _ _
  go_enter Tryd.func39, Tryd.ntmps39
  go_wp2
  try simp only [mk_S]
  go_loopw [] (fun wr => ∃ pos : Nat, pos ≤ 2 ∧ wr.heap[w.heap.size]? = some (.stringIter (S [47, 63]) pos) ∧ Below w.heap.size w wr) (fun wr => 2 - iterPos wr w.heap.size)
  case atStart => exact ⟨0, by omega, hs0, iter_below _ _ (Below.refl _ _) (Nat.le_refl _)⟩
  case round =>
    obtain ⟨pos, hp, hW, hB⟩ := hrel
    have hip := iterPos_at hW
    by_cases h2 : pos < 2
    · obtain ⟨d, hd, hne⟩ : ∃ d : Nat, Utf8.decode (S [47, 63]) pos = (d, 1) ∧ d < 128 := by
        rcases (by omega : pos = 0 ∨ pos = 1) with rfl | rfl
        · exact ⟨47, by decide, by decide⟩
        · exact ⟨63, by decide, by decide⟩
      have hn := fun ty => run_next_at (P := Tryd.prog) wr w.heap.size (S [47, 63]) pos d 1 ty hW (by rw [S_size]; exact h2) hd
      have hd1 : ¬ (d : Int) = 65533 := by omega
      go_wp2
      go_round
      case rel => exact ⟨pos + 1, by omega, setIter_at hW, setIter_below _ _ hB (Nat.le_refl _)⟩
      case measure => rw [hip, iterPos_at (setIter_at hW)]; omega
    · obtain rfl : pos = 2 := by omega
      have hn := fun ty => run_next_over (P := Tryd.prog) wr w.heap.size (S [47, 63]) 2 ty hW (by rw [S_size]; simp)
      go_wp2
      go_ret
      exact ⟨rfl, hB⟩

set_option maxHeartbeats 800000 in
theorem validRune (n : Int) (h0 : 0 ≤ n) (h : n < 55296 ∨ (57343 < n ∧ n ≤ 1114111)) (w : World) : Calls Tryd.prog 51 #[.int .i32 n] w fun e w' => e = .returned (.bool true) ∧ w' = w := by
  rcases h with h1 | ⟨h1, h2⟩
  · go_enter Tryd.func51, Tryd.ntmps51
    go_wp2
    go_ret
    exact ⟨rfl, rfl⟩
  · have h3 : ¬ n < 55296 := by omega
    go_enter Tryd.func51, Tryd.ntmps51
    go_wp2
    go_ret
    exact ⟨rfl, rfl⟩

set_option maxHeartbeats 1600000 in
set_option maxRecDepth 1000000 in
theorem indexRune_two (n : Int) (a b : UInt8) (h : 128 ≤ n) (h3 : n ≠ 65533) (hv : n < 55296 ∨ (57343 < n ∧ n ≤ 1114111)) (he : Utf8.encode n = S [a, b]) (hb : (63 != bAt [a, b] 1) = true) (w : World) :
    Calls Tryd.prog 39 #[.string (S [47, 63]), .int .i32 n] w fun e w' => e = .returned (.int .i64 (-1)) ∧ Below w.heap.size w w' := by
  have HV := Lib.hid (validRune n (by omega) hv)
  have IB := Lib.hid (fun (d : Int) W => indexByte_S (s := []) (c := d) (i := -1) rfl W)
  have h5 : ¬ n < 128 := by omega
  have h6 : ¬ n = 65533 := by omega
  have h7 : 0 ≤ n := by omega
  have hu : (Tryd.prog.underlying 21).isSome = true := by kernel_rfl
  have hcv : ∀ W : World, (convert 21 9 (.int .i32 n)).run Tryd.prog W = .ok (.string (S [a, b])) W := fun W => by rw [run_convert_int_string W _ _ _ _ hu Tryd.underlying9, he]
  have hb2 : bAt [47, 63] 1 = 63 := rfl
  clear hv hu
  go_enter Tryd.func39, Tryd.ntmps39
  go_wp2_with (go_at_call 51; refine (HV.out _).mono ?_; rintro e w' ⟨rfl, rfl⟩)
  go_step3
  go_wp2_with fail
  go_loopw [9] (fun iv wr => iv = .int .i64 1 ∧ wr = w') (fun _ _ => 0)
  case atStart => exact ⟨rfl, rfl⟩
  case round =>
    obtain ⟨rfl, rfl⟩ := hrel
    go_wp2
    go_step3
    go_wp2
    go_region
    go_wp2
    go_region_with (go_at_call 50; refine (IB.out _ _).mono ?_; rintro e w' ⟨rfl, rfl⟩)
    all_goals (go_wp2; simp only [Exit.noGoto_ret]; go_wp2; simp only [Exit.noGoto_ret]; go_wp2; go_ret; exact ⟨rfl, by (repeat (first | (with_reducible exact Below.refl _ _) | (with_reducible assumption) | (with_reducible refine Below.drew ?_) | (focus ((with_reducible refine Below.setCell ?_ ?_ _); rotate_left; (first | omega | (simp <;> omega)))) | (focus ((with_reducible refine Below.alloc ?_ ?_ _); rotate_left; (first | omega | (simp <;> omega)))) | exact Below.refl _ _ | assumption | refine Below.drew ?_ | refine Below.alloc ?_ (by first | omega | (simp <;> omega)) _ | refine Below.setCell ?_ (by first | omega | (simp <;> omega)) _))⟩)

set_option maxHeartbeats 1600000 in
set_option maxRecDepth 1000000 in
theorem indexRune_more (n : Int) (rs : List UInt8) (h : 128 ≤ n) (h3 : n ≠ 65533) (hv : n < 55296 ∨ (57343 < n ∧ n ≤ 1114111)) (he : Utf8.encode n = S rs) (hr3 : 3 ≤ rs.length) (hr4 : rs.length ≤ 4) (w : World) :
    Calls Tryd.prog 39 #[.string (S [47, 63]), .int .i32 n] w fun e w' => e = .returned (.int .i64 (-1)) ∧ Below w.heap.size w w' := by
  have HV := Lib.hid (validRune n (by omega) hv)
  have IB := Lib.hid (fun (d : Int) W => indexByte_S (s := []) (c := d) (i := -1) rfl W)
  have h5 : ¬ n < 128 := by omega
  have h6 : ¬ n = 65533 := by omega
  have h7 : 0 ≤ n := by omega
  have hu : (Tryd.prog.underlying 21).isSome = true := by kernel_rfl
  have hcv : ∀ W : World, (convert 21 9 (.int .i32 n)).run Tryd.prog W = .ok (.string (S rs)) W := fun W => by rw [run_convert_int_string W _ _ _ _ hu Tryd.underlying9, he]
  have hb2 : bAt [47, 63] 1 = 63 := rfl
  clear hv hu
  go_enter Tryd.func39, Tryd.ntmps39
  go_wp2_with (go_at_call 51; refine (HV.out _).mono ?_; rintro e w' ⟨rfl, rfl⟩)
  go_step3
  go_wp2_with fail
  go_loopw [9] (fun iv wr => iv = .int .i64 ((rs.length : Int) - 1) ∧ wr = w') (fun _ _ => 0)
  case atStart => exact ⟨rfl, rfl⟩
  case round =>
    obtain ⟨rfl, rfl⟩ := hrel
    have hr5 : ¬ (rs.length : Int) - 1 < 2 := by omega
    go_wp2
    go_ret
    exact ⟨rfl, by (repeat (first | (with_reducible exact Below.refl _ _) | (with_reducible assumption) | (with_reducible refine Below.drew ?_) | (focus ((with_reducible refine Below.setCell ?_ ?_ _); rotate_left; (first | omega | (simp <;> omega)))) | (focus ((with_reducible refine Below.alloc ?_ ?_ _); rotate_left; (first | omega | (simp <;> omega)))) | exact Below.refl _ _ | assumption | refine Below.drew ?_ | refine Below.alloc ?_ (by first | omega | (simp <;> omega)) _ | refine Below.setCell ?_ (by first | omega | (simp <;> omega)) _))⟩

set_option maxRecDepth 1000000 in
/-- A code point that is not ASCII is not there. -/
theorem indexRune_high (c : Nat) (h : 128 ≤ c) (hv : Utf8.valid c = true) (w : World) : Calls Tryd.prog 39 #[.string (S [47, 63]), .int .i32 c] w fun e w' => e = .returned (.int .i64 (-1)) ∧ Below w.heap.size w w' := by
  have hv2 : (c : Int) < 55296 ∨ (57343 < (c : Int) ∧ (c : Int) ≤ 1114111) := by
    rw [Go.validRune_eq] at hv
    rcases of_decide_eq_true hv with h1 | h1
    · exact .inl h1.2
    · exact .inr h1
  by_cases h3 : c = 65533
  · rw [show (c : Int) = 65533 by omega]; exact indexRune_error w
  · obtain ⟨rs, he, h2, h4, hlast⟩ := encode_high c h hv
    have h8 : (128 : Int) ≤ (c : Int) := by omega
    have h9 : ¬ (c : Int) = 65533 := by omega
    clear h h3 hv
    generalize (c : Int) = n at *
    rcases rs with _ | ⟨a, _ | ⟨b, _ | ⟨d, r⟩⟩⟩
    · simp at h2
    · simp at h2
    · have h7 : 128 ≤ b.toNat := hlast 1 (by simp) rfl
      exact indexRune_two n a b h8 h9 hv2 he (by
        have h6 : bAt [a, b] 1 = (b.toNat : Int) := rfl
        rw [h6, bne_iff_ne]; omega) w
    · exact indexRune_more n _ h8 h9 hv2 he (by simp) h4 w
end Go.Proofs.YtgjemgilanhdiaaDoor
