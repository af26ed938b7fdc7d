/- A text's lines, handed on one by one: the iterator's contract. -/
import Derived.Test.YtpklbelhdfkjpaaDoorHeadMath
import Derived.Test.YtpklbelhdfkjpaaDoorRound
import Derived.Test.YtpklbelhdfkjpaaDoorStrs
import Derived.Shelf.RegionOpen
import Derived.WalkKit
import Derived.TacticsInMore
import Derived.LoopNIn
import Derived.LoopIn
namespace Go.Proofs.YtpklbelhdfkjpaaDoor
open Go.RowKit Go.Shelf
set_option linter.unusedVariables false
attribute [local go_sem] Oper.semAt_some

/-- A line with the place behind its end, both within bounds. -/
abbrev Ln (m : Nat) := { x : List UInt8 × Nat // x.1.length ≤ m ∧ x.2 ≤ m }
def encLn {m : Nat} (x : Ln m) : Array Value := #[.string (S x.1.1), .int .i64 (x.1.2 : Int)]
@[go_sem] theorem encLn_eq {m : Nat} (x : Ln m) : encLn x = #[.string (S x.1.1), .int .i64 (x.1.2 : Int)] := rfl
/-- Block b stays as it is. -/
def KeepsB (b : Nat) (W W' : World) : Prop := W'.heap[b]? = W.heap[b]?
theorem keepsB_t {b : Nat} {A B C : World} (h : KeepsB b A B) (k : KeepsB b B C) : KeepsB b A C := Eq.trans k h
theorem keepsB_b {b : Nat} {w : World} (hb : b < w.heap.size) (W : World) (l : Nat) (o o' : Obj) (hl : w.heap.size ≤ l) (_ : W.heap[l]? = some o) (_ : o.isCells = false) (_ : o.isWalk = false) : KeepsB b W (W.putObj l o') := World.putObj_heap_other (by omega)
def vals {m : Nat} (xs : List (Ln m)) : List (List UInt8 × Nat) := xs.map Subtype.val
theorem vals_snoc {m : Nat} (xs : List (Ln m)) (x : Ln m) : vals (xs ++ [x]) = vals xs ++ [x.1] := by simp [vals]

theorem trimSuffix13 {l x : List UInt8} (hl : l.length ≤ 4611686018427387903) (h : bare l = x) (w : World) : Calls Tryd.prog 36 #[.string (S l), .string (S [13])] w fun e w' => e = .returned (.string (S x)) ∧ w' = w :=
  (Tryd.strings_TrimSuffix (S l) ⟨#[13]⟩ w (by rw [S_size]; omega)).mono fun e w' ⟨h1, h2⟩ => ⟨h1.trans (by rw [← h, S_data]; rfl), h2⟩

set_option maxRecDepth 100000 in
set_option maxHeartbeats 2000000 in
theorem lines1_in (l Bn : Nat) (s : List UInt8) (hs : s.length ≤ 4611686018427387903) (J Jx : List (Ln s.length) → World → Prop)
    (hY : ∀ pre x W, J pre W → pre.length < (linesG 0 [] s).length → YieldAt Fence.wide 2 Tryd.prog l (encLn x) W fun e W' =>
      (e = .returned (.bool true) ∧ J (pre ++ [x]) W' ∧ KeepsB Bn W W') ∨ (e = .returned (.bool false) ∧ Jx (pre ++ [x]) W'))
    (W : World) (hBn : W.cell? ⟨Bn, 0, none⟩ = some (.string (S s))) (h0 : J [] W) :
    CallsIn Fence.wide 3 Tryd.prog 34 #[.func (.yield l) #[] #[], .pointer (some ⟨Bn, 0, none⟩)] W fun e W' => (∃ v, e = .returned v) ∧
      ((∃ ys, vals ys = linesG 0 [] s ∧ J ys W') ∨ (∃ pre, vals pre <+: linesG 0 [] s ∧ Jx pre W')) := by
  have HS := Lib.hid hs
  refine callsIn_of_wp Tryd.func34 rfl trivial ?_ rfl
  simp only [Tryd.ntmps34, List.size_toArray, List.length_cons, List.length_nil, Nat.reduceAdd, Nat.reduceSub, Array.replicate_succ, Array.replicate_zero, List.push_toArray, List.append_toArray, List.nil_append, List.cons_append]
  gi_wp2
  gi_loopw [3] (fun av wr => ∃ (k : Nat) (pre : List (Ln s.length)), av = .int .i64 k ∧ k ≤ s.length ∧ vals pre ++ linesG k [] (s.drop k) = linesG 0 [] s ∧ J pre wr ∧ KeepsB Bn W wr)
    (fun av _ => s.length - (intOf av).toNat)
  case atStart => exact ⟨0, [], rfl, Nat.zero_le _, by simp [vals], h0, rfl⟩
  case round =>
    obtain ⟨k, pre, rfl, hk, hpre, hJ, hB⟩ := hrel
    have hc := (World.cell?_of_block (a := ⟨Bn, 0, none⟩) hB).trans hBn
    by_cases hlt : k < s.length
    · obtain ⟨t, ht, htl⟩ : ∃ t, s.drop k = t ∧ t.length = s.length - k := ⟨_, rfl, by simp⟩
      have e1 : (s.take s.length).drop k = t := by rw [List.take_length, ht]
      rw [ht] at hpre
      have hge := Lib.indexByte_ge t 10
      by_cases hi : Lib.indexByte t 10 = -1
      · have IB := Lib.hid (fun W => indexByte_S (s := t) (c := 10) (i := -1) hi W)
        rw [linesG_none _ _ _ (idx10_none hi), List.append_nil] at hpre
        clear hi hge
        gi_wp2_with (gi_at_call 35; refine (callsIn_wide.2 (IB.out _)).mono ?_; rintro e w' ⟨rfl, rfl⟩)
        refine bodyPost_ret (results_none rfl _ _ _) rfl ?_
        exact ⟨⟨_, rfl⟩, .inl ⟨pre, hpre, hJ⟩⟩
      · obtain ⟨i, hii⟩ : ∃ i : Nat, Lib.indexByte t 10 = i := ⟨(Lib.indexByte t 10).toNat, by omega⟩
        have IB := Lib.hid (fun W => indexByte_S (s := s.drop k) (c := 10) (i := i) (by rw [ht]; exact hii) W)
        obtain ⟨hi1, _, _⟩ := idx10_parts hii
        rw [linesG_some hii, List.nil_append] at hpre
        obtain ⟨u, hu, hul⟩ : ∃ u, t.take i = u ∧ u.length = i := ⟨_, rfl, by simp; omega⟩
        have e2 : (s.take (k + i)).drop k = u := by rw [← hu, ← ht, List.drop_take]; congr 1; omega
        obtain ⟨b, hb⟩ : ∃ b, bare u = b := ⟨_, rfl⟩
        have hbl : b.length ≤ i := by rw [← hb, ← hul]; exact bare_len u
        have TS := Lib.hid (fun W => trimSuffix13 (by omega) hb W)
        rw [hu, hb] at hpre
        have e3 : t.drop (i + 1) = s.drop (k + i + 1) := by rw [← ht, List.drop_drop]; congr 1
        obtain ⟨xx, hxx⟩ : ∃ xx : Ln s.length, xx.1 = (b, k + i + 1) := ⟨⟨(b, k + i + 1), by show b.length ≤ _; omega, by show k + i + 1 ≤ _; omega⟩, rfl⟩
        obtain ⟨fn, tmps, assign, body, hy, hR⟩ := hY pre xx wr hJ (by rw [← hpre]; simp [vals])
        simp only [encLn, hxx] at hy
        rw [show ((k + i + 1 : Nat) : Int) = (k : Int) + ((i : Int) + 1) by omega] at hy
        have HP := Lib.hid hpre
        have E3 := Lib.hid e3
        have HR := Lib.hid hR
        have HX := Lib.hid hxx
        have HK := Lib.hid (show k + i + 1 ≤ s.length by omega)
        have hki : (k : Int) + (i : Int) ≤ (s.length : Int) := by omega
        have hul2 : k + i ≤ s.length := by omega
        clear hpre e3 hR hi hge hb htl hul hbl hii hY hxx ht e1
        gi_wp2_with (first
          | (gi_at_call 35; refine (callsIn_wide.2 (IB.out _)).mono ?_; rintro e w' ⟨rfl, rfl⟩)
          | (gi_at_call 36; refine (callsIn_wide.2 (TS.out _)).mono ?_; rintro e w' ⟨rfl, rfl⟩))
        refine HR.out.mono ?_
        rintro e W3 (⟨rfl, hJ3, hk3⟩ | ⟨rfl, hJx3⟩)
        · gi_wp2
          go_roundw
          case rel => exact ⟨k + i + 1, _, by go_num, HK.out, by rw [vals_snoc, List.append_assoc, ← HP.out, E3.out, HX.out]; rfl, hJ3, keepsB_t hB hk3⟩
          case measure => have := HK.out; simp [intOf]; omega
        · gi_wp2
          refine bodyPost_ret (results_none rfl _ _ _) rfl ?_
          refine ⟨⟨_, rfl⟩, .inr ⟨_, ?_, hJx3⟩⟩
          rw [vals_snoc, ← HP.out]
          exact ⟨_, by rw [List.append_assoc, HX.out]; rfl⟩
    · obtain rfl : k = s.length := by omega
      gi_wp2
      go_end0
      refine ⟨⟨_, rfl⟩, .inl ⟨pre, ?_, hJ⟩⟩
      rw [← hpre, List.drop_length]
      simp [linesG]

/-- The iterator's maker. -/
theorem headLines (s : List UInt8) (w : World) : Calls Tryd.prog 22 #[.string (S s)] w fun e w' => e = .returned (.func (.func 34) #[] #[.pointer (some ⟨w.heap.size, 0, none⟩)]) ∧ w' = w.alloc (.cells #[.string (S s)] 9) := by
  go_enter Tryd.func22, Tryd.ntmps22
  go_wp2
  go_ret
  exact ⟨rfl, rfl⟩

/-- It hands all lines on, in order; or a prefix of them, where a round has said 'no more'. -/
theorem lines_stops (Bn : Nat) (s : List UInt8) (hs : s.length ≤ 4611686018427387903) (w : World) (hbn : Bn < w.heap.size) (hc : w.cell? ⟨Bn, 0, none⟩ = some (.string (S s))) :
    SeqStopsK Fence.wide 3 Tryd.prog 34 #[.pointer (some ⟨Bn, 0, none⟩)] (encLn (m := s.length)) (KeepsB Bn) (fun ys => vals ys = linesG 0 [] s) (fun pre => vals pre <+: linesG 0 [] s) (linesG 0 [] s).length w := fun l J Jx W hW _ _ hY h0 =>
  lines1_in l Bn s hs J Jx hY W ((hW.cell (p := ⟨Bn, 0, none⟩) hbn).trans hc) h0
end Go.Proofs.YtpklbelhdfkjpaaDoor
