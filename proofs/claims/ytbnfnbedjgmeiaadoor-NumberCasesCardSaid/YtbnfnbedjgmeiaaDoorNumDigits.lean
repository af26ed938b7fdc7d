/- The law NumberDigits: its walk. -/
import Derived.Test.YtbnfnbedjgmeiaaDoorNumLaw
namespace Go.Proofs.YtbnfnbedjgmeiaaDoor
open Go.RowKit Go.Sort Go.Shelf
set_option linter.unusedVariables false

set_option maxHeartbeats 2000000 in
set_option maxRecDepth 100000 in
theorem numberDigits (n : Nat) (hn : n < 18446744073709551616) (s : List UInt8) (hs : s.length ≤ 9223372036854775807) (w : World) (hL : Laid w) :
    Calls Tryd.prog 4 #[.int .u64 n, .string (S s)] w fun e w' => e = .returned (.bool true) ∧ Below w.heap.size w w' := by
  obtain ⟨k, hk⟩ : ∃ k : Nat, min (s.length : Int) 60 = k := ⟨min s.length 60, by omega⟩
  have hk60 : k ≤ 60 := by omega
  have hks : k ≤ s.length := by omega
  obtain ⟨l, hl⟩ : ∃ l, s.take k = l := ⟨_, rfl⟩
  have hll : l.length ≤ 60 := by rw [← hl, List.length_take]; omega
  have hl2 : l.length ≤ 4611686018427387903 := by omega
  have c1 := fun W => readDec l hl2 W
  have c2 : ∀ W, Calls Tryd.prog 12 #[.string (S l), .int .u64 10] W fun e w' => e = .returned (.tuple #[.int .u64 (readN refV 10 l).1, .int .i64 (readN refV 10 l).2]) ∧ w' = W := fun W => refRead 10 (by omega) (by omega) l hl2 W
  have c3 := fun W => readHex l hl2 W
  have c4 : ∀ W, Calls Tryd.prog 12 #[.string (S l), .int .u64 16] W fun e w' => e = .returned (.tuple #[.int .u64 (readN refV 16 l).1, .int .i64 (readN refV 16 l).2]) ∧ w' = W := fun W => refRead 16 (by omega) (by omega) l hl2 W
  have c5 := fun W => signed l hl2 W
  have c6 := fun W => refSigned l hl2 W
  rw [read_dec] at c2
  rw [read_hex] at c4
  obtain ⟨⟨a, ae⟩, ha⟩ : ∃ x, readN decV 10 l = x := ⟨_, rfl⟩
  obtain ⟨⟨c, ce⟩, hc⟩ : ∃ x, readN hexV 16 l = x := ⟨_, rfl⟩
  obtain ⟨⟨x, xe⟩, hx⟩ : ∃ x, signedN l = x := ⟨_, rfl⟩
  rw [ha] at c1 c2
  rw [hc] at c3 c4
  rw [hx] at c5 c6
  have C1 := Lib.hid (via_same (w := w) c1); have C2 := Lib.hid (via_same (w := w) c2); have C3 := Lib.hid (via_same (w := w) c3); have C4 := Lib.hid (via_same (w := w) c4); have C5 := Lib.hid (via_same (w := w) c5); have C6 := Lib.hid (via_same (w := w) c6)
  have C7 := Lib.hid (via_alive hL); have C8 := Lib.hid (via_dec hL hn); have C9 := Lib.hid (via_hex hL hn)
  have C10 := Lib.hid (via_of (w := w) fun W _ => digitsDec n hn W); have C11 := Lib.hid (via_of (w := w) fun W _ => digitsHex n hn W)
  clear c1 c2 c3 c4 c5 c6 ha hc hx hL
  have hb := Below.refl w.heap.size w
  have hsl : (s.take k).drop 0 = l := hl
  go_enter Tryd.func4, Tryd.ntmps4
  go_wp2_with (first
    | (go_at_call 11; refine (C1.out _ (by assumption)).mono ?_; rintro e w' ⟨rfl, hb⟩)
    | (go_at_call 12; with_reducible refine (C2.out _ (by assumption)).mono ?_; rintro e w' ⟨rfl, hb⟩)
    | (go_at_call 12; with_reducible refine (C4.out _ (by assumption)).mono ?_; rintro e w' ⟨rfl, hb⟩)
    | (go_at_call 8; refine (C3.out _ (by assumption)).mono ?_; rintro e w' ⟨rfl, hb⟩)
    | (go_at_call 13; refine (C5.out _ (by assumption)).mono ?_; rintro e w' ⟨rfl, hb⟩)
    | (go_at_call 14; refine (C6.out _ (by assumption)).mono ?_; rintro e w' ⟨rfl, hb⟩)
    | (go_at_call 9; refine (C7.out _ (by assumption)).mono ?_; rintro e w' ⟨rfl, hb⟩)
    | (go_at_call 10; refine (C8.out _ (by assumption)).mono ?_; rintro e w' ⟨rfl, hb⟩)
    | (go_at_call 7; refine (C9.out _ (by assumption)).mono ?_; rintro e w' ⟨rfl, hb⟩)
    | (go_at_call 15; with_reducible refine (C10.out _ (by assumption)).mono ?_; rintro e w' ⟨rfl, hb⟩)
    | (go_at_call 15; with_reducible refine (C11.out _ (by assumption)).mono ?_; rintro e w' ⟨rfl, hb⟩))
  go_ret
  exact ⟨rfl, by assumption⟩

theorem maxLen_le : maxLen ≤ 9223372036854775807 := by decide
theorem u64_nat {n : Int} (h : (Lit.int .u64 n).wf = true) : ∃ m : Nat, n = m ∧ m < 18446744073709551616 := by
  have : 0 ≤ n ∧ n ≤ 18446744073709551615 := by simpa [Lit.wf, show IntKind.u64.min = 0 from rfl, show IntKind.u64.max = 18446744073709551615 from rfl] using h
  exact ⟨n.toNat, by omega, by omega⟩
theorem numberDigits_any (n : Int) (s : ByteArray) (w : World) (h0 : (Lit.int .u64 n).wf = true) (h1 : s.size ≤ maxLen) (hL : Laid w) :
    Calls Tryd.prog 4 #[.int .u64 n, .string s] w fun e w' => e = .returned (.bool true) ∧ Below w.heap.size w w' := by
  obtain ⟨m, rfl, hm⟩ := u64_nat h0
  obtain ⟨l, rfl⟩ := S_of s
  rw [S_size] at h1
  exact numberDigits m hm l (Nat.le_trans h1 maxLen_le) w hL
end Go.Proofs.YtbnfnbedjgmeiaaDoor
