/- The document's signed reading, and the law's known number. -/
import Derived.Test.YtbnfnbedjgmeiaaDoorNumDig
namespace Go.Proofs.YtbnfnbedjgmeiaaDoor
open Go.RowKit Go.Sort Go.Shelf
set_option linter.unusedVariables false

theorem refSigned (l : List UInt8) (hl : l.length ≤ 4611686018427387903) (w : World) : Calls Tryd.prog 14 #[.string (S l)] w fun e w' =>
      e = .returned (.tuple #[.int .i64 (signedN l).1, .int .i64 (signedN l).2]) ∧ w' = w := by
  cases l with
  | nil =>
    have hc := refRead 10 (by omega) (by omega) [] (by simp) w
    rw [read_dec] at hc
    have e1 : signedN [] = (0, 10) := by simp [signedN, Lib.hasPrefix, readN]
    have e2 : readN decV 10 [] = (0, 10) := by simp [readN]
    rw [e2] at hc
    rw [e1]
    go_enter Tryd.func14, Tryd.ntmps14
    go_wp2_with (go_at_call 12; refine hc.mono ?_; rintro e w' ⟨rfl, rfl⟩)
    go_ret2
    exact ⟨rfl, rfl⟩
  | cons c t =>
    have hb0 : bAt (c :: t) 0 = (c.toNat : Int) := rfl
    by_cases h : c = 45
    · subst h
      have hc := refRead 10 (by omega) (by omega) t (by simp at hl; omega) w
      rw [read_dec] at hc
      have e1 : signedN (45 :: t) = (-((readN decV 10 t).1 : Int), (readN decV 10 t).2) := by
        have hp : Lib.hasPrefix (45 :: t) [45] = true := by simp [Lib.hasPrefix]
        have hr : Lib.trimPrefix (45 :: t) [45] = t := by simp [Lib.trimPrefix, hp]
        unfold signedN; rw [if_pos hp, hr]
      rw [e1]
      have hle := readN_le decV 10 t
      obtain ⟨⟨n, er⟩, hn⟩ : ∃ x, readN decV 10 t = x := ⟨_, rfl⟩
      rw [hn] at hc hle ⊢
      simp only at hc hle ⊢
      have hb1 : bAt (45 :: t) 0 = 45 := rfl
      have hdr : ((45 :: t).take (45 :: t).length).drop 1 = t := by simp
      go_enter Tryd.func14, Tryd.ntmps14
      go_wp2_with (go_at_call 12; refine hc.mono ?_; rintro e w' ⟨rfl, rfl⟩)
      go_ret2
      exact ⟨by simp, rfl⟩
    · have hc := refRead 10 (by omega) (by omega) (c :: t) hl w
      rw [read_dec] at hc
      have hne : (bAt (c :: t) 0 == 45) = false := by
        rw [hb0]; simp only [beq_eq_false_iff_ne, ne_eq]; intro e; exact h (UInt8.toNat.inj (by have : (45 : UInt8).toNat = 45 := rfl; omega))
      have e1 : signedN (c :: t) = (((readN decV 10 (c :: t)).1 : Int), (readN decV 10 (c :: t)).2) := by
        have hp : Lib.hasPrefix (c :: t) [45] = false := by simp only [Lib.hasPrefix, List.isPrefixOf, Bool.and_true, beq_eq_false_iff_ne, ne_eq]; exact fun e => h e.symm
        unfold signedN; rw [if_neg (by rw [hp]; simp)]
      have hle := readN_le decV 10 (c :: t)
      rw [e1]
      obtain ⟨⟨n, er⟩, hn⟩ : ∃ x, readN decV 10 (c :: t) = x := ⟨_, rfl⟩
      rw [hn] at hc hle ⊢
      simp only at hc hle ⊢
      clear hb0
      go_enter Tryd.func14, Tryd.ntmps14
      go_wp2_with (go_at_call 12; refine hc.mono ?_; rintro e w' ⟨rfl, rfl⟩)
      go_ret2
      exact ⟨rfl, rfl⟩

theorem alive (w : World) (hL : Laid w) : Calls Tryd.prog 9 #[] w fun e w' => e = .returned (.bool true) ∧ Below w.heap.size w w' := by
  have hr : readN hexV 16 [48, 70, 102] = (255, 0) := by decide
  have hx : hexL 255 = [102, 102] := by decide
  have hc := readHex [48, 70, 102] (by decide) w
  rw [hr] at hc
  have hd := fmt16 255 (by decide) w hL
  rw [hx] at hd
  clear hL
  go_enter Tryd.func9, Tryd.ntmps9
  go_wp2_with (first | (go_at_call 8; refine hc.mono ?_; rintro e w' ⟨rfl, rfl⟩) | (go_at_call 7; refine hd.mono ?_; rintro e w' ⟨rfl, hb⟩))
  go_ret
  exact ⟨rfl, by assumption⟩

/-- A call that leaves what lay in w, from any world that did. -/
abbrev Via (w : World) (f : Nat) (args : Array Value) (v : Value) : Prop := ∀ W, Below w.heap.size w W → Calls Tryd.prog f args W fun e w' => e = .returned v ∧ Below w.heap.size w w'
theorem via_of {w : World} {f : Nat} {args : Array Value} {v : Value} (h : ∀ W, Below w.heap.size w W → Calls Tryd.prog f args W fun e w' => e = .returned v ∧ Below W.heap.size W w') : Via w f args v :=
  fun W hb => (h W hb).mono fun e w' h' => ⟨h'.1, hb.trans (h'.2.mono hb.size)⟩
theorem via_same {w : World} {f : Nat} {args : Array Value} {v : Value} (h : ∀ W, Calls Tryd.prog f args W fun e w' => e = .returned v ∧ w' = W) : Via w f args v :=
  fun W hb => (h W).mono fun e w' h' => ⟨h'.1, h'.2 ▸ hb⟩
theorem via_dec {w : World} (hL : Laid w) {n : Nat} (hn : n < 18446744073709551616) : Via w 10 #[.int .u64 n] (.string (S (Lib.decDigits n))) := via_of fun W hb => decC n hn W (hL.on hb)
theorem via_hex {w : World} (hL : Laid w) {n : Nat} (hn : n < 18446744073709551616) : Via w 7 #[.int .u64 n] (.string (S (hexL n))) := via_of fun W hb => fmt16 n hn W (hL.on hb)
theorem via_alive {w : World} (hL : Laid w) : Via w 9 #[] (.bool true) := via_of fun W hb => alive W (hL.on hb)
end Go.Proofs.YtbnfnbedjgmeiaaDoor
