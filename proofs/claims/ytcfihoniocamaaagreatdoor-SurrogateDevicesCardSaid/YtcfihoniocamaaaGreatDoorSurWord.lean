/- A value, and a part of a field: the walks of surrogate.value and surrogate.word. -/
import Derived.Test.YtcfihoniocamaaaGreatDoorSurMath
import Derived.Test.YtcfihoniocamaaaGreatDoorTextTok2
import Derived.Test.YtcfihoniocamaaaGreatDoorTextLow
import Derived.Test.YtcfihoniocamaaaGreatDoorOwnRow
import Derived.Test.YtcfihoniocamaaaGreatDoorTail
import Derived.RangeFuncBox
import Derived.Deep.RegionWith
import Derived.Deep.DeepCutAuto
namespace Go.Proofs.YtcfihoniocamaaaGreatDoor
open Go.RowKit Go.Sort Go.Shelf
set_option linter.unusedVariables false

theorem unqE_two (v : List UInt8) : unqE v = 0 ∨ unqE v = 11 := by unfold unqE; split <;> simp
/-- What value gives. -/
def valV (s : List UInt8) : List UInt8 := (valueW s).getD s
theorem surValue (s : List UInt8) (hs : s.length ≤ 1000000) (w : World) : Calls Tryz.prog 77 #[.string (S s)] w fun e w' => e = .returned (.tuple #[.string (S (valV s)), .bool (valueW s).isSome]) ∧ Below w.heap.size w w' := by
  have U := Lib.hid (fun W => textUnquote s hs W)
  have T := Lib.hid (fun W => textToken s (by omega) W)
  unfold valV valueW
  have hu := unqE_two s
  obtain ⟨ue, hue⟩ : ∃ q, unqE s = q := ⟨_, rfl⟩
  obtain ⟨ul, hul⟩ : ∃ q, unqL s = q := ⟨_, rfl⟩
  obtain ⟨tk, htk⟩ : ∃ q, tokenL s = q := ⟨_, rfl⟩
  rw [hue] at U hu ⊢
  rw [hul] at U ⊢
  rw [htk] at T ⊢
  clear hue hul htk
  rcases hu with rfl | rfl
  · rw [if_pos rfl]
    go_enter Tryz.func77, Tryz.ntmps77
    go_wp2_with (go_at_call 101; refine Calls.mono (U.out _) ?_; rintro e w1 ⟨rfl, hb1⟩)
    go_ret2
    exact ⟨rfl, hb1⟩
  · rw [if_neg (by decide)]
    cases tk with
    | true =>
      rw [if_pos rfl]
      go_enter Tryz.func77, Tryz.ntmps77
      go_wp2_with (first
        | (go_at_call 101; refine Calls.mono (U.out _) ?_; rintro e w1 ⟨rfl, hb1⟩; have hz1 := hb1.size)
        | (go_at_call 42; refine Calls.mono (T.out _) ?_; rintro e w2 ⟨rfl, hb2⟩)
        | fail)
      go_ret2
      exact ⟨rfl, hb1.trans (hb2.mono hz1)⟩
    | false =>
      rw [if_neg (by simp)]
      go_enter Tryz.func77, Tryz.ntmps77
      go_wp2_with (first
        | (go_at_call 101; refine Calls.mono (U.out _) ?_; rintro e w1 ⟨rfl, hb1⟩; have hz1 := hb1.size)
        | (go_at_call 42; refine Calls.mono (T.out _) ?_; rintro e w2 ⟨rfl, hb2⟩)
        | fail)
      go_ret2
      exact ⟨rfl, hb1.trans (hb2.mono hz1)⟩

/-- ok(x), its variable in block q: it holds what it held, and x. -/
theorem surOk (q : Nat) (b x : Bool) (W : World) (hc : W.cell? ⟨q, 0, none⟩ = some (.bool b)) (hf : W.frozen? ⟨q, 0, none⟩ = false) :
    Calls Tryz.prog 75 #[.bool x, .pointer (some ⟨q, 0, none⟩)] W fun e w' => (∃ r, e = .returned r) ∧ w' = W.setCell ⟨q, 0, none⟩ (.bool (b && x)) := by
  cases b with
  | true =>
    go_enter Tryz.func75, Tryz.ntmps75
    go_wp2
    go_end0
    exact ⟨⟨_, rfl⟩, by simp⟩
  | false =>
    go_enter Tryz.func75, Tryz.ntmps75
    go_wp2
    go_end0
    exact ⟨⟨_, rfl⟩, by simp⟩
end Go.Proofs.YtcfihoniocamaaaGreatDoor
