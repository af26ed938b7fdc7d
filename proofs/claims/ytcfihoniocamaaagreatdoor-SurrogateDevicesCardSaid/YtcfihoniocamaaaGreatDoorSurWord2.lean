/- The closure that parts a text and tells whether it may be: the walk. -/
import Derived.Test.YtcfihoniocamaaaGreatDoorSurWord
import Derived.Test.YtcfihoniocamaaaGreatDoorSurMath2
import Derived.Laws.EntriesVeiled
namespace Go.Proofs.YtcfihoniocamaaaGreatDoor
open Go.RowKit Go.Sort Go.Shelf
set_option linter.unusedVariables false
set_option linter.unusedSimpArgs false

theorem below_sets {B : Nat} {W w : World} (h : Below B W w) (p : Addr) (v : Value) : Below B (W.setCell p v) (w.setCell p v) := by
  refine ⟨h.os, h.tape, h.output, by simpa [World.setCell] using h.size, fun k hk => ?_⟩
  simp only [World.setCell, Array.getElem?_modify, h.block k hk]
theorem owns_one (W : World) (B : Nat) (hB : B ≤ W.heap.size) : Owns (W.alloc (.cells #[.string (S [])] 9)) B (.slice (some ⟨W.heap.size, 0, none⟩) 1 1) [[]] :=
  ⟨rfl, .inr ⟨W.heap.size, 1, #[.string (S [])], rfl, hB, by show (W.heap.push _)[W.heap.size]? = _; rw [Array.getElem?_push_size], Nat.le_refl _, by decide, rfl, rfl⟩⟩
def okFn (qi : Nat) : Value := .func (.func 75) #[] #[.pointer (some ⟨qi, 0, none⟩)]

set_option maxHeartbeats 1600000 in
set_option maxRecDepth 100000 in
theorem surSplitC (qi qo : Nat) (hne : qi < qo) (b : Bool) (s : List UInt8) (hs : s.length ≤ 1000000) (c : UInt8) (W : World) (hi : W.cell? ⟨qi, 0, none⟩ = some (.bool b)) (fi : W.frozen? ⟨qi, 0, none⟩ = false) (ho : W.cell? ⟨qo, 0, none⟩ = some (okFn qi)) (lo : qo < W.heap.size) :
    Calls Tryz.prog 76 #[.string (S s), .int .u8 (c.toNat : Int), .pointer (some ⟨qo, 0, none⟩)] W fun e w' => ∃ v, e = .returned v ∧ Owns w' W.heap.size v ((splitL c s).getD [[]]) ∧ Below (W.setCell ⟨qi, 0, none⟩ (.bool (b && (splitL c s).isSome))).heap.size (W.setCell ⟨qi, 0, none⟩ (.bool (b && (splitL c s).isSome))) w' := by
  have SP := Lib.hid (fun W => textSplit s c (by omega) W)
  have OK := Lib.hid (fun b x W hc hf => surOk qi b x W hc hf)
  have eg := enters_of (P := Tryz.prog) Tryz.func75 (by kernel_rfl) rfl
  unfold SplitTo at SP
  unfold okFn at ho
  have hfi := far (show qi < W.heap.size by omega)
  have hfo := far lo
  have hio := far hne
  cases hsp : splitL c s with
  | none =>
    rw [hsp] at SP
    clear hsp
    obtain ⟨z, hz⟩ : ∃ z : Int, (c.toNat : Int) = z := ⟨_, rfl⟩
    rw [hz] at SP ⊢
    go_enter Tryz.func76, Tryz.ntmps76
    go_wp2_with (first
      | (go_at_call 48; refine Calls.mono (SP.out _) ?_; rintro e w1 ⟨v1, ho1, rfl, hb1⟩; have HB1 := Lib.hid hb1; have hz1 := hb1.size; have c1 := (hb1.cell (p := ⟨qi, 0, none⟩) (show qi < W.heap.size by omega)).trans hi; have f1 := (hb1.frozen (p := ⟨qi, 0, none⟩) (show qi < W.heap.size by omega)).trans fi; have c2 := (hb1.cell (p := ⟨qo, 0, none⟩) lo).trans ho; have ff1 := far (show qi < w1.heap.size by omega); have ff2 := far (show qo < w1.heap.size by omega); clear ho1 hb1; simp only [errOf])
      | (go_at_call 75; refine Calls.mono (OK.out b false _ (by assumption) (by assumption)) ?_; rintro e w' ⟨⟨r, rfl⟩, hw'⟩; subst hw')
      | fail)
    go_ret
    refine ⟨.slice (some ⟨w1.heap.size, 0, none⟩) 1 1, rfl, ?_, ?_⟩
    · have h := owns_one (w1.setCell ⟨qi, 0, none⟩ (.bool false)) W.heap.size (by simpa using hz1)
      simpa using h
    · have h := below_sets HB1.out ⟨qi, 0, none⟩ (.bool false)
      have h2 := Below.alloc h (by simpa using hz1) (.cells #[.string (S [])] 9)
      simpa using h2
  | some L =>
    rw [hsp] at SP
    clear hsp
    obtain ⟨z, hz⟩ : ∃ z : Int, (c.toNat : Int) = z := ⟨_, rfl⟩
    rw [hz] at SP ⊢
    go_enter Tryz.func76, Tryz.ntmps76
    go_wp2_with (first
      | (go_at_call 48; refine Calls.mono (SP.out _) ?_; rintro e w1 ⟨v1, ho1, rfl, hb1⟩; have HO1 := Lib.hid ho1; have HB1 := Lib.hid hb1; have hz1 := hb1.size; have c1 := (hb1.cell (p := ⟨qi, 0, none⟩) (show qi < W.heap.size by omega)).trans hi; have f1 := (hb1.frozen (p := ⟨qi, 0, none⟩) (show qi < W.heap.size by omega)).trans fi; have c2 := (hb1.cell (p := ⟨qo, 0, none⟩) lo).trans ho; have ff1 := far (show qi < w1.heap.size by omega); have ff2 := far (show qo < w1.heap.size by omega); clear ho1 hb1; simp only [errOf])
      | (go_at_call 75; refine Calls.mono (OK.out b true _ (by assumption) (by assumption)) ?_; rintro e w' ⟨⟨r, rfl⟩, hw'⟩; subst hw')
      | fail)
    go_ret
    refine ⟨_, rfl, ?_, ?_⟩
    · have h := HO1.out
      refine World.ownsRow.kept h (grownBy_setCell' w1 qi _) (.inr fun e => ?_)
      have := (World.ownsRow.lt h qi e).1
      omega
    · have h := below_sets HB1.out ⟨qi, 0, none⟩ (.bool b)
      simpa using h
end Go.Proofs.YtcfihoniocamaaaGreatDoor
