/- strings.Contains and strings.Cut at one byte. -/
import Derived.Test.YtcfihoniocamaaaGreatDoorStrs
namespace Go.Proofs.YtcfihoniocamaaaGreatDoor
open Go.RowKit Go.Sort Go.Shelf
set_option linter.unusedVariables false

def cut1 (l : List UInt8) (c : UInt8) : List UInt8 × List UInt8 × Bool :=
  if 0 ≤ Lib.indexByte l c then (l.take (Lib.indexByte l c).toNat, l.drop ((Lib.indexByte l c).toNat + 1), true) else (l, [], false)

theorem index1_S (l : List UInt8) (c : UInt8) (w : World) : Calls Tryz.prog 119 #[.string (S l), .string (S [c])] w fun e w' => e = .returned (.int .i64 (Lib.indexByte l c)) ∧ w' = w :=
  (Tryz.stringslite_Index_one (S l) c w).mono fun e w' ⟨h1, h2⟩ => ⟨h1.trans (by rw [S_data]), h2⟩

theorem indexByte_lt (l : List UInt8) (c : UInt8) : Lib.indexByte l c < l.length := by
  have := Lib.indexByte_ge l c
  by_cases h : Lib.indexByte l c = -1
  · omega
  · obtain ⟨i, hi⟩ : ∃ i : Nat, Lib.indexByte l c = i := ⟨(Lib.indexByte l c).toNat, by omega⟩
    obtain ⟨h1, _⟩ := Lib.indexByte_some hi
    have := (List.getElem?_eq_some_iff.1 h1).1
    omega


end Go.Proofs.YtcfihoniocamaaaGreatDoor
