/- Names in great letters; names taken out in either order: the plain law. No program in sight. -/
import Derived.Test.YtcfihoniocamaaaGreatDoorPk3
namespace Go.Proofs.YtcfihoniocamaaaGreatDoor
set_option linter.unusedVariables false

def greatN (n : Nat) : Nat := if 97 ≤ n ∧ n ≤ 122 then n - 32 else n
def greatB (c : UInt8) : UInt8 := UInt8.ofNat (greatN c.toNat)
theorem greatN_lt (n : Nat) (h : n < 256) : greatN n < 256 := by unfold greatN; split <;> omega
theorem greatB_toNat (c : UInt8) : (greatB c).toNat = greatN c.toNat := by
  unfold greatB
  have := greatN_lt c.toNat c.toNat_lt
  simp; omega
theorem low_great (c : UInt8) : lowB (greatB c) = lowB c :=
  all_bytes (p := fun c => lowB (greatB c) = lowB c) (by decide +kernel) c
theorem lower_great (l : List UInt8) : lower (l.map greatB) = lower l := by
  unfold lower; rw [List.map_map]; apply List.map_congr_left; intro c _; exact low_great c
theorem same_great (x l : List UInt8) : sameN x (l.map greatB) = sameN x l := by unfold sameN; rw [lower_great]
theorem remove_great (L : List (List UInt8 × List UInt8)) (a b : List UInt8) : removeL (removeL L b) (a.map greatB) = removeL (removeL L a) b := by
  unfold removeL
  rw [List.filter_filter, List.filter_filter]
  congr 1
  funext f
  rw [same_great, Bool.and_comm]
theorem named_remove : ∀ (L : List (List UInt8 × List UInt8)) (a : List UInt8), (namedL L a).length + (removeL L a).length = L.length
  | [], a => rfl
  | f :: L, a => by
    have := named_remove L a
    unfold namedL removeL at *
    rw [List.filter_cons, List.filter_cons]
    cases sameN f.1 a <;> simp at * <;> omega
end Go.Proofs.YtcfihoniocamaaaGreatDoor
