/- The document's bytes that no text has: the walk. -/
import Derived.Test.YtenflcaalckdfaaGreatDoorVv12
namespace Go.Proofs.YtenflcaalckdfaaGreatDoor
open Go.RowKit Go.Sort Go.Shelf
set_option linter.unusedVariables false

set_option maxHeartbeats 800000 in
theorem refControl (c : UInt8) (w : World) : Calls Tryz.prog 110 #[.int .u8 (c.toNat : Int)] w fun e w' => e = .returned (.bool (ctlB c)) ∧ w' = w := by
  have hc256 := c.toNat_lt
  unfold ctlB
  obtain ⟨n, hn⟩ : ∃ n, c.toNat = n := ⟨_, rfl⟩
  rw [hn] at hc256 ⊢
  clear hn
  by_cases h1 : n < 32
  · by_cases h2 : n = 9
    · subst h2
      go_enter Tryz.func110, Tryz.ntmps110
      go_wp2
      go_ret
      exact ⟨rfl, rfl⟩
    · have e : ((decide (n < 32) && !decide (n = 9)) || decide (n = 127)) = true := by simp [h1, h2]
      rw [e]
      have h3 : ((n : Int) != 9) = true := by simp; omega
      clear e
      go_enter Tryz.func110, Tryz.ntmps110
      go_wp2
      go_ret
      exact ⟨rfl, rfl⟩
  · have e : ((decide (n < 32) && !decide (n = 9)) || decide (n = 127)) = decide (n = 127) := by simp [h1]
    rw [e]
    clear e
    have h1i : (32 : Int) ≤ n := by omega
    by_cases h2 : n = 127
    · subst h2
      go_enter Tryz.func110, Tryz.ntmps110
      go_wp2
      go_ret
      exact ⟨rfl, rfl⟩
    · have h3 : ((n : Int) == 127) = false := by simp; omega
      rw [decide_eq_false h2]
      go_enter Tryz.func110, Tryz.ntmps110
      go_wp2
      go_ret
      exact ⟨rfl, rfl⟩
end Go.Proofs.YtenflcaalckdfaaGreatDoor
