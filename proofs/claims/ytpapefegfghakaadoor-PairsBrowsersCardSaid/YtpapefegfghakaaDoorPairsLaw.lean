/- The laws on pairs: what they share. -/
import Derived.Test.YtpapefegfghakaaDoorPairsCookies2
import Derived.Test.YtpapefegfghakaaDoorPairsSame
namespace Go.Proofs.YtpapefegfghakaaDoor
open Go.RowKit Go.Sort Go.Shelf
set_option linter.unusedVariables false

theorem alive_query : queryL [97, 61, 49, 38, 98, 61, 120, 37, 50, 66, 121, 43, 122] = [([97], [49]), ([98], [120, 43, 121, 32, 122])] := by decide +kernel

set_option maxHeartbeats 800000 in
theorem pairs_alive (w : World) (hM : ∃ m, w.cell? ⟨0, 0, none⟩ = some (.int .i64 m)) : Calls Tryd.prog 9 #[] w fun e w' => e = .returned (.bool true) ∧ Below w.heap.size w w' := by
  have C := Lib.hid (fun W h => pairsQuery [97, 61, 49, 38, 98, 61, 120, 37, 50, 66, 121, 43, 122] (by decide) W h)
  rw [alive_query] at C
  go_enter Tryd.func9, Tryd.ntmps9
  go_wp2_with fail
  refine Calls.mono (C.out _ hM) ?_
  rintro e w1 ⟨v, rfl, hown, hb⟩
  obtain ⟨ao, cap, rfl, hc1, hc2, _, hcell⟩ := hown.reads
  have hm : maxLen = 9223372036854775807 := rfl
  rw [hm] at hc2
  obtain ⟨b, off, rfl, hb, hcl⟩ := hcell (by decide)
  obtain ⟨e1, e2⟩ := hcl 1 (by decide)
  simp only [List.getElem_cons_succ, List.getElem_cons_zero] at e1 e2
  simp only [List.length_cons, List.length_nil] at hc1 ⊢
  clear hcl hcell hown
  go_wp2
  go_ret
  refine ⟨ret_bool (by simp), ?_⟩
  assumption

theorem pairs_short (l : List UInt8) (hl : l.length ≤ 9223372036854775807) (w : World) : Calls Tryd.prog 15 #[.string (S l)] w fun e w' => e = .returned (.string (S (l.take 600))) ∧ w' = w := by
  obtain ⟨m, hm, hml⟩ : ∃ m : Nat, min (l.length : Int) 600 = m ∧ m ≤ l.length := ⟨min l.length 600, by omega, by omega⟩
  have e : l.take 600 = l.take m := by
    by_cases h : 600 ≤ l.length
    · obtain rfl : m = 600 := by omega
      rfl
    · obtain rfl : m = l.length := by omega
      rw [List.take_length, List.take_of_length_le (by omega)]
  rw [e]
  clear e
  go_enter Tryd.func15, Tryd.ntmps15
  go_wp2
  go_ret
  exact ⟨by simp, rfl⟩
end Go.Proofs.YtpapefegfghakaaDoor
