/- The laws' known text; texts cut short (without the document's parting). -/
import Derived.Test.YtmepcdmjgkmakaaDoorTextSplit
namespace Go.Proofs.YtmepcdmjgkmakaaDoor
open Go.RowKit Go.Sort Go.Shelf
set_option linter.unusedVariables false

theorem textSplit_to {l : List UInt8} {b : UInt8} {er : Int} {L : List (List UInt8)} (hl : l.length ≤ 1099511627776) (hL : (splitL b l).getD [] = L) (her : errOf (splitL b l) = er) (w : World) :
    Calls Tryd.prog 9 #[.string (S l), .int .u8 (b.toNat : Int)] w fun e w' => ∃ v, Owns w' w.heap.size v L ∧ e = .returned (.tuple #[v, .int .i64 er]) ∧ Below w.heap.size w w' := by
  subst hL; subst her; exact textSplit l b hl w
theorem alive_split : splitL 44 [97, 44, 32, 98] = some [[97], [98]] := by decide

set_option maxHeartbeats 800000 in
set_option maxRecDepth 100000 in
theorem alive (w : World) : Calls Tryd.prog 7 #[] w fun e w' => e = .returned (.bool true) ∧ Below w.heap.size w w' := by
  have hc := fun W => textSplit_to (l := [97, 44, 32, 98]) (b := 44) (er := 0) (L := [[97], [98]]) (by decide) (by decide) (by decide) W
  go_enter Tryd.func7, Tryd.ntmps7
  go_wp2_with fail
  refine (hc _).mono ?_
  rintro e w1 ⟨v, hown, rfl, hb⟩
  obtain ⟨g, cap, rfl, h1, h2, h3, h4⟩ := hown.at 1 (by decide)
  have e1 := h4 1 (by decide)
  simp only [List.length_cons, List.length_nil, List.getElem_cons_succ, List.getElem_cons_zero] at e1 h1
  clear h4 hown
  go_wp2
  go_ret
  exact ⟨rfl, by assumption⟩

theorem short (l : List UInt8) (hl : l.length ≤ 9223372036854775807) (w : World) : Calls Tryd.prog 4 #[.string (S l)] w fun e w' => e = .returned (.string (S (l.take 400))) ∧ w' = w := by
  obtain ⟨m, hm, hml⟩ : ∃ m : Nat, min (l.length : Int) 400 = m ∧ m ≤ l.length := ⟨min l.length 400, by omega, by omega⟩
  have e : l.take 400 = l.take m := by
    by_cases h : 400 ≤ l.length
    · obtain rfl : m = 400 := by omega
      rfl
    · obtain rfl : m = l.length := by omega
      rw [List.take_length, List.take_of_length_le (by omega)]
  rw [e]
  clear e
  go_enter Tryd.func4, Tryd.ntmps4
  go_wp2
  go_ret
  exact ⟨by simp, rfl⟩
end Go.Proofs.YtmepcdmjgkmakaaDoor
