/- The laws on what is for the next one alone: what they share. -/
import Derived.Test.YtcfihoniocamaaaGreatDoorPk21
import Derived.Deep.DeepCutAuto
namespace Go.Proofs.YtcfihoniocamaaaGreatDoor
open Go.RowKit Go.Sort Go.Shelf
set_option linter.unusedVariables false

theorem few_hop (xs : List Fld) : HopRow (fewL xs) := ⟨Nat.le_trans (fewL_len xs) (by omega), fun f hf => by
  obtain ⟨g, _, rfl⟩ := List.mem_map.1 hf
  exact ⟨by simp [cutF]; omega, by simp [cutF]; omega⟩⟩
theorem strip_hop {L : List Fld} (h : HopRow L) : HopRow (stripL L) := ⟨Nat.le_trans (List.length_filter_le _ _) h.len, fun f hf => h.each f (List.mem_filter.1 hf).1⟩
theorem mlen_later {w : World} (h : ∃ m, w.cell? ⟨0, 0, none⟩ = some (.int .i64 m)) (W : World) (hb : Below w.heap.size w W) : ∃ m, W.cell? ⟨0, 0, none⟩ = some (.int .i64 m) := by
  obtain ⟨m, hm⟩ := h
  exact ⟨m, (hb.cell (p := ⟨0, 0, none⟩) (block_lt_of_cell hm)).trans hm⟩
theorem like_true (L : List Fld) (v1 v2 : Value) (W : World) (h1 : ReadsF W v1 L) (h2 : ReadsF W v2 L) : Calls Tryz.prog 12 #[v1, v2] W fun e w' => e = .returned (.bool true) ∧ Below W.heap.size W w' := by
  have h := refLike v1 v2 L L W h1 h2
  rw [show (L == L) = true by simp] at h
  exact h
end Go.Proofs.YtcfihoniocamaaaGreatDoor
