/- What a browser is: plain words; a text in another one. No program in sight but for the library's contracts. Two rows compared; the law's known text; the texts cut: the walks. -/
import Derived.Test.YtenflcaalckdfaaGreatDoorVv13
import Derived.Test.YtenflcaalckdfaaGreatDoorVv14
import Derived.Shelf.Strings.SlTrimAscii
import Derived.Lib.IndexLaws
import Derived.Test.YtenflcaalckdfaaGreatDoorVv8
import Derived.Test.YtenflcaalckdfaaGreatDoorVv7
namespace Go.Proofs.YtenflcaalckdfaaGreatDoor
open Go.RowKit Go.Sort Go.Shelf
set_option linter.unusedVariables false

def digB (c : UInt8) : Bool := ([48, 49, 50, 51, 52, 53, 54, 55, 56, 57, 46] : List UInt8).contains c
def hasW (s t : List UInt8) : Bool := Lib.contains s t
def verL (s t : List UInt8) : List UInt8 := (Lib.cut s t).2.1.takeWhile digB
def agentB (s : List UInt8) : List UInt8 × List UInt8 :=
  if hasW s [77, 83, 73, 69] = true then ([77, 83, 73, 69], verL s [77, 83, 73, 69, 32]) else
  if hasW s [77, 111, 122, 105, 108, 108, 97] = true then ([77, 79, 90, 73, 76, 76, 65], verL s [77, 111, 122, 105, 108, 108, 97, 47]) else ([79, 84, 72, 69, 82], [])
def agentS (s : List UInt8) : List UInt8 :=
  if hasW s [87, 105, 110, 100, 111, 119, 115] = true then [87, 73, 78] else
  if hasW s [77, 97, 99] = true then [77, 65, 67] else
  if hasW s [88, 49, 49] = true then [85, 78, 73, 88] else [79, 84, 72, 69, 82]
theorem agentB_cases (s : List UInt8) : (hasW s [77, 83, 73, 69] = true ∧ agentB s = ([77, 83, 73, 69], verL s [77, 83, 73, 69, 32])) ∨
    (hasW s [77, 83, 73, 69] = false ∧ hasW s [77, 111, 122, 105, 108, 108, 97] = true ∧ agentB s = ([77, 79, 90, 73, 76, 76, 65], verL s [77, 111, 122, 105, 108, 108, 97, 47])) ∨
    (hasW s [77, 83, 73, 69] = false ∧ hasW s [77, 111, 122, 105, 108, 108, 97] = false ∧ agentB s = ([79, 84, 72, 69, 82], [])) := by
  unfold agentB
  cases h1 : hasW s [77, 83, 73, 69]
  · cases h2 : hasW s [77, 111, 122, 105, 108, 108, 97]
    · exact .inr (.inr ⟨rfl, rfl, rfl⟩)
    · exact .inr (.inl ⟨rfl, rfl, rfl⟩)
  · exact .inl ⟨rfl, rfl⟩
theorem agentS_cases (s : List UInt8) : (hasW s [87, 105, 110, 100, 111, 119, 115] = true ∧ agentS s = [87, 73, 78]) ∨
    (hasW s [87, 105, 110, 100, 111, 119, 115] = false ∧ hasW s [77, 97, 99] = true ∧ agentS s = [77, 65, 67]) ∨
    (hasW s [87, 105, 110, 100, 111, 119, 115] = false ∧ hasW s [77, 97, 99] = false ∧ hasW s [88, 49, 49] = true ∧ agentS s = [85, 78, 73, 88]) ∨
    (hasW s [87, 105, 110, 100, 111, 119, 115] = false ∧ hasW s [77, 97, 99] = false ∧ hasW s [88, 49, 49] = false ∧ agentS s = [79, 84, 72, 69, 82]) := by
  unfold agentS
  cases h1 : hasW s [87, 105, 110, 100, 111, 119, 115]
  · cases h2 : hasW s [77, 97, 99]
    · cases h3 : hasW s [88, 49, 49]
      · exact .inr (.inr (.inr ⟨rfl, rfl, rfl, rfl⟩))
      · exact .inr (.inr (.inl ⟨rfl, rfl, rfl, rfl⟩))
    · exact .inr (.inl ⟨rfl, rfl, rfl⟩)
  · exact .inl ⟨rfl, rfl⟩

theorem take_while (p : UInt8 → Bool) (r : List UInt8) : r.take (r.length - (r.dropWhile p).length) = r.takeWhile p := by
  obtain ⟨x, hx⟩ : ∃ x, r.takeWhile p = x := ⟨_, rfl⟩
  obtain ⟨y, hy⟩ : ∃ y, r.dropWhile p = y := ⟨_, rfl⟩
  have h := List.takeWhile_append_dropWhile (p := p) (l := r)
  rw [hx, hy] at h
  rw [hx, hy, ← h, List.length_append, Nat.add_sub_cancel, List.take_left]
theorem contains_S {s t : List UInt8} {b : Bool} (hs : s.length ≤ 1000000) (h : hasW s t = b) (W : World) (hM : ∃ m, W.cell? ⟨0, 0, none⟩ = some (.int .i64 m)) : Calls Tryz.prog 92 #[.string (S s), .string (S t)] W fun e w' => e = .returned (.bool b) ∧ w' = W := by
  obtain ⟨m, hm⟩ := hM
  refine (Tryz.strings_Contains (S s) (S t) m W (by rw [S_size]; omega) hm).mono fun e w' ⟨h1, h2⟩ => ⟨?_, h2⟩
  rw [h1, S_data, S_data]
  exact ret_bool h
theorem below_drewN (W : World) (n : Nat) : Below W.heap.size W (W.drewN n) := by
  induction n with
  | zero => exact Below.refl _ _
  | succ n ih => exact ih.drew
theorem cutW_S {s t r : List UInt8} (hs : s.length ≤ 1000000) (h : (Lib.cut s t).2.1 = r) (W : World) (hM : ∃ m, W.cell? ⟨0, 0, none⟩ = some (.int .i64 m)) : Calls Tryz.prog 25 #[.string (S s), .string (S t)] W fun e w' => ∃ a b, e = .returned (.tuple #[.string (S a), .string (S r), .bool b]) ∧ Below W.heap.size W w' := by
  obtain ⟨m, hm⟩ := hM
  refine (Tryz.strings_Cut (S s) (S t) m W (by rw [S_size]; omega) hm).mono fun e w' ⟨h1, n, h2⟩ => ⟨(Lib.cut s t).1, (Lib.cut s t).2.2, ?_, ?_⟩
  · rw [h1, S_data, S_data, ← h]; rfl
  · rw [h2]; exact below_drewN W n
theorem trimDig_S (r : List UInt8) (W : World) : Calls Tryz.prog 93 #[.string (S r), .string (S [48, 49, 50, 51, 52, 53, 54, 55, 56, 57, 46])] W fun e w' => e = .returned (.string (S (r.dropWhile digB))) ∧ Below W.heap.size W w' := by
  refine (Any.strings_TrimLeft_laid Tryz.lays161 (by kernel_rfl) (S r) (S [48, 49, 50, 51, 52, 53, 54, 55, 56, 57, 46]) W (by rw [S_size]; decide) (by rw [S_data]; exact ascii_of_all (by decide))).mono fun e w' ⟨h1, h2⟩ => ⟨?_, h2⟩
  rw [h1, S_data, S_data]
  rfl
theorem cut_len (s t : List UInt8) : (Lib.cut s t).2.1.length ≤ s.length := by
  unfold Lib.cut
  split
  · simp
  · simp
end Go.Proofs.YtenflcaalckdfaaGreatDoor
namespace Go.Proofs.YtenflcaalckdfaaGreatDoor
open Go.RowKit Go.Sort Go.Shelf
set_option linter.unusedVariables false

def Reads (W : World) (v : Value) (L : List (List UInt8)) : Prop :=
  ∃ ao cap, v = .slice ao L.length cap ∧ L.length ≤ cap ∧ cap ≤ maxLen ∧ (0 < L.length → ∃ b off, ao = some ⟨b, off, none⟩ ∧ b < W.heap.size ∧ ∀ j (h : j < L.length), W.cell? ⟨b, off + j, none⟩ = some (.string (S L[j])))
theorem Owns.reads {W : World} {B : Nat} {v : Value} {L : List (List UInt8)} (h : Owns W B v L) : Reads W v L := by
  obtain ⟨ao, cap, h1, h2, h3, h4, h5⟩ := h.shape
  refine ⟨ao, cap, h1, h2, h3, fun h0 => ?_⟩
  obtain ⟨g, cap', e1, e2, e3, e4, e5⟩ := h.at 0 h0
  rw [h1] at e1
  injection e1 with e6 e7 e8
  exact ⟨g, 0, e6, e4, fun j hj => by rw [Nat.zero_add]; exact e5 j hj⟩
theorem Reads.below {W W' : World} {v : Value} {L : List (List UInt8)} (h : Reads W v L) (hb : Below W.heap.size W W') : Reads W' v L := by
  obtain ⟨ao, cap, h1, h2, h3, h4⟩ := h
  refine ⟨ao, cap, h1, h2, h3, fun h0 => ?_⟩
  obtain ⟨b, off, e1, e2, e3⟩ := h4 h0
  exact ⟨b, off, e1, Nat.lt_of_lt_of_le e2 hb.size, fun j hj => by rw [hb.cell (p := ⟨b, off + j, none⟩) e2]; exact e3 j hj⟩

end Go.Proofs.YtenflcaalckdfaaGreatDoor
