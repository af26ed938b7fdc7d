/- Rows of bytes that a call has built: append of one byte; turned to a text. Blanks taken off a text's ends: the walks of strings.Trim at two bytes, and of the document's answer. -/
import Derived.Test.YtenflcaalckdfaaGreatDoorVv4
import Derived.Laws.AppendOwn
import Derived.Laws.IdiomStrings
import Derived.Lib.BufferRead
import Derived.Lib.AppendIntMem
import Derived.Test.YtenflcaalckdfaaGreatDoorVv3
namespace Go.Proofs.YtenflcaalckdfaaGreatDoor
open Go.RowKit
set_option linter.unusedVariables false

theorem infoU8 : (Tryz.prog.info? 5).map (fun i => (i.zero, i.size, i.bytes)) = some (some (.int .u8 0), 1, 1) := by kernel_rfl
def bcells (l : List UInt8) : List Value := l.map fun c => Value.int .u8 (c.toNat : Int)
def OwnsB (W : World) (B : Nat) (v : Value) (l : List UInt8) : Prop := W.ownsRow B 5 1 v l.length (bcells l)
theorem OwnsB.nil (W : World) (B : Nat) : OwnsB W B (.slice none 0 0) [] := World.ownsRow_nil _ _ _ _
theorem OwnsB.below {W W' : World} {B : Nat} {v : Value} {l : List UInt8} (h : OwnsB W B v l) (hb : Below W.heap.size W W') : OwnsB W' B v l := by
  obtain ⟨h1, h2⟩ := h
  refine ⟨h1, ?_⟩
  rcases h2 with h2 | ⟨g, cap, cur, h3, h4, h5, h6⟩
  · exact .inl h2
  · refine .inr ⟨g, cap, cur, h3, h4, ?_, h6⟩
    have hg : g < W.heap.size := by
      rcases Nat.lt_or_ge g W.heap.size with h | h
      · exact h
      · rw [Array.getElem?_eq_none h] at h5; cases h5
    rw [hb.block g hg]
    exact h5
theorem OwnsB.text {W : World} {B : Nat} {v : Value} {l : List UInt8} (h : OwnsB W B v l) : (convert 51 9 v).run Tryz.prog W = .ok (.string (S l)) W := by
  obtain ⟨h1, h2⟩ := h
  rcases h2 with ⟨h2, h3⟩ | ⟨g, cap, cur, h3, h4, h5, h6, h7, h8, h9⟩
  · obtain rfl : l = [] := List.length_eq_zero_iff.1 h3
    rw [h2]
    exact Lib.run_convert_nil_bytes (P := Tryz.prog) W 51 9 5 0 Tryz.underlying51 Tryz.underlying5 Tryz.underlying9
  · rw [h3]
    refine run_convert_bytes_back (P := Tryz.prog) W 51 9 5 ⟨g, 0, none⟩ cap l Tryz.underlying51 Tryz.underlying5 Tryz.underlying9 (fun j hj => ?_)
    rw [Lib.add_plain, Nat.zero_add, Joins.cell_of_block h5]
    have e := congrArg (fun l => l[j]?) h9
    simp only [List.getElem?_take] at e
    rw [if_pos (by omega)] at e
    simp only [Array.getElem?_toList] at e
    rw [e]
    simp [bcells, hj]
theorem wp_append_byte {ops : Array Oper} {rest : List Oper} {o : Oper} {a : Act} {Q : Exit → Act → World → Prop} (hgd : o.guard = none) (s x : Operand)
    (ho : o.op = .call { callee := .builtin .append, args := #[s, x], argTypes := #[51, 51] })
    (W : World) (B : Nat) (v : Value) (l : List UInt8) (c : UInt8) (z : Int) (hz : (c.toNat : Int) = z) (hown : OwnsB W B v l) (hs : a.eval s = v) (g : Nat) (hx : a.eval x = .slice (some ⟨g, 0, none⟩) 1 1) (hg : g = W.heap.size)
    (hn : l.length ≤ 4398046511104) (hB : B ≤ W.heap.size)
    (h : ∀ v' w', OwnsB w' B v' (l ++ [c]) → Below B W w' → wpList Tryz.prog ops Q rest (a.put o.dst v') w') : wpList Tryz.prog ops Q (o :: rest) a (W.alloc (.cells #[.int .u8 z] 5)) := by
  subst hg
  subst hz
  obtain ⟨i0, hi, hz0, hz1, hz2⟩ := info_parts infoU8
  have hown' : (W.alloc (.cells #[.int .u8 (c.toNat : Int)] 5)).ownsRow B 5 1 v l.length (bcells l) := World.ownsRow.alloc hown _
  refine wpList_append_own _ hgd s x 51 ho B 5 i0 (.int .u8 0) 1 1 Tryz.underlying51 hi hz0 hz1 hz2 rfl (by decide) v l.length _ hs hown' ⟨W.heap.size, 0, none⟩ 1 1 [.int .u8 (c.toNat : Int)] hx rfl ?_ ?_ ?_ ?_ ?_ ?_
  · intro j u hj
    match j, hj with
    | 0, hj => simp at hj; subst hj; simp [Addr.add]
  · intro u hu; simp at hu; subst hu; rfl
  · unfold maxLen; omega
  · omega
  · simp; omega
  · intro v' w' h1 h2 h3
    refine h v' w' (by unfold OwnsB bcells at *; simpa using h1) ?_
    refine Below.grown (w := W.alloc (.cells #[.int .u8 (c.toNat : Int)] 5)) ((Below.refl _ _).alloc hB _) h2 (by simp; omega) ?_
    intro k hk
    exact (World.ownsRow.lt hown' k hk).1
end Go.Proofs.YtenflcaalckdfaaGreatDoor
namespace Go.Proofs.YtenflcaalckdfaaGreatDoor
open Go.RowKit Go.Sort Go.Shelf
set_option linter.unusedVariables false

theorem blank_set (c : UInt8) : ([32, 9] : List UInt8).contains c = blankB c := by
  cases h1 : c == 32 <;> cases h2 : c == 9 <;> simp only [blankB, List.contains, List.elem, h1, h2] <;> rfl

set_option maxHeartbeats 800000 in
theorem trimLeftA (b : Nat) (l : List UInt8) (hl : l.length ≤ 9223372036854775807) (w : World) (hc : ∀ x : UInt8, w.cell? ⟨b, x.toNat, none⟩ = some (.bool (blankB x))) :
    Calls Tryz.prog 123 #[.string (S l), .pointer (some ⟨b, 0, none⟩)] w fun e w' => e = .returned (.string (S (trimL l))) ∧ w' = w := by
  have HC := Lib.hid hc
  clear hc
  go_enter Tryz.func123, Tryz.ntmps123
  go_wp2
  simp only [mk_S]
  go_loop [0] (fun sv => ∃ t : List UInt8, sv = .string (S t) ∧ trimL t = trimL l ∧ t.length ≤ l.length) (fun sv => strLen sv)
  case atStart => exact ⟨l, rfl, rfl, Nat.le_refl _⟩
  case round =>
    obtain ⟨t, rfl, ht, htl⟩ := hrel
    have HT := Lib.hid ht
    clear ht
    cases t with
    | nil =>
      go_wp2
      go_ret
      exact ⟨by rw [← HT.out]; rfl, rfl⟩
    | cons c t =>
      have hb0 : bAt (c :: t) 0 = (c.toNat : Int) := rfl
      have hcall := fun W h => Tryz.asciiSet_contains b c (blankB c) W h
      have hcell := HC.out c
      obtain ⟨v, hv⟩ : ∃ v, blankB c = v := ⟨_, rfl⟩
      rw [hv] at hcall hcell
      have HV := Lib.hid hv
      clear hv
      cases v with
      | true =>
        go_wp2_with (go_at_call 134; refine (hcall _ (by assumption)).mono ?_; rintro e w' ⟨rfl, rfl⟩)
        go_round
        case rel => exact ⟨t, by simp, by rw [← HT.out, trimL_blank HV.out], by simp at htl; omega⟩
        case measure => simp [strLen_S]
      | false =>
        go_wp2_with (go_at_call 134; refine (hcall _ (by assumption)).mono ?_; rintro e w' ⟨rfl, rfl⟩)
        go_ret
        exact ⟨by rw [← HT.out, trimL_stay HV.out]; rfl, rfl⟩

theorem snoc_cases (l : List UInt8) : l = [] ∨ ∃ t c, l = t ++ [c] := by
  rcases List.eq_nil_or_concat l with h | ⟨t, c, h⟩
  · exact .inl h
  · exact .inr ⟨t, c, by simpa using h⟩
theorem bAt_snoc (t : List UInt8) (c : UInt8) : bAt (t ++ [c]) t.length = (c.toNat : Int) := by
  rw [bAt_eq (by simp)]; simp

set_option maxHeartbeats 800000 in
theorem trimRightA (b : Nat) (l : List UInt8) (hl : l.length ≤ 9223372036854775807) (w : World) (hc : ∀ x : UInt8, w.cell? ⟨b, x.toNat, none⟩ = some (.bool (blankB x))) :
    Calls Tryz.prog 138 #[.string (S l), .pointer (some ⟨b, 0, none⟩)] w fun e w' => e = .returned (.string (S (trimR l))) ∧ w' = w := by
  have HC := Lib.hid hc
  clear hc
  go_enter Tryz.func138, Tryz.ntmps138
  go_wp2
  simp only [mk_S]
  go_loop [0] (fun sv => ∃ t : List UInt8, sv = .string (S t) ∧ trimR t = trimR l ∧ t.length ≤ l.length) (fun sv => strLen sv)
  case atStart => exact ⟨l, rfl, rfl, Nat.le_refl _⟩
  case round =>
    obtain ⟨t, rfl, ht, htl⟩ := hrel
    have HT := Lib.hid ht
    clear ht
    rcases snoc_cases t with rfl | ⟨t, c, rfl⟩
    · go_wp2
      go_ret
      exact ⟨by rw [← HT.out]; rfl, rfl⟩
    · have hb0 := bAt_snoc t c
      have htl2 : t.length + 1 ≤ l.length := by simpa using htl
      have hcall := fun W h => Tryz.asciiSet_contains b c (blankB c) W h
      have hcell := HC.out c
      obtain ⟨v, hv⟩ : ∃ v, blankB c = v := ⟨_, rfl⟩
      rw [hv] at hcall hcell
      have HV := Lib.hid hv
      clear hv
      cases v with
      | true =>
        go_wp2_with (go_at_call 134; refine (hcall _ (by assumption)).mono ?_; rintro e w' ⟨rfl, rfl⟩)
        go_round
        case rel => exact ⟨t, by simp, by rw [← HT.out, trimR_blank HV.out], by omega⟩
        case measure => simp [strLen_S]
      | false =>
        go_wp2_with (go_at_call 134; refine (hcall _ (by assumption)).mono ?_; rintro e w' ⟨rfl, rfl⟩)
        go_ret
        exact ⟨by rw [← HT.out, trimR_stay HV.out]; rfl, rfl⟩
end Go.Proofs.YtenflcaalckdfaaGreatDoor
