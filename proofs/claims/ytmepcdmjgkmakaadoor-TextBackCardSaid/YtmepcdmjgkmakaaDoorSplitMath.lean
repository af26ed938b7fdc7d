/- Parting a text at a byte, but not within quotes: the plain law, by one state (within quotes or not). No program in sight. -/
import Derived.Test.YtmepcdmjgkmakaaDoorStr
namespace Go.Proofs.YtmepcdmjgkmakaaDoor
set_option linter.unusedVariables false

/-- The parts, untrimmed; none: the quotes do not end. The first Boolean: within quotes. -/
def parts (b : UInt8) : Bool → List UInt8 → List UInt8 → Option (List (List UInt8))
  | false, part, [] => some [part]
  | true, _, [] => none
  | false, part, c :: s => if c = 34 then parts b true (part ++ [c]) s else if c = b then (parts b false [] s).map (part :: ·) else parts b false (part ++ [c]) s
  | true, part, [c] => if c = 34 then some [part ++ [c]] else none
  | true, part, c :: d :: s => if c = 34 then parts b false (part ++ [c]) (d :: s) else if c = 92 then parts b true (part ++ [c, d]) s else parts b true (part ++ [c]) (d :: s)

theorem parts_quote (b : UInt8) (part s : List UInt8) : parts b true part (34 :: s) = parts b false (part ++ [34]) s := by
  cases s <;> simp [parts]
theorem parts_plain {b c : UInt8} {part s : List UInt8} (h1 : c ≠ 34) (h2 : c ≠ 92) : parts b true part (c :: s) = parts b true (part ++ [c]) s := by
  cases s <;> simp [parts, h1, h2]
/-- Within quotes the parting byte does not part; a text without quotes and without it is one part. -/
theorem parts_one {b : UInt8} : ∀ (s part : List UInt8), (34 : UInt8) ∉ s → b ∉ s → parts b false part s = some [part ++ s]
  | [], part, _, _ => by simp [parts]
  | c :: s, part, h1, h2 => by
    have e1 : c ≠ 34 := fun e => h1 (by simp [e])
    have e2 : c ≠ b := fun e => h2 (by simp [e])
    rw [parts, if_neg e1, if_neg e2, parts_one s (part ++ [c]) (fun h => h1 (by simp [h])) (fun h => h2 (by simp [h]))]
    simp

/-- The state at place i, the part begun at place f. -/
def St (b : UInt8) (l : List UInt8) (q : Bool) (f i : Nat) : Option (List (List UInt8)) := parts b q ((l.take i).drop f) (l.drop i)
theorem part_more {l : List UInt8} {f i : Nat} (h : i < l.length) (hf : f ≤ i) : (l.take (i + 1)).drop f = (l.take i).drop f ++ [l[i]] := by
  rw [List.take_succ_eq_append_getElem h, List.drop_append_of_le_length (by simp; omega)]
theorem drop_at {l : List UInt8} {i : Nat} (h : i < l.length) : l.drop i = l[i] :: l.drop (i + 1) := List.drop_eq_getElem_cons h
theorem St_quote {b : UInt8} {l : List UInt8} {q : Bool} {f i : Nat} (h : i < l.length) (hf : f ≤ i) (hc : l[i] = 34) : St b l q f i = St b l (!q) f (i + 1) := by
  unfold St
  rw [drop_at h, part_more h hf, hc]
  cases q
  · simp [parts]
  · rw [parts_quote]; rfl
theorem St_esc {b : UInt8} {l : List UInt8} {f i : Nat} (h : i < l.length) (hf : f ≤ i) (hc : l[i] = 92) : St b l true f i = St b l true f (i + 2) := by
  unfold St
  by_cases h2 : i + 1 < l.length
  · rw [drop_at h, drop_at h2, part_more h2 (by omega), part_more h hf, hc]
    simp [parts]
  · rw [drop_at h, List.drop_eq_nil_of_le (by omega : l.length ≤ i + 1), List.drop_eq_nil_of_le (by omega : l.length ≤ i + 2), hc]
    simp [parts]
theorem St_by {b : UInt8} {l : List UInt8} {f i : Nat} (h : i < l.length) (hc : l[i] = b) (hb : b ≠ 34) : St b l false f i = (St b l false (i + 1) (i + 1)).map ((l.take i).drop f :: ·) := by
  unfold St
  rw [drop_at h, List.drop_eq_nil_of_le (by simp; omega : (l.take (i + 1)).length ≤ i + 1), hc]
  simp [parts, hb]
theorem St_plain {b : UInt8} {l : List UInt8} {q : Bool} {f i : Nat} (h : i < l.length) (hf : f ≤ i) (hc : l[i] ≠ 34) (hq : q = true → l[i] ≠ 92) (hb : q = false → l[i] ≠ b) : St b l q f i = St b l q f (i + 1) := by
  unfold St
  rw [drop_at h, part_more h hf]
  cases q
  · simp [parts, hc, hb rfl]
  · rw [parts_plain hc (hq rfl)]
theorem St_end {b : UInt8} {l : List UInt8} {f i : Nat} (h : l.length ≤ i) : St b l false f i = some [l.drop f] := by
  unfold St
  rw [List.drop_eq_nil_of_le h, List.take_of_length_le h]; rfl
theorem St_in {b : UInt8} {l : List UInt8} {f i : Nat} (h : l.length ≤ i) : St b l true f i = none := by
  unfold St
  rw [List.drop_eq_nil_of_le h]; rfl
end Go.Proofs.YtmepcdmjgkmakaaDoor
