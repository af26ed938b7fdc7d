/- Rows of fields: which may be, added, found, taken out: the plain law. No program in sight. First lines that may be; what a request asks: plain words. -/
import Derived.Test.YtgjemgilanhdiaaGreatDoorRf2
import Derived.Test.YtgjemgilanhdiaaGreatDoorRf8
import Derived.Test.YtgjemgilanhdiaaGreatDoorRf21
namespace Go.Proofs.YtgjemgilanhdiaaGreatDoor
set_option linter.unusedVariables false

def ctlB (c : UInt8) : Bool := (decide (c.toNat < 32) && !decide (c.toNat = 9)) || decide (c.toNat = 127)
def mayL (f : List UInt8 × List UInt8) : Bool := tokenL f.1 && (trim f.2 == f.2) && decide (f.2.length ≤ 1000) && !f.2.any ctlB
def rightL (L : List (List UInt8 × List UInt8)) : Bool := decide (L.length ≤ 40) && L.all mayL
def sameN (a b : List UInt8) : Bool := lower a == lower b
def addE (L : List (List UInt8 × List UInt8)) (f : List UInt8 × List UInt8) : Int := if rightL L = true ∧ mayL f = true then (if L.length < 40 then 0 else 4) else 1
def addL (L : List (List UInt8 × List UInt8)) (f : List UInt8 × List UInt8) : List (List UInt8 × List UInt8) := if addE L f = 0 then L ++ [f] else []
def removeL (L : List (List UInt8 × List UInt8)) (n : List UInt8) : List (List UInt8 × List UInt8) := L.filter fun f => !sameN f.1 n
def namedL (L : List (List UInt8 × List UInt8)) (n : List UInt8) : List (List UInt8 × List UInt8) := L.filter fun f => sameN f.1 n
end Go.Proofs.YtgjemgilanhdiaaGreatDoor
namespace Go.Proofs.YtgjemgilanhdiaaGreatDoor
set_option linter.unusedVariables false
set_option linter.unusedSimpArgs false

structure St where
  m : List UInt8
  t : List UInt8
  c : Int
  r : List UInt8
  n : Int
def targetL (l : List UInt8) : Bool := l == [42] || ((Lib.hasPrefix l [47] || Lib.hasPrefix l httpL) && decide (l.length ≤ 500) && !l.any badU)
def startOk (s : St) : Bool :=
  (decide (s.n = 0) || decide (s.n = 1)) &&
  (if s.c = 0 then s.r.isEmpty && tokenL s.m && decide (s.m.length ≤ 20) && targetL s.t
   else decide (100 ≤ s.c) && decide (s.c ≤ 599) && s.m.isEmpty && s.t.isEmpty && decide (s.r.length ≤ 100) && (trim s.r == s.r) && !s.r.any ctlB)
def localL : List UInt8 := [108, 111, 99, 97, 108, 104, 111, 115, 116]
def askT (t h : List UInt8) : List UInt8 := if Lib.hasPrefix t httpL then t else httpL ++ ((if h = [] then localL else h) ++ t)
def askR (L : List Rt) (s : St) (h : List UInt8) : UU × List UInt8 × Int :=
  if rightRt L = true ∧ startOk s = true ∧ s.c = 0 then
    (if (parseL (askT s.t h)).2 ≠ 0 then (UU.nil, [], 20)
     else if (findR L (parseL (askT s.t h)).1.h (parseL (askT s.t h)).1.p).2 ≠ 0 then (UU.nil, [], (findR L (parseL (askT s.t h)).1.h (parseL (askT s.t h)).1.p).2)
     else ((parseL (askT s.t h)).1, (findR L (parseL (askT s.t h)).1.h (parseL (askT s.t h)).1.p).1, 0))
  else (UU.nil, [], 1)

def pathB (c : UInt8) : Bool := (decide (97 ≤ c.toNat) && decide (c.toNat ≤ 122)) || decide (c.toNat = 47)
theorem pathB_good : ∀ c : UInt8, pathB c = true → badU c = false ∧ c ≠ 63 := by
  intro c
  have : ∀ n : Fin 256, pathB (UInt8.ofNat n.1) = true → badU (UInt8.ofNat n.1) = false ∧ UInt8.ofNat n.1 ≠ 63 := by decide +kernel
  have h := this ⟨c.toNat, c.toNat_lt⟩
  simpa using h
theorem clean_good {l : List UInt8} (hl : l.length ≤ 100) (h : ∀ c ∈ l, pathB c = true) : (⟨true, [107], 0, 47 :: l, false, []⟩ : UU).ok = true := by
  have h' : ∀ c ∈ (47 :: l), pathB c = true := fun c hc => by
    rcases List.mem_cons.1 hc with rfl | hc
    · decide
    · exact h c hc
  have e1 : (47 :: l).any badU = false := by
    rw [List.any_eq_false]; intro c hc; rw [(pathB_good c (h' c hc)).1]; simp
  have e2 : Lib.indexByte (47 :: l) 63 = -1 := by
    have hg := Lib.indexByte_ge (47 :: l) 63
    rcases Int.lt_or_le (Lib.indexByte (47 :: l) 63) 0 with h0 | h0
    · omega
    · obtain ⟨o, ho⟩ : ∃ o : Nat, Lib.indexByte (47 :: l) 63 = o := ⟨(Lib.indexByte (47 :: l) 63).toNat, by omega⟩
      obtain ⟨h1, _⟩ := Lib.indexByte_some ho
      obtain ⟨hlt, e⟩ := List.getElem?_eq_some_iff.1 h1
      exact absurd rfl (pathB_good _ (h' _ (e ▸ List.getElem_mem hlt))).2
  show rightU true [107] 0 (47 :: l) false [] = true
  unfold rightU writeL
  rw [e1, e2]
  have e3 : hostL [107] = true := by decide
  have e4 : Lib.hasPrefix (47 :: l) [47] = true := by simp [Lib.hasPrefix]
  have e5 : httpL.length = 7 := rfl
  rw [if_pos rfl, e3, e4]
  simp [e5]; omega
theorem clean_parse {l : List UInt8} (hl : l.length ≤ 100) (h : ∀ c ∈ l, pathB c = true) : parseL (httpL ++ (107 :: 47 :: l)) = (⟨true, [107], 0, 47 :: l, false, []⟩, 0) := by
  have := write_back _ (clean_good hl h)
  have e : writeL true [107] 0 (47 :: l) false [] = httpL ++ (107 :: 47 :: l) := by unfold writeL; simp
  simp only [Int.toNat_zero] at this
  rw [e] at this
  exact this
theorem clean_target {l : List UInt8} (hl : l.length ≤ 100) (h : ∀ c ∈ l, pathB c = true) : targetL (47 :: l) = true ∧ targetL (httpL ++ (107 :: 47 :: l)) = true ∧ Lib.hasPrefix (47 :: l) httpL = false ∧ Lib.hasPrefix (httpL ++ (107 :: 47 :: l)) httpL = true := by
  have h' : ∀ c ∈ (47 :: l), pathB c = true := fun c hc => by
    rcases List.mem_cons.1 hc with rfl | hc
    · decide
    · exact h c hc
  have e1 : (47 :: l).any badU = false := by
    rw [List.any_eq_false]; intro c hc; rw [(pathB_good c (h' c hc)).1]; simp
  have e2 : (httpL ++ (107 :: 47 :: l)).any badU = false := by
    rw [List.any_append, List.any_cons, e1]; decide
  have e4 : Lib.hasPrefix (47 :: l) [47] = true := by simp [Lib.hasPrefix]
  have e5 : Lib.hasPrefix (httpL ++ (107 :: 47 :: l)) httpL = true := by
    unfold Lib.hasPrefix
    rw [List.isPrefixOf_iff_prefix]
    exact List.prefix_append _ _
  have e6 : Lib.hasPrefix (47 :: l) httpL = false := by
    unfold Lib.hasPrefix httpL
    simp [List.isPrefixOf]
  have e7 : httpL.length = 7 := rfl
  refine ⟨?_, ?_, e6, e5⟩
  · unfold targetL; rw [e1, e4]; simp; omega
  · unfold targetL; rw [e2, e5]; simp [e7]; omega
end Go.Proofs.YtgjemgilanhdiaaGreatDoor
