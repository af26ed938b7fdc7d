/- The law's own bound on addresses: the walk of few. What a reference tells, seen from an address: in plain words. -/
import Derived.Test.YtgjemgilanhdiaaGreatDoorRf12
import Derived.Test.YtgjemgilanhdiaaGreatDoorRf14
namespace Go.Proofs.YtgjemgilanhdiaaGreatDoor
open Go.RowKit Go.Sort Go.Shelf
set_option linter.unusedVariables false

structure UU where
  a : Bool
  h : List UInt8
  n : Int
  p : List UInt8
  q : Bool
  y : List UInt8
abbrev UU.v (u : UU) : Value := uv u.a u.h u.n u.p u.q u.y
def UU.ok (u : UU) : Bool := rightU u.a u.h u.n u.p u.q u.y
def UU.small (u : UU) : Prop := u.h.length ≤ 120 ∧ u.p.length ≤ 520 ∧ u.y.length ≤ 520

theorem take_min (l : List UInt8) (m : Nat) : l.take (min (l.length : Int) m).toNat = l.take m := by
  by_cases h : l.length ≤ m
  · rw [show (min (l.length : Int) m).toNat = l.length by omega, List.take_length, List.take_of_length_le h]
  · rw [show (min (l.length : Int) m).toNat = m by omega]

end Go.Proofs.YtgjemgilanhdiaaGreatDoor
namespace Go.Proofs.YtgjemgilanhdiaaGreatDoor
open Go.RowKit
set_option linter.unusedVariables false

theorem cFuel_len (n : Nat) : ∀ (p out : List UInt8), (cFuel n p out).length ≤ p.length + out.length := by
  induction n with
  | zero => intro p out; show out.length ≤ _; omega
  | succ n ih =>
    intro p out
    unfold cFuel
    split
    · omega
    · rename_i h
      exact Nat.le_trans (ih _ _) (cStep_out p out h)
theorem cleanL_len (p : List UInt8) : (cleanL p).length ≤ p.length := by
  have := cFuel_len p.length p []
  rw [List.length_nil, Nat.add_zero] at this
  exact this

def UU.nil : UU := ⟨false, [], 0, [], false, []⟩
def resPath (b u : UU) : List UInt8 := if u.p = [] then b.p else if bAt u.p 0 = 47 then cleanL u.p else cleanL (b.p.take (lastL b.p 47 + 1).toNat ++ u.p)
def resOut (b u : UU) : UU :=
  ⟨true, if u.a then u.h else b.h, if u.a then u.n else b.n, resPath b u, if u.p = [] ∧ u.q = false then b.q else u.q, if u.p = [] ∧ u.q = false then b.y else u.y⟩
def resolve (b u : UU) : UU × Int := if b.ok && u.ok && b.a then (if (resOut b u).ok then (resOut b u, 0) else (UU.nil, 2)) else (UU.nil, 1)

theorem resPath_len (b u : UU) (hb : b.small) (hu : u.small) : (resPath b u).length ≤ 1040 := by
  obtain ⟨h1, h2, h3⟩ := hb
  obtain ⟨h4, h5, h6⟩ := hu
  unfold resPath
  split
  · omega
  · split
    · have := cleanL_len u.p; omega
    · have := cleanL_len (b.p.take (lastL b.p 47 + 1).toNat ++ u.p)
      rw [List.length_append, List.length_take] at this
      omega
def UU.mid (u : UU) : Prop := u.h.length ≤ 1000000 ∧ u.p.length ≤ 1000000 ∧ u.y.length ≤ 1000000
theorem UU.small.mid {u : UU} (h : u.small) : u.mid := by obtain ⟨a, b, c⟩ := h; exact ⟨by omega, by omega, by omega⟩
theorem resOut_mid (b u : UU) (hb : b.small) (hu : u.small) : (resOut b u).mid := by
  have h0 := resPath_len b u hb hu
  obtain ⟨h1, h2, h3⟩ := hb
  obtain ⟨h4, h5, h6⟩ := hu
  refine ⟨?_, ?_, ?_⟩
  · show (if u.a then u.h else b.h).length ≤ _
    split <;> omega
  · show (resPath b u).length ≤ _; omega
  · show (if u.p = [] ∧ u.q = false then b.y else u.y).length ≤ _
    split <;> omega

theorem rightC (u : UU) (hu : u.mid) {W w : World} (hL : Laid w) (hb : Below w.heap.size w W) : Calls Tryz.prog 43 #[u.v] W fun e w' => e = .returned (.bool u.ok) ∧ Below W.heap.size W w' :=
  uriRight u.a u.h u.n u.p u.q u.y hu.1 hu.2.1 hu.2.2 W (hL.on hb)
theorem refRightC (u : UU) (hu : u.mid) {W w : World} (hL : Laid w) (hb : Below w.heap.size w W) : Calls Tryz.prog 28 #[u.v] W fun e w' => e = .returned (.bool u.ok) ∧ Below W.heap.size W w' :=
  refUriRight u.a u.h u.n u.p u.q u.y hu.1 hu.2.1 hu.2.2 W (hL.on hb)
end Go.Proofs.YtgjemgilanhdiaaGreatDoor
