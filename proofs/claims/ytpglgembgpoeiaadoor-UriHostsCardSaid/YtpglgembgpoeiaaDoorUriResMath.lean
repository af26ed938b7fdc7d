/- What a reference tells, seen from an address: in plain words. -/
import Derived.Test.YtpglgembgpoeiaaDoorUriFew
namespace Go.Proofs.YtpglgembgpoeiaaDoor
open Go.RowKit
set_option linter.unusedVariables false

theorem cFuel_len (n : Nat) : ∀ (p out : List UInt8), (cFuel n p out).length ≤ p.length + out.length := by
  induction n with
  | zero => intro p out; show out.length ≤ _; omega
  | succ n ih =>
    intro p out
    unfold cFuel
    split
    · omega
    · rename_i h
      exact Nat.le_trans (ih _ _) (cStep_out p out h)
theorem cleanL_len (p : List UInt8) : (cleanL p).length ≤ p.length := by
  have := cFuel_len p.length p []
  rw [List.length_nil, Nat.add_zero] at this
  exact this

/-- No address at all. -/
def UU.nil : UU := ⟨false, [], 0, [], false, []⟩
/-- The path that is told. -/
def resPath (b u : UU) : List UInt8 := if u.p = [] then b.p else if bAt u.p 0 = 47 then cleanL u.p else cleanL (b.p.take (lastL b.p 47 + 1).toNat ++ u.p)
def resOut (b u : UU) : UU :=
  ⟨true, if u.a then u.h else b.h, if u.a then u.n else b.n, resPath b u, if u.p = [] ∧ u.q = false then b.q else u.q, if u.p = [] ∧ u.q = false then b.y else u.y⟩
def resolve (b u : UU) : UU × Int := if b.ok && u.ok && b.a then (if (resOut b u).ok then (resOut b u, 0) else (UU.nil, 2)) else (UU.nil, 1)

theorem resPath_len (b u : UU) (hb : b.small) (hu : u.small) : (resPath b u).length ≤ 1040 := by
  obtain ⟨h1, h2, h3⟩ := hb
  obtain ⟨h4, h5, h6⟩ := hu
  unfold resPath
  split
  · omega
  · split
    · have := cleanL_len u.p; omega
    · have := cleanL_len (b.p.take (lastL b.p 47 + 1).toNat ++ u.p)
      rw [List.length_append, List.length_take] at this
      omega
/-- Short enough for the walks. -/
def UU.mid (u : UU) : Prop := u.h.length ≤ 1000000 ∧ u.p.length ≤ 1000000 ∧ u.y.length ≤ 1000000
theorem UU.small.mid {u : UU} (h : u.small) : u.mid := by obtain ⟨a, b, c⟩ := h; exact ⟨by omega, by omega, by omega⟩
theorem resOut_mid (b u : UU) (hb : b.small) (hu : u.small) : (resOut b u).mid := by
  have h0 := resPath_len b u hb hu
  obtain ⟨h1, h2, h3⟩ := hb
  obtain ⟨h4, h5, h6⟩ := hu
  refine ⟨?_, ?_, ?_⟩
  · show (if u.a then u.h else b.h).length ≤ _
    split <;> omega
  · show (resPath b u).length ≤ _; omega
  · show (if u.p = [] ∧ u.q = false then b.y else u.y).length ≤ _
    split <;> omega

theorem rightC (u : UU) (hu : u.mid) {W w : World} (hL : Laid w) (hb : Below w.heap.size w W) : Calls Tryd.prog 10 #[u.v] W fun e w' => e = .returned (.bool u.ok) ∧ Below W.heap.size W w' :=
  uriRight u.a u.h u.n u.p u.q u.y hu.1 hu.2.1 hu.2.2 W (hL.on hb)
theorem refRightC (u : UU) (hu : u.mid) {W w : World} (hL : Laid w) (hb : Below w.heap.size w W) : Calls Tryd.prog 11 #[u.v] W fun e w' => e = .returned (.bool u.ok) ∧ Below W.heap.size W w' :=
  refUriRight u.a u.h u.n u.p u.q u.y hu.1 hu.2.1 hu.2.2 W (hL.on hb)
theorem fewC (u : UU) (hu : u.h.length ≤ 9223372036854775807 ∧ u.p.length ≤ 9223372036854775807 ∧ u.y.length ≤ 9223372036854775807) (w : World) :
    Calls Tryd.prog 6 #[u.v] w fun e w' => e = .returned (UU.v ⟨u.a, u.h.take 120, u.n, u.p.take 520, u.q, u.y.take 520⟩) ∧ Below w.heap.size w w' :=
  few u.a u.h u.n u.p u.q u.y hu.1 hu.2.1 hu.2.2 w
end Go.Proofs.YtpglgembgpoeiaaDoor
