/- The base of the walks: worlds that only grew; a region that draws its order, walked once in the order of the text, its callees growing the world. -/
import Derived.WalkKit
import Derived.WalkSpells
import Derived.WalkLawsBesides
import Derived.Deep.QuietTactic
import Derived.BigQuiet
import Derived.Lib.Hide
namespace Go.Proofs.YtngaofoedkankaaDoor
open Go.RowKit

/-- A cell is there or not, whatever was stored: unconditional, so that a chain of stores asks no chain of side conditions. -/
@[go_sem] theorem isSome_setCell (w : World) (b a : Addr) (v : Value) : ((w.setCell b v).cell? a).isSome = (w.cell? a).isSome := by
  by_cases h : b = a
  · subst h
    cases hc : w.cell? b with
    | none =>
      cases hd : (w.setCell b v).cell? b with
      | none => rfl
      | some x =>
        exfalso
        have h1 : ((w.setCell b v).cell? b).isSome = true := by rw [hd]; rfl
        revert h1 hc
        unfold World.cell? World.setCell
        simp only [Array.getElem?_modify]
        cases w.heap[b.block]? with
        | none => simp
        | some o =>
          cases o <;> simp
          all_goals (split <;> simp_all)
    | some u => rw [World.cell?_setCell_same _ _ _ hc]; rfl
  · rw [World.cell?_setCell_other _ _ _ _ h]

/-- A world that is as w was below B. -/
structure Later (B : Nat) (w0 : World) where
  w : World
  b : Below B w0 w

instance {B : Nat} {w : World} : Nonempty (Later B w) := ⟨⟨w, Below.refl _ _⟩⟩

theorem bcell {W w1 : World} (hb : Below W.heap.size W w1) : (∀ b o, b < W.heap.size → w1.cell? ⟨b, o, none⟩ = W.cell? ⟨b, o, none⟩) ∧ (∀ b o, b < W.heap.size → w1.frozen? ⟨b, o, none⟩ = W.frozen? ⟨b, o, none⟩) :=
  ⟨fun b o h => hb.cell (p := ⟨b, o, none⟩) h, fun b o h => hb.frozen (p := ⟨b, o, none⟩) h⟩

/-- A region that draws, its operations quiet in the class of the later worlds. -/
theorem wp_region_later {P : Program} (B : Nat) {id : Nat} {Q : Exit → Act → World → Prop} {a : Act} {w : World} {l : List Oper} (hm : P.follows .mixedOrders = true) (hB : Region.lexB .any l.toArray = true)
    (h : wpQuiet P l.toArray (fun w' => ∃ p : Later B w, w' = p.w) (fun a' => ∀ w', (∃ p : Later B w, w' = p.w) → Q .normal a' w') l a) : (Code.region id l.toArray true).wp P Q a w :=
  wp_region_quiet (C := fun w' => ∃ p : Later B w, w' = p.w) hm hB ⟨⟨_, (Below.refl _ _).drew⟩, rfl⟩ (by simpa using h)

theorem Later.cell {B : Nat} {w : World} (p : Later B w) (b o : Nat) (h : b < B) : p.w.cell? ⟨b, o, none⟩ = w.cell? ⟨b, o, none⟩ := p.b.cell (p := ⟨b, o, none⟩) h

/-- A callee that grows the world, met in a later world. -/
theorem later_of {P : Program} {f : FuncId} {args : Array Value} {B : Nat} {w : World} {p : Later B w} {v : Value} (hB : B ≤ w.heap.size)
    (h : Calls P f args p.w fun e w' => e = .returned v ∧ Below p.w.heap.size p.w w') : Calls P f args p.w fun e w'' => e = .returned v ∧ ∃ q : Later B w, w'' = q.w :=
  h.mono fun _ w'' ⟨he, hb⟩ => ⟨he, ⟨w'', p.b.trans (hb.mono (Nat.le_trans hB p.b.size))⟩, rfl⟩

theorem later_same {P : Program} {f : FuncId} {args : Array Value} {B : Nat} {w : World} {p : Later B w} {v : Value}
    (h : Calls P f args p.w fun e w' => e = .returned v ∧ w' = p.w) : Calls P f args p.w fun e w'' => e = .returned v ∧ ∃ q : Later B w, w'' = q.w :=
  h.mono fun _ _ ⟨he, hb⟩ => ⟨he, p, hb⟩

/-- An own block behind a call: it reads as it did. -/
theorem bk {W w1 : World} (hb : Below W.heap.size W w1) (b : Nat) (h : b < W.heap.size) : (∀ o, w1.cell? ⟨b, o, none⟩ = W.cell? ⟨b, o, none⟩) ∧ (∀ o, w1.frozen? ⟨b, o, none⟩ = W.frozen? ⟨b, o, none⟩) :=
  ⟨fun o => hb.cell (p := ⟨b, o, none⟩) h, fun o => hb.frozen (p := ⟨b, o, none⟩) h⟩
theorem Later.at {B b : Nat} (h : b < B) : ∀ (W : World) (p : Later B W) (o : Nat), p.w.cell? ⟨b, o, none⟩ = W.cell? ⟨b, o, none⟩ := fun _ p o => p.cell b o h

/-- A block below another one: what the walk's simp asks of the two. -/
theorem far {a b : Nat} (h : a < b) : a < b ∧ a ≤ b ∧ (∀ K, a ≤ b + K) ∧ (∀ K, a < b + K) ∧ ¬ a = b ∧ ¬ b = a ∧ (∀ K, ¬ a = b + K) ∧ (∀ K, ¬ b + K = a) :=
  ⟨h, by omega, fun _ => by omega, fun _ => by omega, by omega, by omega, fun _ => by omega, fun _ => by omega⟩

theorem ret_bool {a b : Bool} (h : a = b) : Ending.returned (.bool a) = .returned (.bool b) := by rw [h]
theorem ret_int {k : IntKind} {a b : Int} (h : a = b) : Ending.returned (.int k a) = .returned (.int k b) := by rw [h]
theorem ret_str {a b : ByteArray} (h : a = b) : Ending.returned (.string a) = .returned (.string b) := by rw [h]
theorem dec_eq {p : Prop} [Decidable p] {b : Bool} (h : p ↔ b = true) : b = decide p := by cases b <;> simp_all
end Go.Proofs.YtngaofoedkankaaDoor
