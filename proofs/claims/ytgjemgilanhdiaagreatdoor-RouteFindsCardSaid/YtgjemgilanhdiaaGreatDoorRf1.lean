/- The base of the walks: worlds that only grew; a region that draws its order, walked once in the order of the text, its callees growing the world. Texts as lists of bytes: what the walk makes of them. -/
import Derived.WalkKit
import Derived.WalkSpells
import Derived.WalkLawsBesides
import Derived.Deep.QuietTactic
import Derived.BigQuiet
import Derived.Lib.Hide
import Derived.Lib.SmallJoins
namespace Go.Proofs.YtgjemgilanhdiaaGreatDoor
open Go.RowKit

@[go_sem] theorem isSome_setCell (w : World) (b a : Addr) (v : Value) : ((w.setCell b v).cell? a).isSome = (w.cell? a).isSome := by
  by_cases h : b = a
  · subst h
    cases hc : w.cell? b with
    | none =>
      cases hd : (w.setCell b v).cell? b with
      | none => rfl
      | some x =>
        exfalso
        have h1 : ((w.setCell b v).cell? b).isSome = true := by rw [hd]; rfl
        revert h1 hc
        unfold World.cell? World.setCell
        simp only [Array.getElem?_modify]
        cases w.heap[b.block]? with
        | none => simp
        | some o =>
          cases o <;> simp
          all_goals (split <;> simp_all)
    | some u => rw [World.cell?_setCell_same _ _ _ hc]; rfl
  · rw [World.cell?_setCell_other _ _ _ _ h]

structure Later (B : Nat) (w0 : World) where
  w : World
  b : Below B w0 w

instance {B : Nat} {w : World} : Nonempty (Later B w) := ⟨⟨w, Below.refl _ _⟩⟩

theorem bcell {W w1 : World} (hb : Below W.heap.size W w1) : (∀ b o, b < W.heap.size → w1.cell? ⟨b, o, none⟩ = W.cell? ⟨b, o, none⟩) ∧ (∀ b o, b < W.heap.size → w1.frozen? ⟨b, o, none⟩ = W.frozen? ⟨b, o, none⟩) :=
  ⟨fun b o h => hb.cell (p := ⟨b, o, none⟩) h, fun b o h => hb.frozen (p := ⟨b, o, none⟩) h⟩

theorem wp_region_later {P : Program} (B : Nat) {id : Nat} {Q : Exit → Act → World → Prop} {a : Act} {w : World} {l : List Oper} (hm : P.follows .mixedOrders = true) (hB : Region.lexB .any l.toArray = true)
    (h : wpQuiet P l.toArray (fun w' => ∃ p : Later B w, w' = p.w) (fun a' => ∀ w', (∃ p : Later B w, w' = p.w) → Q .normal a' w') l a) : (Code.region id l.toArray true).wp P Q a w :=
  wp_region_quiet (C := fun w' => ∃ p : Later B w, w' = p.w) hm hB ⟨⟨_, (Below.refl _ _).drew⟩, rfl⟩ (by simpa using h)

theorem Later.cell {B : Nat} {w : World} (p : Later B w) (b o : Nat) (h : b < B) : p.w.cell? ⟨b, o, none⟩ = w.cell? ⟨b, o, none⟩ := p.b.cell (p := ⟨b, o, none⟩) h

theorem later_of {P : Program} {f : FuncId} {args : Array Value} {B : Nat} {w : World} {p : Later B w} {v : Value} (hB : B ≤ w.heap.size)
    (h : Calls P f args p.w fun e w' => e = .returned v ∧ Below p.w.heap.size p.w w') : Calls P f args p.w fun e w'' => e = .returned v ∧ ∃ q : Later B w, w'' = q.w :=
  h.mono fun _ w'' ⟨he, hb⟩ => ⟨he, ⟨w'', p.b.trans (hb.mono (Nat.le_trans hB p.b.size))⟩, rfl⟩

theorem later_same {P : Program} {f : FuncId} {args : Array Value} {B : Nat} {w : World} {p : Later B w} {v : Value}
    (h : Calls P f args p.w fun e w' => e = .returned v ∧ w' = p.w) : Calls P f args p.w fun e w'' => e = .returned v ∧ ∃ q : Later B w, w'' = q.w :=
  h.mono fun _ _ ⟨he, hb⟩ => ⟨he, p, hb⟩

theorem bk {W w1 : World} (hb : Below W.heap.size W w1) (b : Nat) (h : b < W.heap.size) : (∀ o, w1.cell? ⟨b, o, none⟩ = W.cell? ⟨b, o, none⟩) ∧ (∀ o, w1.frozen? ⟨b, o, none⟩ = W.frozen? ⟨b, o, none⟩) :=
  ⟨fun o => hb.cell (p := ⟨b, o, none⟩) h, fun o => hb.frozen (p := ⟨b, o, none⟩) h⟩
theorem Later.at {B b : Nat} (h : b < B) : ∀ (W : World) (p : Later B W) (o : Nat), p.w.cell? ⟨b, o, none⟩ = W.cell? ⟨b, o, none⟩ := fun _ p o => p.cell b o h

theorem far {a b : Nat} (h : a < b) : a < b ∧ a ≤ b ∧ (∀ K, a ≤ b + K) ∧ (∀ K, a < b + K) ∧ ¬ a = b ∧ ¬ b = a ∧ (∀ K, ¬ a = b + K) ∧ (∀ K, ¬ b + K = a) :=
  ⟨h, by omega, fun _ => by omega, fun _ => by omega, by omega, by omega, fun _ => by omega, fun _ => by omega⟩

theorem ret_bool {a b : Bool} (h : a = b) : Ending.returned (.bool a) = .returned (.bool b) := by rw [h]
theorem ret_int {k : IntKind} {a b : Int} (h : a = b) : Ending.returned (.int k a) = .returned (.int k b) := by rw [h]
theorem ret_str {a b : ByteArray} (h : a = b) : Ending.returned (.string a) = .returned (.string b) := by rw [h]
theorem dec_eq {p : Prop} [Decidable p] {b : Bool} (h : p ↔ b = true) : b = decide p := by cases b <;> simp_all
end Go.Proofs.YtgjemgilanhdiaaGreatDoor
namespace Go.Proofs.YtgjemgilanhdiaaGreatDoor
open Go.RowKit

def S (l : List UInt8) : ByteArray := ⟨l.toArray⟩

theorem S_of (s : ByteArray) : ∃ l, s = S l := ⟨s.data.toList, by unfold S; cases s; simp⟩
@[go_sem] theorem S_size (l : List UInt8) : (S l).size = l.length := by simp [S, ByteArray.size]
@[go_sem] theorem S_data (l : List UInt8) : (S l).data.toList = l := by simp [S]
@[go_sem] theorem S_toList (l : List UInt8) : (S l).toList = l := by rw [ByteArray.toList_eq]; exact S_data l
@[go_sem] theorem S_extract (l : List UInt8) (a b : Nat) : (S l).extract a b = S ((l.take b).drop a) := by
  apply ByteArray.ext
  rw [ByteArray.data_extract]
  simp [S, List.extract_eq_take_drop]
  rw [List.drop_take]
@[go_sem] theorem S_append (a b : List UInt8) : S a ++ S b = S (a ++ b) := by
  unfold S
  rw [ByteArray.mk_append_mk]; try simp
theorem S_inj {a b : List UInt8} (h : S a = S b) : a = b := by have := congrArg (fun s => s.data.toList) h; simpa [S] using this
theorem S_eq {a b : List UInt8} (h : a = b) : S a = S b := by rw [h]

def bAt (l : List UInt8) (k : Nat) : Int := ((l.getD k 0).toNat : Int)
theorem bAt_lo (l : List UInt8) (k : Nat) : 0 ≤ bAt l k := by unfold bAt; omega
theorem bAt_hi (l : List UInt8) (k : Nat) : bAt l k ≤ 255 := by unfold bAt; have := (l.getD k 0).toNat_lt; omega
theorem bAt_eq {l : List UInt8} {k : Nat} (h : k < l.length) : bAt l k = (l[k].toNat : Int) := by unfold bAt; simp [List.getD, List.getElem?_eq_getElem h]

@[go_sem] theorem mk_S (l : List UInt8) : (⟨l.toArray⟩ : ByteArray) = S l := rfl
@[go_sem] theorem empty_S : ByteArray.empty = S [] := rfl
@[go_sem] theorem S_get_toNat (l : List UInt8) (i : Nat) (h : i < (S l).size) : (((S l)[i]'h).toNat : Int) = bAt l i := by
  rw [bAt_eq (by rw [S_size] at h; exact h)]
  rfl

theorem run_index_S {P : Program} (w : World) (t : TypeId) (l : List UInt8) (k : IntKind) (i : Int) (h : P.underlying t = some .string) (h0 : 0 ≤ i) (h1 : i < l.length) :
    (Instr.index t (.string (S l)) (.int k i)).run P w = .ok (.int .u8 (bAt l i.toNat)) w := by
  have h2 : i.toNat < l.length := by omega
  have h3 : i.toNat < (S l).size := by rw [S_size]; exact h2
  rw [run_index_string w t (S l) k i h]
  rw [dif_pos ⟨h0, by rw [S_size]; exact h1⟩]
  congr 2
  rw [bAt_eq h2]
  rfl
def strLen : Value → Nat | .string s => s.size | _ => 0
theorem strLen_S (l : List UInt8) : strLen (.string (S l)) = l.length := by simp [strLen, S_size]
end Go.Proofs.YtgjemgilanhdiaaGreatDoor
