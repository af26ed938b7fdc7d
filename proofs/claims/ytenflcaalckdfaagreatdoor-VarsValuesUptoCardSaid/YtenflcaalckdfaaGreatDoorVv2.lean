/- A region that draws its order, by what holds between its operations: each operation is looked at once, whatever ones were run ahead of it. Texts as lists of bytes: what the walk makes of them. -/
import Derived.Test.YtenflcaalckdfaaGreatDoorVv1
import Derived.Lib.SmallJoins
namespace Go.Proofs.YtenflcaalckdfaaGreatDoor
open Go.RowKit
set_option linter.unusedVariables false

def backB (ops : Array Oper) : Bool := (List.range ops.size).all fun i => match ops[i]? with | some o => o.guard.isNone && o.after.all fun e => !Region.binds .any e || decide (e.on < i) | none => false
abbrev Done := Nat → Bool
def Done.add (d : Done) (i : Nat) : Done := fun j => decide (j = i) || d j
theorem Done.add_self (d : Done) (i : Nat) : d.add i i = true := by simp [Done.add]
theorem Done.add_ne {d : Done} {i j : Nat} (h : j ≠ i) : d.add i j = d j := by simp [Done.add, h]

def StepOK (P : Program) (Q : Exit → Act → World → Prop) (I : Done → Act → World → Prop) (i : Nat) (o : Oper) : Prop :=
  ∀ (d : Done) (a : Act) (w : World), d i = false → (∀ e ∈ o.after, Region.binds .any e = true → d e.on = true) → I d a w → ∀ K : Act → World → Prop, (∀ a' w', I (d.add i) a' w' → K a' w') → Oper.wp P o a w K Q
def StepsOK (P : Program) (Q : Exit → Act → World → Prop) (I : Done → Act → World → Prop) : Nat → List Oper → Prop
  | _, [] => True
  | i, o :: l => StepOK P Q I i o ∧ StepsOK P Q I (i + 1) l
theorem stepsOK_get {P : Program} {Q : Exit → Act → World → Prop} {I : Done → Act → World → Prop} {o : Oper} : ∀ (l : List Oper) (n i : Nat), StepsOK P Q I n l → l[i]? = some o → StepOK P Q I (n + i) o
  | [], n, i, _, h => by cases h
  | o' :: l, n, 0, h, hget => by
    rw [List.getElem?_cons_zero] at hget
    obtain rfl := Option.some.inj hget
    exact h.1
  | o' :: l, n, i + 1, h, hget => by
    rw [List.getElem?_cons_succ] at hget
    have := stepsOK_get l (n + 1) i h.2 hget
    rwa [show n + 1 + i = n + (i + 1) by omega] at this

theorem inv_any {P : Program} {ops : Array Oper} {Q : Exit → Act → World → Prop} {I : Done → Act → World → Prop} {l : List Oper} (hl : l.toArray = ops) (hB : backB ops = true) (hsteps : StepsOK P Q I 0 l)
    (hfin : ∀ d a w, (∀ i, i < l.length → d i = true) → I d a w → Q .normal a w) :
    ∀ (f : Nat) (listed : Array Bool) (d : Done) (a : Act) (w : World), listed.size = ops.size → (∀ i, i < ops.size → listed.getD i false = d i) → I d a w → ((List.range ops.size).filter fun i => !listed.getD i true).length ≤ f → wpAny P .any ops Q f listed a w := by
  have hsize : ops.size = l.length := by rw [← hl]; simp
  have ready_all : ∀ (listed : Array Bool), listed.size = ops.size → Region.ready .any ops listed = [] → ∀ i, i < ops.size → listed.getD i false = true := by
    intro listed hsz hr i
    induction i using Nat.strongRecOn with
    | _ i ih =>
      intro hi'
      have hil : i < listed.size := by rw [hsz]; exact hi'
      cases hlx : listed.getD i false with
      | true => rfl
      | false =>
        have h1 := List.all_eq_true.1 hB i (List.mem_range.2 hi')
        have hoi : ops[i]? = some ops[i] := Array.getElem?_eq_getElem hi'
        rw [hoi] at h1
        simp only [Bool.and_eq_true] at h1
        have : i ∈ Region.ready .any ops listed := mem_ready.2 ⟨by simp [hil] at hlx ⊢; exact hlx, _, hoi, fun e he hb => by
          have h2 := Array.all_eq_true_iff_forall_mem.1 h1.2 e he
          simp only [hb, Bool.not_true, Bool.false_or, decide_eq_true_eq] at h2
          exact ih e.on h2 (by omega)⟩
        rw [hr] at this
        cases this
  have fin : ∀ (listed : Array Bool) (d : Done) (a : Act) (w : World), listed.size = ops.size → (∀ i, i < ops.size → listed.getD i false = d i) → I d a w → Region.ready .any ops listed = [] → Q .normal a w := by
    intro listed d a w hsz hd hI hr
    exact hfin d a w (fun i hi => by rw [← hd i (by omega)]; exact ready_all listed hsz hr i (by omega)) hI
  have hmem : ∀ listed : Array Bool, ∀ i, i ∈ Region.ready .any ops listed → i ∈ (List.range ops.size).filter fun i => !listed.getD i true := by
    intro listed i hi
    obtain ⟨h1, o, ho, _⟩ := mem_ready.1 hi
    exact List.mem_filter.2 ⟨List.mem_range.2 (Array.getElem?_eq_some_iff.1 ho).1, by rw [h1]; rfl⟩
  intro f
  induction f with
  | zero =>
    intro listed d a w hsz hd hI hf
    have : Region.ready .any ops listed = [] := by
      cases hr : Region.ready .any ops listed with
      | nil => rfl
      | cons x xs =>
        have := hmem listed x (by rw [hr]; simp)
        rw [List.length_eq_zero_iff.1 (Nat.le_zero.1 hf)] at this
        cases this
    exact ⟨this, fin _ _ _ _ hsz hd hI this⟩
  | succ f ih =>
    intro listed d a w hsz hd hI hf
    refine ⟨fin _ _ _ _ hsz hd hI, fun i hi => ?_⟩
    obtain ⟨hun, o, ho, hall⟩ := mem_ready.1 hi
    have hlt : i < ops.size := (Array.getElem?_eq_some_iff.1 ho).1
    have hil : i < listed.size := by rw [hsz]; exact hlt
    have h1 := hmem listed i hi
    have hlen : ((List.range ops.size).filter fun j => !(listed.setIfInBounds i true).getD j true).length < ((List.range ops.size).filter fun j => !listed.getD j true).length := by
      have hsub : ((List.range ops.size).filter fun j => !(listed.setIfInBounds i true).getD j true) = (((List.range ops.size).filter fun j => !listed.getD j true).filter fun j => j != i) := by
        rw [List.filter_filter]
        refine List.filter_congr fun j _ => ?_
        by_cases hij : i = j
        · subst hij; simp [hil]
        · rw [getD_set_ne true hij]; simp [Ne.symm hij]
      rw [hsub]
      have hle := List.length_filter_le (fun j => j != i) ((List.range ops.size).filter fun j => !listed.getD j true)
      rcases Nat.lt_or_ge (((List.range ops.size).filter fun j => !listed.getD j true).filter fun j => j != i).length ((List.range ops.size).filter fun j => !listed.getD j true).length with h | h
      · exact h
      · have := (List.length_filter_eq_length_iff.1 (Nat.le_antisymm hle h)) i h1
        simp at this
    have hback := List.all_eq_true.1 hB i (List.mem_range.2 hlt)
    rw [ho] at hback
    simp only [Bool.and_eq_true] at hback
    have hwant : Region.wanted o (yielded ops a.tmps) = true := by
      unfold Region.wanted
      cases hg : o.guard with
      | none => rfl
      | some g => rw [hg] at hback; cases hback.1
    have hst := stepsOK_get (o := o) l 0 i hsteps (by rw [← ho, ← hl]; simp)
    rw [Nat.zero_add] at hst
    unfold wpOp
    simp only [ho, hwant, if_true]
    refine .inl (hst d a w ?_ (fun e he hb => ?_) hI _ fun a' w' hI' => ih _ (d.add i) a' w' (by simp [hsz]) (fun j hj => ?_) hI' (by omega))
    · rw [← hd i hlt]; exact getD_false_of hun
    · have h2 := Array.all_eq_true_iff_forall_mem.1 hback.2 e he
      simp only [hb, Bool.not_true, Bool.false_or, decide_eq_true_eq] at h2
      rw [← hd e.on (by omega)]; exact hall e he hb
    · by_cases hij : i = j
      · subst hij; rw [Done.add_self]; simp [hil]
      · rw [getD_set_ne false hij, Done.add_ne (Ne.symm hij)]; exact hd j hj

theorem wp_region_inv {P : Program} {id : Nat} {Q : Exit → Act → World → Prop} {a : Act} {w : World} {l : List Oper} (I : Done → Act → World → Prop) (hm : P.follows .mixedOrders = true)
    (hB : backB l.toArray = true) (h0 : I (fun _ => false) a w.drew) (hsteps : StepsOK P Q I 0 l) (hfin : ∀ d a w, (∀ i, i < l.length → d i = true) → I d a w → Q .normal a w) : (Code.region id l.toArray true).wp P Q a w := by
  refine wp_region_any hm ?_
  refine inv_any rfl hB hsteps hfin _ _ (fun _ => false) _ _ Array.size_replicate (fun i _ => getD_replicate_false _ _) h0 ?_
  have := List.length_filter_le (fun i => !(Array.replicate l.toArray.size false).getD i true) (List.range l.toArray.size)
  simpa using this
end Go.Proofs.YtenflcaalckdfaaGreatDoor
namespace Go.Proofs.YtenflcaalckdfaaGreatDoor
open Go.RowKit

def S (l : List UInt8) : ByteArray := ⟨l.toArray⟩

theorem S_of (s : ByteArray) : ∃ l, s = S l := ⟨s.data.toList, by unfold S; cases s; simp⟩
@[go_sem] theorem S_size (l : List UInt8) : (S l).size = l.length := by simp [S, ByteArray.size]
@[go_sem] theorem S_data (l : List UInt8) : (S l).data.toList = l := by simp [S]
@[go_sem] theorem S_toList (l : List UInt8) : (S l).toList = l := by rw [ByteArray.toList_eq]; exact S_data l
@[go_sem] theorem S_extract (l : List UInt8) (a b : Nat) : (S l).extract a b = S ((l.take b).drop a) := by
  apply ByteArray.ext
  rw [ByteArray.data_extract]
  simp [S, List.extract_eq_take_drop]
  rw [List.drop_take]
@[go_sem] theorem S_append (a b : List UInt8) : S a ++ S b = S (a ++ b) := by
  unfold S
  rw [ByteArray.mk_append_mk]; try simp
theorem S_inj {a b : List UInt8} (h : S a = S b) : a = b := by have := congrArg (fun s => s.data.toList) h; simpa [S] using this
theorem S_eq {a b : List UInt8} (h : a = b) : S a = S b := by rw [h]

def bAt (l : List UInt8) (k : Nat) : Int := ((l.getD k 0).toNat : Int)
theorem bAt_lo (l : List UInt8) (k : Nat) : 0 ≤ bAt l k := by unfold bAt; omega
theorem bAt_hi (l : List UInt8) (k : Nat) : bAt l k ≤ 255 := by unfold bAt; have := (l.getD k 0).toNat_lt; omega
theorem bAt_eq {l : List UInt8} {k : Nat} (h : k < l.length) : bAt l k = (l[k].toNat : Int) := by unfold bAt; simp [List.getD, List.getElem?_eq_getElem h]

@[go_sem] theorem mk_S (l : List UInt8) : (⟨l.toArray⟩ : ByteArray) = S l := rfl
@[go_sem] theorem empty_S : ByteArray.empty = S [] := rfl
@[go_sem] theorem S_get_toNat (l : List UInt8) (i : Nat) (h : i < (S l).size) : (((S l)[i]'h).toNat : Int) = bAt l i := by
  rw [bAt_eq (by rw [S_size] at h; exact h)]
  rfl

theorem run_index_S {P : Program} (w : World) (t : TypeId) (l : List UInt8) (k : IntKind) (i : Int) (h : P.underlying t = some .string) (h0 : 0 ≤ i) (h1 : i < l.length) :
    (Instr.index t (.string (S l)) (.int k i)).run P w = .ok (.int .u8 (bAt l i.toNat)) w := by
  have h2 : i.toNat < l.length := by omega
  have h3 : i.toNat < (S l).size := by rw [S_size]; exact h2
  rw [run_index_string w t (S l) k i h]
  rw [dif_pos ⟨h0, by rw [S_size]; exact h1⟩]
  congr 2
  rw [bAt_eq h2]
  rfl
def strLen : Value → Nat | .string s => s.size | _ => 0
theorem strLen_S (l : List UInt8) : strLen (.string (S l)) = l.length := by simp [strLen, S_size]
end Go.Proofs.YtenflcaalckdfaaGreatDoor
