/- A region that draws its order, with a chain of writes among operations that read and call: each operation is looked at once, at the class of the worlds in which its turn may come. The walk of uri.Parse. Written by tools/uriparse.py. -/
import Derived.Test.YtgjemgilanhdiaaGreatDoorRf14
import Derived.Test.YtgjemgilanhdiaaGreatDoorRf18
import Derived.Test.YtgjemgilanhdiaaGreatDoorRf7
namespace Go.Proofs.YtgjemgilanhdiaaGreatDoor
open Go.RowKit
set_option linter.unusedVariables false

def looksCB (ops : Array Oper) (early : List Nat) (i : Nat) : Bool :=
  match ops[i]? with
  | none => false
  | some o => o.guard.isNone && o.op.operands.toList.all fun x => match x with
      | .tmp t => if early.contains t = true then (List.range ops.size).all fun j => !writes ops t j || leans ops i ops.size j
        else (List.range ops.size).all fun j => !writes ops t j || o.after.any fun e => Region.binds .any e && e.on == j
      | _ => true

def interCB (ops : Array Oper) (early : List Nat) (m : Nat) (st hi : Nat → Nat) : Bool :=
  Region.noSelect ops &&
  ((List.range ops.size).all fun i => looksCB ops early i) &&
  ((List.range ops.size).all fun i => match ops[i]? with | some o => o.after.all fun e => !Region.binds .any e || decide (e.on < i) | none => false) &&
  ((List.range m).all fun r => decide (r = 0) || leans ops (st (r - 1)) ops.size (st r)) &&
  ((List.range m).all fun r => (List.range m).all fun s => decide (r = s) || decide (st r ≠ st s)) &&
  ((List.range m).all fun r => decide (st r < ops.size)) &&
  ((List.range ops.size).all fun i => decide (hi i = m) || (decide (hi i < m) && leans ops i ops.size (st (hi i))))

def OneC (P : Program) (aE aV : Act) (o : Oper) (C C' : World → Prop) : Prop :=
  ∃ v, (∀ w, C w → (∃ w', ((execOp aE.eval o).run P w = .ok (.value v) w' ∨ ((execOp aE.eval o).run P w = .ok .skip w' ∧ v = undef)) ∧ C' w') ∨
    ∃ f args w1, (execOp aE.eval o).run P w = .ok (.enter f args) w1 ∧ Calls P f args w1 fun e w' => e = .returned v ∧ C' w') ∧ ∀ d, o.dst = some d → aV.tmps[d]? = some v

def OpOKC (P : Program) (aE aV : Act) (Ws : Nat → World → Prop) (m : Nat) (st hi : Nat → Nat) (i : Nat) (o : Oper) : Prop :=
  if (List.range m).any (fun r => st r == i) = true then ∀ r, r < m → st r = i → OneC P aE aV o (Ws r) (Ws (r + 1)) else ∀ k, k ≤ hi i → OneC P aE aV o (Ws k) (Ws k)

def OpsOKC (P : Program) (aE aV : Act) (Ws : Nat → World → Prop) (m : Nat) (st hi : Nat → Nat) : Nat → List Oper → Prop
  | _, [] => True
  | i, o :: l => OpOKC P aE aV Ws m st hi i o ∧ OpsOKC P aE aV Ws m st hi (i + 1) l

theorem opsOK_getC {P : Program} {aE aV : Act} {Ws : Nat → World → Prop} {m : Nat} {st hi : Nat → Nat} {o : Oper} (l : List Oper) : ∀ (n i : Nat), OpsOKC P aE aV Ws m st hi n l → l[i]? = some o → OpOKC P aE aV Ws m st hi (n + i) o := by
  induction l with
  | nil => intro n i _ h; cases h
  | cons o' l ih =>
    intro n i h hget
    cases i with
    | zero =>
      rw [List.getElem?_cons_zero] at hget
      obtain rfl := Option.some.inj hget
      exact h.1
    | succ i =>
      rw [List.getElem?_cons_succ] at hget
      have := ih (n + 1) i h.2 hget
      rwa [show n + 1 + i = n + (i + 1) by omega] at this

theorem opOK_atC {P : Program} {aE aV : Act} {Ws : Nat → World → Prop} {m : Nat} {st hi : Nat → Nat} {o : Oper} {i : Nat} (r : Nat) (hr : ((List.range m).any (fun s => st s == i) && (List.range m).all fun s => s == r || st s != i) = true)
    (h : OneC P aE aV o (Ws r) (Ws (r + 1))) : OpOKC P aE aV Ws m st hi i o := by
  simp only [Bool.and_eq_true] at hr
  unfold OpOKC
  rw [if_pos hr.1]
  intro s hs hsi
  have := List.all_eq_true.1 hr.2 s (List.mem_range.2 hs)
  simp only [hsi, bne_self_eq_false, Bool.or_false, beq_iff_eq] at this
  rw [this]; exact h
theorem opOK_headC {P : Program} {aE aV : Act} {Ws : Nat → World → Prop} {m : Nat} {st hi : Nat → Nat} {o : Oper} {i : Nat} (n : Nat) (hr : (!(List.range m).any (fun s => st s == i) && hi i == n) = true)
    (h : ∀ k, k ≤ n → OneC P aE aV o (Ws k) (Ws k)) : OpOKC P aE aV Ws m st hi i o := by
  simp only [Bool.and_eq_true, Bool.not_eq_true', beq_iff_eq] at hr
  unfold OpOKC
  rw [if_neg (by rw [hr.1]; simp), hr.2]
  exact h
structure InterC (ops : Array Oper) (early : List Nat) (aE aV : Act) (Ws : Nat → World → Prop) (m : Nat) (st : Nat → Nat) (listed : Array Bool) (a : Act) (w : World) : Prop where
  lsz : listed.size = ops.size
  shut : Shut ops listed
  size : a.tmps.size = aV.tmps.size
  defers : a.defers = aV.defers
  same : ∀ t, early.contains t = false → aE.tmps[t]? = aV.tmps[t]?
  first : ∀ t, early.contains t = true → (∀ j, writes ops t j = true → listed.getD j false = false) → a.tmps[t]? = aE.tmps[t]?
  slots : ∀ t, (∀ i, writes ops t i = true → listed.getD i false = true) → a.tmps[t]? = aV.tmps[t]?
  world : ∃ k, k ≤ m ∧ Ws k w ∧ ∀ r, r < m → (listed.getD (st r) false = true ↔ r < k)

theorem inter_stepC {P : Program} {ops : Array Oper} {aE aV : Act} {Ws : Nat → World → Prop} {m : Nat} {early : List Nat} {st hi : Nat → Nat} {Q : Exit → Act → World → Prop} {l : List Oper} (hl : l.toArray = ops)
    (hB : interCB ops early m st hi = true) (hops : OpsOKC P aE aV Ws m st hi 0 l) {listed : Array Bool} {a : Act} {w : World} (inv : InterC ops early aE aV Ws m st listed a w) {i : Nat} (hr : i ∈ Region.ready .any ops listed)
    {K : Act → World → Prop} (hK : ∀ a' w', InterC ops early aE aV Ws m st (listed.setIfInBounds i true) a' w' → K a' w') : wpOp P ops Q i K a w := by
  simp only [interCB, Bool.and_eq_true] at hB
  obtain ⟨⟨⟨⟨⟨⟨hsel, hlook⟩, hback⟩, hchain⟩, hinj⟩, hst⟩, hhi⟩ := hB
  obtain ⟨hun, o, ho, hall⟩ := mem_ready.1 hr
  have hlt : i < ops.size := (Array.getElem?_eq_some_iff.1 ho).1
  obtain ⟨k, hk, hwk, hkr⟩ := inv.world
  have hlk := List.all_eq_true.1 hlook i (List.mem_range.2 hlt)
  simp only [looksCB, ho, Bool.and_eq_true] at hlk
  have hli : listed.getD i false = false := getD_false_of hun
  have hilt : i < listed.size := by rw [inv.lsz]; exact hlt
  have hself : (listed.setIfInBounds i true).getD i false = true := by simp [hilt]
  -- the operands have what they have in the end
  have heval : ∀ x ∈ o.op.operands, a.eval x = aE.eval x := by
    intro x hx
    have h1 := List.all_eq_true.1 hlk.2 x (by simpa using hx)
    cases x with
    | tmp t =>
      have hjl : ∀ j, writes ops t j = true → j < ops.size := fun j hj => by
        unfold writes at hj
        cases hoj : ops[j]? with
        | none => rw [hoj] at hj; cases hj
        | some oj => exact (Array.getElem?_eq_some_iff.1 hoj).1
      have h2 : a.tmps[t]? = aE.tmps[t]? := by
        simp only at h1
        split at h1
        · rename_i hear
          refine inv.first t hear fun j hj => ?_
          have h3 := List.all_eq_true.1 h1 j (List.mem_range.2 (hjl j hj))
          simp only [hj, Bool.not_true, Bool.false_or] at h3
          cases hlj : listed.getD j false with
          | false => rfl
          | true =>
            have := leans_listed inv.shut _ _ h3 hlj
            rw [hli] at this; cases this
        · rename_i hear
          rw [inv.same t (by simpa using hear)]
          refine inv.slots t fun j hj => ?_
          have h3 := List.all_eq_true.1 h1 j (List.mem_range.2 (hjl j hj))
          simp only [hj, Bool.not_true, Bool.false_or] at h3
          obtain ⟨e, he, hb⟩ := Array.any_eq_true'.1 h3
          simp only [Bool.and_eq_true, beq_iff_eq] at hb
          rw [← hb.2]
          exact hall e he hb.1
      simp only [Act.eval, Array.getD_eq_getD_getElem?, h2]
    | _ => rfl
  have hex : execOp a.eval o = execOp aE.eval o := execOp_congr o (fun cs b => Region.noSelect_spec hsel i o cs b ho) heval
  have hwant : Region.wanted o (yielded ops a.tmps) = true := by
    have := hlk.1
    unfold Region.wanted
    cases hg : o.guard with
    | none => rfl
    | some g => rw [hg] at this; cases this
  -- the new state
  have hshut : Shut ops (listed.setIfInBounds i true) := by
    intro j oj hj hlj e he hb
    by_cases hij : i = j
    · subst hij
      obtain rfl : o = oj := Option.some.inj (ho.symm.trans hj)
      exact getD_set_true (hall e he hb)
    · rw [getD_set_ne false hij] at hlj
      exact getD_set_true (inv.shut j oj hj hlj e he hb)
  have hslots : ∀ v, (∀ d, o.dst = some d → aV.tmps[d]? = some v) → ∀ t, (∀ j, writes ops t j = true → (listed.setIfInBounds i true).getD j false = true) → (a.put o.dst v).tmps[t]? = aV.tmps[t]? := by
    intro v hv t ht
    cases hd : o.dst with
    | none =>
      simp only [Act.put]
      refine inv.slots t fun j hj => ?_
      have := ht j hj
      by_cases hij : i = j
      · subst hij; simp [writes, ho, hd] at hj
      · rwa [getD_set_ne false hij] at this
    | some d =>
      simp only [Act.put]
      by_cases hdt : d = t
      · subst hdt
        have h1 := hv d hd
        have h2 : d < a.tmps.size := by rw [inv.size]; exact (Array.getElem?_eq_some_iff.1 h1).1
        rw [h1]; simp [h2]
      · rw [Array.getElem?_setIfInBounds_ne hdt]
        refine inv.slots t fun j hj => ?_
        have := ht j hj
        by_cases hij : i = j
        · subst hij; simp [writes, ho, hd, hdt] at hj
        · rwa [getD_set_ne false hij] at this
  have hfirst : ∀ v t, early.contains t = true → (∀ j, writes ops t j = true → (listed.setIfInBounds i true).getD j false = false) → (a.put o.dst v).tmps[t]? = aE.tmps[t]? := by
    intro v t ht hno
    have hni : writes ops t i = false := by
      cases h : writes ops t i
      · rfl
      · have := hno i h; rw [hself] at this; cases this
    have h1 := inv.first t ht fun j hj => by
      have := hno j hj
      by_cases hij : i = j
      · subst hij; rw [hni] at hj; cases hj
      · rwa [getD_set_ne false hij] at this
    cases hd : o.dst with
    | none => simpa only [Act.put] using h1
    | some d =>
      simp only [Act.put]
      by_cases hdt : d = t
      · subst hdt; simp [writes, ho, hd] at hni
      · rw [Array.getElem?_setIfInBounds_ne hdt]; exact h1
  have hput : ∀ v, (a.put o.dst v).tmps.size = aV.tmps.size ∧ (a.put o.dst v).defers = aV.defers := fun v => by
    cases o.dst <;> simp [Act.put, inv.size, inv.defers]
  have hOK := opsOK_getC (o := o) l 0 i hops (by rw [← ho, ← hl]; simp)
  rw [Nat.zero_add] at hOK
  -- the worlds
  have main : ∃ k', k' ≤ m ∧ OneC P aE aV o (Ws k) (Ws k') ∧ ∀ r, r < m → ((listed.setIfInBounds i true).getD (st r) false = true ↔ r < k') := by
    unfold OpOKC at hOK
    split at hOK
    · rename_i hany
      obtain ⟨r, hrm, hri⟩ := List.any_eq_true.1 hany
      have hrm := List.mem_range.1 hrm
      simp only [beq_iff_eq] at hri
      have h1 : ¬ r < k := fun h => by have := (hkr r hrm).2 h; rw [hri, hli] at this; cases this
      have h2 : r = k := by
        by_cases hr0 : r = 0
        · omega
        · have h3 := List.all_eq_true.1 hchain r (List.mem_range.2 hrm)
          simp only [hr0, decide_false, Bool.false_or, hri] at h3
          have h4 := leans_listed hshut _ _ h3 hself
          rw [getD_set_ne false (show i ≠ st (r - 1) from fun h => by
            have h5 := List.all_eq_true.1 (List.all_eq_true.1 hinj r (List.mem_range.2 hrm)) (r - 1) (List.mem_range.2 (by omega))
            simp only [Bool.or_eq_true, decide_eq_true_eq] at h5
            rcases h5 with h5 | h5
            · omega
            · exact h5 (hri.trans h))] at h4
          have := (hkr (r - 1) (by omega)).1 h4
          omega
      subst h2
      refine ⟨r + 1, by omega, hOK r hrm hri, fun s hs => ?_⟩
      by_cases hsr : s = r
      · subst hsr; rw [hri, hself]; simp
      · have hne : i ≠ st s := fun h => by
          have h5 := List.all_eq_true.1 (List.all_eq_true.1 hinj r (List.mem_range.2 hrm)) s (List.mem_range.2 hs)
          simp only [Bool.or_eq_true, decide_eq_true_eq] at h5
          rcases h5 with h5 | h5
          · omega
          · exact h5 (hri.trans h)
        rw [getD_set_ne false hne, hkr s hs]
        omega
    · rename_i hany
      have hno : ∀ r, r < m → i ≠ st r := fun r hrm h => hany (List.any_eq_true.2 ⟨r, List.mem_range.2 hrm, by simp [h]⟩)
      have h1 := List.all_eq_true.1 hhi i (List.mem_range.2 hlt)
      simp only [Bool.or_eq_true, decide_eq_true_eq, Bool.and_eq_true] at h1
      refine ⟨k, hk, hOK k ?_, fun r hrm => by rw [getD_set_ne false (hno r hrm)]; exact hkr r hrm⟩
      rcases h1 with h1 | ⟨h1, h2⟩
      · omega
      · refine Nat.le_of_not_lt fun h => ?_
        have := leans_listed inv.shut _ _ h2 ((hkr (hi i) h1).2 h)
        rw [hli] at this
        cases this
  obtain ⟨k', hk', ⟨v, hrun, hv⟩, hkr'⟩ := main
  have hnew : ∀ w', Ws k' w' → InterC ops early aE aV Ws m st (listed.setIfInBounds i true) (a.put o.dst v) w' := fun w' hw' =>
    ⟨by simp [inv.lsz], hshut, (hput v).1, (hput v).2, inv.same, hfirst v, hslots v hv, k', hk', hw', hkr'⟩
  unfold wpOp
  simp only [ho, hwant, if_true]
  refine .inl ?_
  unfold Oper.wp
  rw [hex]
  rcases hrun w hwk with ⟨w', h9 | ⟨h9, h8⟩, hw'⟩ | ⟨f, args, w1, h9, hcall⟩
  · rw [h9, Oper.upon_value]; exact hK _ _ (hnew _ hw')
  · subst h8; rw [h9, Oper.upon_skip]; exact hK _ _ (hnew _ hw')
  · rw [h9, Oper.upon_enter]
    exact hcall.mono fun e w'' ⟨he, hw''⟩ => by subst he; exact hK _ _ (hnew _ hw'')

theorem inter_readyC {ops : Array Oper} {m : Nat} {early : List Nat} {st hi : Nat → Nat} (hB : interCB ops early m st hi = true) {listed : Array Bool} (hsz : listed.size = ops.size) (hr : Region.ready .any ops listed = []) :
    ∀ i, i < ops.size → listed.getD i false = true := by
  simp only [interCB, Bool.and_eq_true] at hB
  obtain ⟨⟨⟨⟨⟨⟨hsel, hlook⟩, hback⟩, hchain⟩, hinj⟩, hst⟩, hhi⟩ := hB
  intro i
  induction i using Nat.strongRecOn with
  | _ i ih =>
    intro hi'
    have hil : i < listed.size := by rw [hsz]; exact hi'
    cases hl : listed.getD i false with
    | true => rfl
    | false =>
      have h1 := List.all_eq_true.1 hback i (List.mem_range.2 hi')
      have hoi : ops[i]? = some ops[i] := Array.getElem?_eq_getElem hi'
      rw [hoi] at h1
      have : i ∈ Region.ready .any ops listed := mem_ready.2 ⟨by simp [hil] at hl ⊢; exact hl, _, hoi, fun e he hb => by
        have h2 := Array.all_eq_true_iff_forall_mem.1 h1 e he
        simp only [hb, Bool.not_true, Bool.false_or, decide_eq_true_eq] at h2
        exact ih e.on h2 (by omega)⟩
      rw [hr] at this
      cases this

theorem inter_anyC {P : Program} {ops : Array Oper} {aE aV : Act} {Ws : Nat → World → Prop} {m : Nat} {early : List Nat} {st hi : Nat → Nat} {Q : Exit → Act → World → Prop} {l : List Oper} (hl : l.toArray = ops)
    (hB : interCB ops early m st hi = true) (hops : OpsOKC P aE aV Ws m st hi 0 l) (hQ : ∀ w, Ws m w → Q .normal aV w) :
    ∀ (f : Nat) (listed : Array Bool) (a : Act) (w : World), InterC ops early aE aV Ws m st listed a w → ((List.range ops.size).filter fun i => !listed.getD i true).length ≤ f → wpAny P .any ops Q f listed a w := by
  have fin : ∀ (listed : Array Bool) (a : Act) (w : World), InterC ops early aE aV Ws m st listed a w → Region.ready .any ops listed = [] → Q .normal a w := by
    intro listed a w inv hr
    have hall := inter_readyC hB inv.lsz hr
    have ht : a.tmps = aV.tmps := Array.ext_getElem? fun t => inv.slots t fun i hi => by
      refine hall i ?_
      unfold writes at hi
      cases hoj : ops[i]? with
      | none => rw [hoj] at hi; cases hi
      | some oj => exact (Array.getElem?_eq_some_iff.1 hoj).1
    obtain ⟨k, hk, hwk, hkr⟩ := inv.world
    have ha : a = aV := by
      have := inv.defers
      cases a; cases aV; simp_all
    have hkm : k = m := by
      rcases Nat.lt_or_ge k m with h | h
      · simp only [interCB, Bool.and_eq_true] at hB
        have h1 := List.all_eq_true.1 hB.1.2 k (List.mem_range.2 h)
        have h2 := (hkr k h).1 (hall _ (by simpa using h1))
        omega
      · omega
    subst hkm; rw [ha]; exact hQ w hwk
  have hmem : ∀ listed : Array Bool, ∀ i, i ∈ Region.ready .any ops listed → i ∈ (List.range ops.size).filter fun i => !listed.getD i true := by
    intro listed i hi
    obtain ⟨h1, o, ho, _⟩ := mem_ready.1 hi
    exact List.mem_filter.2 ⟨List.mem_range.2 (Array.getElem?_eq_some_iff.1 ho).1, by rw [h1]; rfl⟩
  intro f
  induction f with
  | zero =>
    intro listed a w inv hf
    have : Region.ready .any ops listed = [] := by
      cases hr : Region.ready .any ops listed with
      | nil => rfl
      | cons x xs =>
        have := hmem listed x (by rw [hr]; simp)
        rw [List.length_eq_zero_iff.1 (Nat.le_zero.1 hf)] at this
        cases this
    exact ⟨this, fin _ _ _ inv this⟩
  | succ f ih =>
    intro listed a w inv hf
    refine ⟨fin _ _ _ inv, fun i hi => inter_stepC hl hB hops inv hi fun a' w' inv' => ih _ _ _ inv' ?_⟩
    have h1 := hmem listed i hi
    have hun := (mem_ready.1 hi).1
    have hil : i < listed.size := by rw [inv.lsz]; exact List.mem_range.1 (List.mem_filter.1 h1).1
    have hlen : ((List.range ops.size).filter fun j => !(listed.setIfInBounds i true).getD j true).length < ((List.range ops.size).filter fun j => !listed.getD j true).length := by
      have hsub : ((List.range ops.size).filter fun j => !(listed.setIfInBounds i true).getD j true) = (((List.range ops.size).filter fun j => !listed.getD j true).filter fun j => j != i) := by
        rw [List.filter_filter]
        refine List.filter_congr fun j _ => ?_
        by_cases hij : i = j
        · subst hij; simp [hil]
        · rw [getD_set_ne true hij]; simp [Ne.symm hij]
      rw [hsub]
      have hle := List.length_filter_le (fun j => j != i) ((List.range ops.size).filter fun j => !listed.getD j true)
      rcases Nat.lt_or_ge (((List.range ops.size).filter fun j => !listed.getD j true).filter fun j => j != i).length ((List.range ops.size).filter fun j => !listed.getD j true).length with h | h
      · exact h
      · have := (List.length_filter_eq_length_iff.1 (Nat.le_antisymm hle h)) i h1
        simp at this
    omega

theorem wp_region_interC {P : Program} {id : Nat} {Q : Exit → Act → World → Prop} {a : Act} {w : World} {l : List Oper} (m : Nat) (early : List Nat) (st hi : Nat → Nat) (Ws : Nat → World → Prop) (aE aV : Act) (hm : P.follows .mixedOrders = true)
    (hB : interCB l.toArray early m st hi = true) (h0 : Ws 0 { w with drawn := w.drawn + 1 }) (hd : a.defers = aV.defers) (hag : Agree (fun t => l.any fun o => o.dst == some t) 0 a.tmps.toList aV.tmps.toList)
    (hsame : Agree (fun t => early.contains t) 0 aE.tmps.toList aV.tmps.toList) (hfirst : Agree (fun t => !early.contains t) 0 a.tmps.toList aE.tmps.toList)
    (hops : OpsOKC P aE aV Ws m st hi 0 l) (hQ : ∀ w, Ws m w → Q .normal aV w) : (Code.region id l.toArray true).wp P Q a w := by
  obtain ⟨h1, h2⟩ := agree_spec _ _ _ hag
  have inv : InterC l.toArray early aE aV Ws m st (Array.replicate l.toArray.size false) a { w with drawn := w.drawn + 1 } := by
    have hrep : ∀ j, (Array.replicate l.toArray.size false).getD j false = false := fun j => getD_replicate_false _ _
    refine ⟨Array.size_replicate, (fun j oj _ h => absurd h (by rw [hrep]; simp)), (by simpa using h1), hd, fun t ht => ?_, fun t ht _ => ?_, fun t ht => ?_, ⟨0, Nat.zero_le _, h0, fun r _ => ⟨fun h => absurd h (by rw [hrep]; simp), fun h => absurd h (Nat.not_lt_zero _)⟩⟩⟩
    · have := (agree_spec _ _ _ hsame).2 t (by simpa using ht)
      simpa using this
    · have := (agree_spec _ _ _ hfirst).2 t (by simpa using ht)
      simpa using this
    · have h3 : (l.any fun o => o.dst == some t) = false := by
        cases h : (l.any fun o => o.dst == some t)
        · rfl
        · obtain ⟨o, ho, hod⟩ := List.any_eq_true.1 h
          obtain ⟨i, hil, hio⟩ := List.getElem_of_mem ho
          have := ht i (by unfold writes; simp [List.getElem?_eq_getElem hil, hio]; simpa using hod)
          rw [hrep] at this; cases this
      have := h2 t (by simpa using h3)
      simpa using this
  refine wp_region_any hm ?_
  refine inter_anyC rfl hB hops hQ _ _ _ _ inv ?_
  have := List.length_filter_le (fun i => !(Array.replicate l.toArray.size false).getD i true) (List.range l.toArray.size)
  simpa using this

theorem below_both {B : Nat} {W w : World} (h : Below B W w) (p : Addr) (v : Value) : Below B (W.setCell p v) (w.setCell p v) := by
  refine ⟨h.os, h.tape, h.output, by simpa [World.setCell] using h.size, fun k hk => ?_⟩
  simp only [World.setCell, Array.getElem?_modify, h.block k hk]
def Cls (B : Nat) (w : World) (fs : List (World → World)) (k : Nat) (w' : World) : Prop := Below B ((fs.take k).foldl (fun W f => f W) w.drew) w'

theorem wp_region_calls {P : Program} (B : Nat) {id : Nat} {Q : Exit → Act → World → Prop} {a : Act} {w : World} {l : List Oper} (fs : List (World → World)) (early : List Nat) (st hi : Nat → Nat) (aE aV : Act) (hm : P.follows .mixedOrders = true)
    (hB : interCB l.toArray early fs.length st hi = true) (hd : a.defers = aV.defers) (hag : Agree (fun t => l.any fun o => o.dst == some t) 0 a.tmps.toList aV.tmps.toList)
    (hsame : Agree (fun t => early.contains t) 0 aE.tmps.toList aV.tmps.toList) (hfirst : Agree (fun t => !early.contains t) 0 a.tmps.toList aE.tmps.toList)
    (hops : OpsOKC P aE aV (Cls B w fs) fs.length st hi 0 l) (hQ : ∀ w', Below B (fs.foldl (fun W f => f W) w.drew) w' → Q .normal aV w') : (Code.region id l.toArray true).wp P Q a w :=
  wp_region_interC fs.length early st hi (Cls B w fs) aE aV hm hB (Below.refl _ _) hd hag hsame hfirst hops (fun w' h => hQ w' (by unfold Cls at h; rwa [List.take_length] at h))

theorem oneC_val {P : Program} {aE aV : Act} {o : Oper} {C : World → Prop} {d : Tmp} {v : Value} (hd : o.dst = some d) (hv : aV.tmps[d]? = some v) (h : ∀ w, C w → (execOp aE.eval o).run P w = .ok (.value v) w) : OneC P aE aV o C C :=
  ⟨v, fun w hw => .inl ⟨w, .inl (h w hw), hw⟩, fun d' hd' => by rw [hd] at hd'; obtain rfl := Option.some.inj hd'; exact hv⟩
theorem oneC_call {P : Program} {aE aV : Act} {o : Oper} {C : World → Prop} {d : Tmp} {v : Value} {f : FuncId} {args : Array Value} (hd : o.dst = some d) (hv : aV.tmps[d]? = some v) (h : ∀ w, C w → (execOp aE.eval o).run P w = .ok (.enter f args) w)
    (hc : ∀ w, C w → Calls P f args w fun e w' => e = .returned v ∧ C w') : OneC P aE aV o C C :=
  ⟨v, fun w hw => .inr ⟨f, args, w, h w hw, hc w hw⟩, fun d' hd' => by rw [hd] at hd'; obtain rfl := Option.some.inj hd'; exact hv⟩
theorem oneC_store {P : Program} {aE aV : Act} {o : Oper} {C C' : World → Prop} {g : World → World} (hd : o.dst = none) (h : ∀ w, C w → (execOp aE.eval o).run P w = .ok .skip (g w) ∧ C' (g w)) : OneC P aE aV o C C' :=
  ⟨undef, fun w hw => .inl ⟨g w, .inr ⟨(h w hw).1, rfl⟩, (h w hw).2⟩, fun d' hd' => by rw [hd] at hd'; cases hd'⟩
theorem oneC_assign {P : Program} {aE aV : Act} {o : Oper} {C C' : World → Prop} {d : Tmp} {v : Value} (hd : o.dst = some d) (hv : aV.tmps[d]? = some v) (h : ∀ w, C w → (execOp aE.eval o).run P w = .ok (.value v) w ∧ C' w) : OneC P aE aV o C C' :=
  ⟨v, fun w hw => .inl ⟨w, .inl (h w hw).1, (h w hw).2⟩, fun d' hd' => by rw [hd] at hd'; obtain rfl := Option.some.inj hd'; exact hv⟩
theorem call_cls {P : Program} {f : FuncId} {args : Array Value} {B : Nat} {w : World} {fs : List (World → World)} {k : Nat} {v : Value} {w' : World} (hw : Cls B w fs k w') (hB : B ≤ w'.heap.size)
    (h : Calls P f args w' fun e w'' => e = .returned v ∧ Below w'.heap.size w' w'') : Calls P f args w' fun e w'' => e = .returned v ∧ Cls B w fs k w'' :=
  h.mono fun _ _ ⟨he, hb⟩ => ⟨he, Below.trans hw (hb.mono hB)⟩
def puts (a : Act) (vs : List (Nat × Value)) : Act := vs.foldl (fun a p => a.put (some p.1) p.2) a
theorem wp_region_callsV {P : Program} (B : Nat) {id : Nat} {Q : Exit → Act → World → Prop} {a : Act} {w : World} {l : List Oper} (fs : List (World → World)) (early : List Nat) (st hi : Nat → Nat) (vs es : List (Nat × Value)) (hm : P.follows .mixedOrders = true)
    (hB : interCB l.toArray early fs.length st hi = true) (hd : a.defers = (puts a vs).defers) (hag : Agree (fun t => l.any fun o => o.dst == some t) 0 a.tmps.toList (puts a vs).tmps.toList)
    (hsame : Agree (fun t => early.contains t) 0 (puts (puts a vs) es).tmps.toList (puts a vs).tmps.toList) (hfirst : Agree (fun t => !early.contains t) 0 a.tmps.toList (puts (puts a vs) es).tmps.toList)
    (hops : OpsOKC P (puts (puts a vs) es) (puts a vs) (Cls B w fs) fs.length st hi 0 l) (hQ : ∀ w', Below B (fs.foldl (fun W f => f W) w.drew) w' → Q .normal (puts a vs) w') : (Code.region id l.toArray true).wp P Q a w :=
  wp_region_calls B fs early st hi _ _ hm hB hd hag hsame hfirst hops hQ
end Go.Proofs.YtgjemgilanhdiaaGreatDoor
namespace Go.Proofs.YtgjemgilanhdiaaGreatDoor
open Go.RowKit Go.Shelf
set_option linter.unusedVariables false

set_option maxHeartbeats 3200000 in
set_option maxRecDepth 100000 in
theorem parse_short (s : List UInt8) (hs : s.length ≤ 500) (hB : httpB s = false) (h7 : s.length < 7) (w : World) (hL : Laid w) :
    Calls Tryz.prog 22 #[.string (S s)] w fun e w' => e = .returned (.tuple #[(parseL s).1.v, .int .i64 (parseL s).2]) ∧ Below w.heap.size w w' := by
  have CQ := Lib.hid (fun W => uriPath s (by omega) false [] 0 [] false [] W)
  have CR := Lib.hid (fun W (hbl : Below w.heap.size w W) => rightC (relOf s) (relOf_mid s hs) (W := W) hL hbl)
  have HP := show parseL s = if (relOf s).ok then (relOf s, 0) else (UU.nil, 20) by unfold parseL; rw [if_neg (by omega), hB]; simp
  obtain ⟨p, hp⟩ : ∃ x, parseL s = x := ⟨_, rfl⟩
  rw [hp] at HP ⊢
  obtain ⟨ok, hok⟩ : ∃ x, (relOf s).ok = x := ⟨_, rfl⟩
  rw [hok] at CR HP
  have HN := Lib.hid (show ok = false → p = (UU.nil, 20) from fun h => by rw [HP, h]; simp)
  have HY := Lib.hid (show ok = true → p = (relOf s, 0) from fun h => by rw [HP, h]; simp)
  clear HP hp hok hB hL
  unfold relOf at CR HY
  obtain ⟨f, g, t, hcut⟩ : ∃ f g t, cut1 s 63 = (f, g, t) := ⟨_, _, _, rfl⟩
  rw [hcut] at CQ CR HY
  clear hcut
  simp only [UU.v] at CQ CR ⊢
  have hle : ¬ 500 < (s.length : Int) := by omega
  go_enter Tryz.func22, Tryz.ntmps22
  have h7b : ¬ (7 : Int) ≤ (s.length : Int) := by omega
  go_wp2_with fail
  refine Calls.mono (CQ.out _) ?_
  rintro e w7 ⟨rfl, hb_w7⟩
  have hz_w7 := hb_w7.size
  try simp at hz_w7
  obtain ⟨c7__0, f7__0⟩ := bk hb_w7 (w.heap.size) (by first | omega | (simp <;> omega))
  have c7__0_0 := c7__0 0; conv at c7__0_0 => rhs; simp [go_sem, *]
  have f7__0_0 := f7__0 0; conv at f7__0_0 => rhs; simp [go_sem, *]
  have c7__0_1 := c7__0 1; conv at c7__0_1 => rhs; simp [go_sem, *]
  have f7__0_1 := f7__0 1; conv at f7__0_1 => rhs; simp [go_sem, *]
  have c7__0_2 := c7__0 2; conv at c7__0_2 => rhs; simp [go_sem, *]
  have f7__0_2 := f7__0 2; conv at f7__0_2 => rhs; simp [go_sem, *]
  have c7__0_3 := c7__0 3; conv at c7__0_3 => rhs; simp [go_sem, *]
  have f7__0_3 := f7__0 3; conv at f7__0_3 => rhs; simp [go_sem, *]
  have c7__0_4 := c7__0 4; conv at c7__0_4 => rhs; simp [go_sem, *]
  have f7__0_4 := f7__0 4; conv at f7__0_4 => rhs; simp [go_sem, *]
  have c7__0_5 := c7__0 5; conv at c7__0_5 => rhs; simp [go_sem, *]
  have f7__0_5 := f7__0 5; conv at f7__0_5 => rhs; simp [go_sem, *]
  obtain ⟨c7__1, f7__1⟩ := bk hb_w7 (w.heap.size + 1) (by first | omega | (simp <;> omega))
  have c7__1_0 := c7__1 0; conv at c7__1_0 => rhs; simp [go_sem, *]
  have f7__1_0 := f7__1 0; conv at f7__1_0 => rhs; simp [go_sem, *]
  have c7__1_1 := c7__1 1; conv at c7__1_1 => rhs; simp [go_sem, *]
  have f7__1_1 := f7__1 1; conv at f7__1_1 => rhs; simp [go_sem, *]
  have c7__1_2 := c7__1 2; conv at c7__1_2 => rhs; simp [go_sem, *]
  have f7__1_2 := f7__1 2; conv at f7__1_2 => rhs; simp [go_sem, *]
  have c7__1_3 := c7__1 3; conv at c7__1_3 => rhs; simp [go_sem, *]
  have f7__1_3 := f7__1 3; conv at f7__1_3 => rhs; simp [go_sem, *]
  have c7__1_4 := c7__1 4; conv at c7__1_4 => rhs; simp [go_sem, *]
  have f7__1_4 := f7__1 4; conv at f7__1_4 => rhs; simp [go_sem, *]
  have c7__1_5 := c7__1 5; conv at c7__1_5 => rhs; simp [go_sem, *]
  have f7__1_5 := f7__1 5; conv at f7__1_5 => rhs; simp [go_sem, *]
  have HH_w7 := Lib.hid hb_w7
  have hB_w7 : Below w.heap.size w w7 := Below.trans (by (repeat (first | with_reducible exact Below.refl _ _ | with_reducible assumption | with_reducible refine Below.drew ?_ | (with_reducible refine Below.setCell ?_ ?_ _; rotate_left; (first | omega | (simp <;> omega))) | (with_reducible refine Below.alloc ?_ ?_ _; rotate_left; (first | omega | (simp <;> omega))) | exact Below.refl _ _ | assumption))) (hb_w7.mono (by first | omega | (simp <;> omega)))
  clear hb_w7 c7__0 f7__0 c7__1 f7__1
  have far_w7_w_0 := far (show w.heap.size < w7.heap.size by omega)
  have far_w7_w_1 := far (show w.heap.size + 1 < w7.heap.size by omega)
  go_wp2_with fail
  refine Calls.mono (CR.out _ (by (repeat (first | with_reducible exact Below.refl _ _ | with_reducible assumption | with_reducible refine Below.drew ?_ | (with_reducible refine Below.setCell ?_ ?_ _; rotate_left; (first | omega | (simp <;> omega))) | (with_reducible refine Below.alloc ?_ ?_ _; rotate_left; (first | omega | (simp <;> omega))) | exact Below.refl _ _ | assumption)))) ?_
  rintro e w8 ⟨rfl, hb_w8⟩
  have hz_w8 := hb_w8.size
  try simp at hz_w8
  obtain ⟨c8__0, f8__0⟩ := bk hb_w8 (w.heap.size) (by first | omega | (simp <;> omega))
  have c8__0_0 := c8__0 0; conv at c8__0_0 => rhs; simp [go_sem, *]
  have f8__0_0 := f8__0 0; conv at f8__0_0 => rhs; simp [go_sem, *]
  have c8__0_1 := c8__0 1; conv at c8__0_1 => rhs; simp [go_sem, *]
  have f8__0_1 := f8__0 1; conv at f8__0_1 => rhs; simp [go_sem, *]
  have c8__0_2 := c8__0 2; conv at c8__0_2 => rhs; simp [go_sem, *]
  have f8__0_2 := f8__0 2; conv at f8__0_2 => rhs; simp [go_sem, *]
  have c8__0_3 := c8__0 3; conv at c8__0_3 => rhs; simp [go_sem, *]
  have f8__0_3 := f8__0 3; conv at f8__0_3 => rhs; simp [go_sem, *]
  have c8__0_4 := c8__0 4; conv at c8__0_4 => rhs; simp [go_sem, *]
  have f8__0_4 := f8__0 4; conv at f8__0_4 => rhs; simp [go_sem, *]
  have c8__0_5 := c8__0 5; conv at c8__0_5 => rhs; simp [go_sem, *]
  have f8__0_5 := f8__0 5; conv at f8__0_5 => rhs; simp [go_sem, *]
  obtain ⟨c8__1, f8__1⟩ := bk hb_w8 (w.heap.size + 1) (by first | omega | (simp <;> omega))
  have c8__1_0 := c8__1 0; conv at c8__1_0 => rhs; simp [go_sem, *]
  have f8__1_0 := f8__1 0; conv at f8__1_0 => rhs; simp [go_sem, *]
  have c8__1_1 := c8__1 1; conv at c8__1_1 => rhs; simp [go_sem, *]
  have f8__1_1 := f8__1 1; conv at f8__1_1 => rhs; simp [go_sem, *]
  have c8__1_2 := c8__1 2; conv at c8__1_2 => rhs; simp [go_sem, *]
  have f8__1_2 := f8__1 2; conv at f8__1_2 => rhs; simp [go_sem, *]
  have c8__1_3 := c8__1 3; conv at c8__1_3 => rhs; simp [go_sem, *]
  have f8__1_3 := f8__1 3; conv at f8__1_3 => rhs; simp [go_sem, *]
  have c8__1_4 := c8__1 4; conv at c8__1_4 => rhs; simp [go_sem, *]
  have f8__1_4 := f8__1 4; conv at f8__1_4 => rhs; simp [go_sem, *]
  have c8__1_5 := c8__1 5; conv at c8__1_5 => rhs; simp [go_sem, *]
  have f8__1_5 := f8__1 5; conv at f8__1_5 => rhs; simp [go_sem, *]
  have HH_w8 := Lib.hid hb_w8
  have hB_w8 : Below w.heap.size w w8 := Below.trans (by (repeat (first | with_reducible exact Below.refl _ _ | with_reducible assumption | with_reducible refine Below.drew ?_ | (with_reducible refine Below.setCell ?_ ?_ _; rotate_left; (first | omega | (simp <;> omega))) | (with_reducible refine Below.alloc ?_ ?_ _; rotate_left; (first | omega | (simp <;> omega))) | exact Below.refl _ _ | assumption))) (hb_w8.mono (by first | omega | (simp <;> omega)))
  clear hb_w8 c8__0 f8__0 c8__1 f8__1
  try clear c7__0_0 f7__0_0 c7__0_1 f7__0_1 c7__0_2 f7__0_2 c7__0_3 f7__0_3 c7__0_4 f7__0_4 c7__0_5 f7__0_5 c7__1_0 f7__1_0 c7__1_1 f7__1_1 c7__1_2 f7__1_2 c7__1_3 f7__1_3 c7__1_4 f7__1_4 c7__1_5 f7__1_5 far_w7_w_0 far_w7_w_1 hB_w7
  have far_w8_w_0 := far (show w.heap.size < w8.heap.size by omega)
  have far_w8_w_1 := far (show w.heap.size + 1 < w8.heap.size by omega)
  cases ok with
  | false =>
    go_wp2
    refine bodyPost_ret (v := .tuple #[uv false [] 0 [] false [], .int .i64 20]) (by simp [results, Tryz.results22, go_sem, *]) rfl ⟨by rw [HN.out (by simp)]; rfl, ?_⟩
    (repeat (first | with_reducible exact Below.refl _ _ | with_reducible assumption | with_reducible refine Below.drew ?_ | (with_reducible refine Below.setCell ?_ ?_ _; rotate_left; (first | omega | (simp <;> omega))) | (with_reducible refine Below.alloc ?_ ?_ _; rotate_left; (first | omega | (simp <;> omega))) | exact Below.refl _ _ | assumption))
  | true =>
    go_wp2
    refine bodyPost_ret (v := .tuple #[uv false [] 0 f t g, .int .i64 0]) (by simp [results, Tryz.results22, go_sem, *]) rfl ⟨by rw [HY.out (by simp)], ?_⟩
    (repeat (first | with_reducible exact Below.refl _ _ | with_reducible assumption | with_reducible refine Below.drew ?_ | (with_reducible refine Below.setCell ?_ ?_ _; rotate_left; (first | omega | (simp <;> omega))) | (with_reducible refine Below.alloc ?_ ?_ _; rotate_left; (first | omega | (simp <;> omega))) | exact Below.refl _ _ | assumption))

set_option maxHeartbeats 3200000 in
set_option maxRecDepth 100000 in
theorem parse_rel (s : List UInt8) (hs : s.length ≤ 500) (hB : httpB s = false) (h7 : 7 ≤ s.length) (w : World) (hL : Laid w) :
    Calls Tryz.prog 22 #[.string (S s)] w fun e w' => e = .returned (.tuple #[(parseL s).1.v, .int .i64 (parseL s).2]) ∧ Below w.heap.size w w' := by
  have hb2 : (lower (s.take 7) == httpL) = false := by unfold httpB at hB; simpa [h7] using hB
  have CS := Lib.hid (fun W => show Calls Tryz.prog 39 #[.string (S (s.take 7)), .string (S httpL)] W fun e w' => e = .returned (.bool false) ∧ Below W.heap.size W w' from by
    have := textSame (s.take 7) httpL (by rw [List.length_take]; omega) (by decide) W
    rw [lower_http, hb2] at this
    exact this)
  unfold httpL at CS
  have CQ := Lib.hid (fun W => uriPath s (by omega) false [] 0 [] false [] W)
  have CR := Lib.hid (fun W (hbl : Below w.heap.size w W) => rightC (relOf s) (relOf_mid s hs) (W := W) hL hbl)
  have HP := show parseL s = if (relOf s).ok then (relOf s, 0) else (UU.nil, 20) by unfold parseL; rw [if_neg (by omega), hB]; simp
  obtain ⟨p, hp⟩ : ∃ x, parseL s = x := ⟨_, rfl⟩
  rw [hp] at HP ⊢
  obtain ⟨ok, hok⟩ : ∃ x, (relOf s).ok = x := ⟨_, rfl⟩
  rw [hok] at CR HP
  have HN := Lib.hid (show ok = false → p = (UU.nil, 20) from fun h => by rw [HP, h]; simp)
  have HY := Lib.hid (show ok = true → p = (relOf s, 0) from fun h => by rw [HP, h]; simp)
  clear HP hp hok hB hL
  unfold relOf at CR HY
  obtain ⟨f, g, t, hcut⟩ : ∃ f g t, cut1 s 63 = (f, g, t) := ⟨_, _, _, rfl⟩
  rw [hcut] at CQ CR HY
  clear hcut
  simp only [UU.v] at CQ CR ⊢
  have hle : ¬ 500 < (s.length : Int) := by omega
  go_enter Tryz.func22, Tryz.ntmps22
  have h7b : (7 : Int) ≤ (s.length : Int) := by omega
  go_wp2_with fail
  refine Calls.mono (CS.out _) ?_
  rintro e w1 ⟨rfl, hb_w1⟩
  have hz_w1 := hb_w1.size
  try simp at hz_w1
  obtain ⟨c1__0, f1__0⟩ := bk hb_w1 (w.heap.size) (by first | omega | (simp <;> omega))
  have c1__0_0 := c1__0 0; conv at c1__0_0 => rhs; simp [go_sem, *]
  have f1__0_0 := f1__0 0; conv at f1__0_0 => rhs; simp [go_sem, *]
  have c1__0_1 := c1__0 1; conv at c1__0_1 => rhs; simp [go_sem, *]
  have f1__0_1 := f1__0 1; conv at f1__0_1 => rhs; simp [go_sem, *]
  have c1__0_2 := c1__0 2; conv at c1__0_2 => rhs; simp [go_sem, *]
  have f1__0_2 := f1__0 2; conv at f1__0_2 => rhs; simp [go_sem, *]
  have c1__0_3 := c1__0 3; conv at c1__0_3 => rhs; simp [go_sem, *]
  have f1__0_3 := f1__0 3; conv at f1__0_3 => rhs; simp [go_sem, *]
  have c1__0_4 := c1__0 4; conv at c1__0_4 => rhs; simp [go_sem, *]
  have f1__0_4 := f1__0 4; conv at f1__0_4 => rhs; simp [go_sem, *]
  have c1__0_5 := c1__0 5; conv at c1__0_5 => rhs; simp [go_sem, *]
  have f1__0_5 := f1__0 5; conv at f1__0_5 => rhs; simp [go_sem, *]
  obtain ⟨c1__1, f1__1⟩ := bk hb_w1 (w.heap.size + 1) (by first | omega | (simp <;> omega))
  have c1__1_0 := c1__1 0; conv at c1__1_0 => rhs; simp [go_sem, *]
  have f1__1_0 := f1__1 0; conv at f1__1_0 => rhs; simp [go_sem, *]
  have c1__1_1 := c1__1 1; conv at c1__1_1 => rhs; simp [go_sem, *]
  have f1__1_1 := f1__1 1; conv at f1__1_1 => rhs; simp [go_sem, *]
  have c1__1_2 := c1__1 2; conv at c1__1_2 => rhs; simp [go_sem, *]
  have f1__1_2 := f1__1 2; conv at f1__1_2 => rhs; simp [go_sem, *]
  have c1__1_3 := c1__1 3; conv at c1__1_3 => rhs; simp [go_sem, *]
  have f1__1_3 := f1__1 3; conv at f1__1_3 => rhs; simp [go_sem, *]
  have c1__1_4 := c1__1 4; conv at c1__1_4 => rhs; simp [go_sem, *]
  have f1__1_4 := f1__1 4; conv at f1__1_4 => rhs; simp [go_sem, *]
  have c1__1_5 := c1__1 5; conv at c1__1_5 => rhs; simp [go_sem, *]
  have f1__1_5 := f1__1 5; conv at f1__1_5 => rhs; simp [go_sem, *]
  have HH_w1 := Lib.hid hb_w1
  have hB_w1 : Below w.heap.size w w1 := Below.trans (by (repeat (first | with_reducible exact Below.refl _ _ | with_reducible assumption | with_reducible refine Below.drew ?_ | (with_reducible refine Below.setCell ?_ ?_ _; rotate_left; (first | omega | (simp <;> omega))) | (with_reducible refine Below.alloc ?_ ?_ _; rotate_left; (first | omega | (simp <;> omega))) | exact Below.refl _ _ | assumption))) (hb_w1.mono (by first | omega | (simp <;> omega)))
  clear hb_w1 c1__0 f1__0 c1__1 f1__1
  have far_w1_w_0 := far (show w.heap.size < w1.heap.size by omega)
  have far_w1_w_1 := far (show w.heap.size + 1 < w1.heap.size by omega)
  go_wp2_with fail
  refine Calls.mono (CQ.out _) ?_
  rintro e w7 ⟨rfl, hb_w7⟩
  have hz_w7 := hb_w7.size
  try simp at hz_w7
  obtain ⟨c7__0, f7__0⟩ := bk hb_w7 (w.heap.size) (by first | omega | (simp <;> omega))
  have c7__0_0 := c7__0 0; conv at c7__0_0 => rhs; simp [go_sem, *]
  have f7__0_0 := f7__0 0; conv at f7__0_0 => rhs; simp [go_sem, *]
  have c7__0_1 := c7__0 1; conv at c7__0_1 => rhs; simp [go_sem, *]
  have f7__0_1 := f7__0 1; conv at f7__0_1 => rhs; simp [go_sem, *]
  have c7__0_2 := c7__0 2; conv at c7__0_2 => rhs; simp [go_sem, *]
  have f7__0_2 := f7__0 2; conv at f7__0_2 => rhs; simp [go_sem, *]
  have c7__0_3 := c7__0 3; conv at c7__0_3 => rhs; simp [go_sem, *]
  have f7__0_3 := f7__0 3; conv at f7__0_3 => rhs; simp [go_sem, *]
  have c7__0_4 := c7__0 4; conv at c7__0_4 => rhs; simp [go_sem, *]
  have f7__0_4 := f7__0 4; conv at f7__0_4 => rhs; simp [go_sem, *]
  have c7__0_5 := c7__0 5; conv at c7__0_5 => rhs; simp [go_sem, *]
  have f7__0_5 := f7__0 5; conv at f7__0_5 => rhs; simp [go_sem, *]
  obtain ⟨c7__1, f7__1⟩ := bk hb_w7 (w.heap.size + 1) (by first | omega | (simp <;> omega))
  have c7__1_0 := c7__1 0; conv at c7__1_0 => rhs; simp [go_sem, *]
  have f7__1_0 := f7__1 0; conv at f7__1_0 => rhs; simp [go_sem, *]
  have c7__1_1 := c7__1 1; conv at c7__1_1 => rhs; simp [go_sem, *]
  have f7__1_1 := f7__1 1; conv at f7__1_1 => rhs; simp [go_sem, *]
  have c7__1_2 := c7__1 2; conv at c7__1_2 => rhs; simp [go_sem, *]
  have f7__1_2 := f7__1 2; conv at f7__1_2 => rhs; simp [go_sem, *]
  have c7__1_3 := c7__1 3; conv at c7__1_3 => rhs; simp [go_sem, *]
  have f7__1_3 := f7__1 3; conv at f7__1_3 => rhs; simp [go_sem, *]
  have c7__1_4 := c7__1 4; conv at c7__1_4 => rhs; simp [go_sem, *]
  have f7__1_4 := f7__1 4; conv at f7__1_4 => rhs; simp [go_sem, *]
  have c7__1_5 := c7__1 5; conv at c7__1_5 => rhs; simp [go_sem, *]
  have f7__1_5 := f7__1 5; conv at f7__1_5 => rhs; simp [go_sem, *]
  have HH_w7 := Lib.hid hb_w7
  have hB_w7 : Below w.heap.size w w7 := Below.trans (by (repeat (first | with_reducible exact Below.refl _ _ | with_reducible assumption | with_reducible refine Below.drew ?_ | (with_reducible refine Below.setCell ?_ ?_ _; rotate_left; (first | omega | (simp <;> omega))) | (with_reducible refine Below.alloc ?_ ?_ _; rotate_left; (first | omega | (simp <;> omega))) | exact Below.refl _ _ | assumption))) (hb_w7.mono (by first | omega | (simp <;> omega)))
  clear hb_w7 c7__0 f7__0 c7__1 f7__1
  try clear c1__0_0 f1__0_0 c1__0_1 f1__0_1 c1__0_2 f1__0_2 c1__0_3 f1__0_3 c1__0_4 f1__0_4 c1__0_5 f1__0_5 c1__1_0 f1__1_0 c1__1_1 f1__1_1 c1__1_2 f1__1_2 c1__1_3 f1__1_3 c1__1_4 f1__1_4 c1__1_5 f1__1_5 far_w1_w_0 far_w1_w_1 hB_w1
  have far_w7_w_0 := far (show w.heap.size < w7.heap.size by omega)
  have far_w7_w_1 := far (show w.heap.size + 1 < w7.heap.size by omega)
  go_wp2_with fail
  refine Calls.mono (CR.out _ (by (repeat (first | with_reducible exact Below.refl _ _ | with_reducible assumption | with_reducible refine Below.drew ?_ | (with_reducible refine Below.setCell ?_ ?_ _; rotate_left; (first | omega | (simp <;> omega))) | (with_reducible refine Below.alloc ?_ ?_ _; rotate_left; (first | omega | (simp <;> omega))) | exact Below.refl _ _ | assumption)))) ?_
  rintro e w8 ⟨rfl, hb_w8⟩
  have hz_w8 := hb_w8.size
  try simp at hz_w8
  obtain ⟨c8__0, f8__0⟩ := bk hb_w8 (w.heap.size) (by first | omega | (simp <;> omega))
  have c8__0_0 := c8__0 0; conv at c8__0_0 => rhs; simp [go_sem, *]
  have f8__0_0 := f8__0 0; conv at f8__0_0 => rhs; simp [go_sem, *]
  have c8__0_1 := c8__0 1; conv at c8__0_1 => rhs; simp [go_sem, *]
  have f8__0_1 := f8__0 1; conv at f8__0_1 => rhs; simp [go_sem, *]
  have c8__0_2 := c8__0 2; conv at c8__0_2 => rhs; simp [go_sem, *]
  have f8__0_2 := f8__0 2; conv at f8__0_2 => rhs; simp [go_sem, *]
  have c8__0_3 := c8__0 3; conv at c8__0_3 => rhs; simp [go_sem, *]
  have f8__0_3 := f8__0 3; conv at f8__0_3 => rhs; simp [go_sem, *]
  have c8__0_4 := c8__0 4; conv at c8__0_4 => rhs; simp [go_sem, *]
  have f8__0_4 := f8__0 4; conv at f8__0_4 => rhs; simp [go_sem, *]
  have c8__0_5 := c8__0 5; conv at c8__0_5 => rhs; simp [go_sem, *]
  have f8__0_5 := f8__0 5; conv at f8__0_5 => rhs; simp [go_sem, *]
  obtain ⟨c8__1, f8__1⟩ := bk hb_w8 (w.heap.size + 1) (by first | omega | (simp <;> omega))
  have c8__1_0 := c8__1 0; conv at c8__1_0 => rhs; simp [go_sem, *]
  have f8__1_0 := f8__1 0; conv at f8__1_0 => rhs; simp [go_sem, *]
  have c8__1_1 := c8__1 1; conv at c8__1_1 => rhs; simp [go_sem, *]
  have f8__1_1 := f8__1 1; conv at f8__1_1 => rhs; simp [go_sem, *]
  have c8__1_2 := c8__1 2; conv at c8__1_2 => rhs; simp [go_sem, *]
  have f8__1_2 := f8__1 2; conv at f8__1_2 => rhs; simp [go_sem, *]
  have c8__1_3 := c8__1 3; conv at c8__1_3 => rhs; simp [go_sem, *]
  have f8__1_3 := f8__1 3; conv at f8__1_3 => rhs; simp [go_sem, *]
  have c8__1_4 := c8__1 4; conv at c8__1_4 => rhs; simp [go_sem, *]
  have f8__1_4 := f8__1 4; conv at f8__1_4 => rhs; simp [go_sem, *]
  have c8__1_5 := c8__1 5; conv at c8__1_5 => rhs; simp [go_sem, *]
  have f8__1_5 := f8__1 5; conv at f8__1_5 => rhs; simp [go_sem, *]
  have HH_w8 := Lib.hid hb_w8
  have hB_w8 : Below w.heap.size w w8 := Below.trans (by (repeat (first | with_reducible exact Below.refl _ _ | with_reducible assumption | with_reducible refine Below.drew ?_ | (with_reducible refine Below.setCell ?_ ?_ _; rotate_left; (first | omega | (simp <;> omega))) | (with_reducible refine Below.alloc ?_ ?_ _; rotate_left; (first | omega | (simp <;> omega))) | exact Below.refl _ _ | assumption))) (hb_w8.mono (by first | omega | (simp <;> omega)))
  clear hb_w8 c8__0 f8__0 c8__1 f8__1
  try clear c7__0_0 f7__0_0 c7__0_1 f7__0_1 c7__0_2 f7__0_2 c7__0_3 f7__0_3 c7__0_4 f7__0_4 c7__0_5 f7__0_5 c7__1_0 f7__1_0 c7__1_1 f7__1_1 c7__1_2 f7__1_2 c7__1_3 f7__1_3 c7__1_4 f7__1_4 c7__1_5 f7__1_5 far_w7_w_0 far_w7_w_1 hB_w7
  have far_w8_w_0 := far (show w.heap.size < w8.heap.size by omega)
  have far_w8_w_1 := far (show w.heap.size + 1 < w8.heap.size by omega)
  cases ok with
  | false =>
    go_wp2
    refine bodyPost_ret (v := .tuple #[uv false [] 0 [] false [], .int .i64 20]) (by simp [results, Tryz.results22, go_sem, *]) rfl ⟨by rw [HN.out (by simp)]; rfl, ?_⟩
    (repeat (first | with_reducible exact Below.refl _ _ | with_reducible assumption | with_reducible refine Below.drew ?_ | (with_reducible refine Below.setCell ?_ ?_ _; rotate_left; (first | omega | (simp <;> omega))) | (with_reducible refine Below.alloc ?_ ?_ _; rotate_left; (first | omega | (simp <;> omega))) | exact Below.refl _ _ | assumption))
  | true =>
    go_wp2
    refine bodyPost_ret (v := .tuple #[uv false [] 0 f t g, .int .i64 0]) (by simp [results, Tryz.results22, go_sem, *]) rfl ⟨by rw [HY.out (by simp)], ?_⟩
    (repeat (first | with_reducible exact Below.refl _ _ | with_reducible assumption | with_reducible refine Below.drew ?_ | (with_reducible refine Below.setCell ?_ ?_ _; rotate_left; (first | omega | (simp <;> omega))) | (with_reducible refine Below.alloc ?_ ?_ _; rotate_left; (first | omega | (simp <;> omega))) | exact Below.refl _ _ | assumption))

set_option maxHeartbeats 6400000 in
set_option maxRecDepth 100000 in
theorem parse_abs (s : List UInt8) (hs : s.length ≤ 500) (hB : httpB s = true) (w : World) (hL : Laid w) :
    Calls Tryz.prog 22 #[.string (S s)] w fun e w' => e = .returned (.tuple #[(parseL s).1.v, .int .i64 (parseL s).2]) ∧ Below w.heap.size w w' := by
  obtain ⟨h7, hb2⟩ : 7 ≤ s.length ∧ (lower (s.take 7) == httpL) = true := by unfold httpB at hB; simpa using hB
  have CS := Lib.hid (fun W => show Calls Tryz.prog 39 #[.string (S (s.take 7)), .string (S httpL)] W fun e w' => e = .returned (.bool true) ∧ Below W.heap.size W w' from by
    have := textSame (s.take 7) httpL (by rw [List.length_take]; omega) (by decide) W
    rw [lower_http, hb2] at this
    exact this)
  unfold httpL at CS
  obtain ⟨t, ht⟩ : ∃ t, s.drop 7 = t := ⟨_, rfl⟩
  have htl : t.length ≤ 493 := by rw [← ht, List.length_drop]; omega
  have CI := Lib.hid (fun W => indexAny2 t (by omega) W)
  have hel := endOf_le t
  have CP := Lib.hid (fun W => uriPlace (t.take (endOf t)) (by rw [List.length_take]; omega) W)
  have htail := tailOf_len t
  have CQ := Lib.hid (fun W => uriPath (tailOf t) (by omega) true (placeH (t.take (endOf t))) (placeN (t.take (endOf t))) [] false [] W)
  have CR := Lib.hid (fun W (hbl : Below w.heap.size w W) => rightC (absOf t) (absOf_mid t (by omega)) (W := W) hL hbl)
  have HP := show parseL s = if placeB (t.take (endOf t)) && (absOf t).ok then (absOf t, 0) else (UU.nil, 20) by unfold parseL; rw [if_neg (by omega), hB, ht]; simp
  obtain ⟨p, hp⟩ : ∃ x, parseL s = x := ⟨_, rfl⟩
  rw [hp] at HP ⊢
  obtain ⟨ok, hok⟩ : ∃ x, (absOf t).ok = x := ⟨_, rfl⟩
  rw [hok] at CR HP
  obtain ⟨pb, hpb⟩ : ∃ x, placeB (t.take (endOf t)) = x := ⟨_, rfl⟩
  rw [hpb] at CP HP
  have HN := Lib.hid (show pb = false ∨ ok = false → p = (UU.nil, 20) from fun h => by rw [HP]; rcases h with h | h <;> rw [h] <;> simp)
  have HY := Lib.hid (show pb = true → ok = true → p = (absOf t, 0) from fun h h' => by rw [HP, h, h']; simp)
  clear HP hp hok hpb hB hL hb2
  unfold absOf at CR HY
  have HT := show tailOf t = if t.drop (endOf t) = [] ∨ bAt (t.drop (endOf t)) 0 = 63 then 47 :: t.drop (endOf t) else t.drop (endOf t) from rfl
  obtain ⟨r, hr⟩ : ∃ x, tailOf t = x := ⟨_, rfl⟩
  rw [hr] at CQ CR HY HT htail
  obtain ⟨f, g, tt, hcut⟩ : ∃ f g tt, cut1 r 63 = (f, g, tt) := ⟨_, _, _, rfl⟩
  rw [hcut] at CQ CR HY
  have hE := show endOf t = if Lib.indexAny t [47, 63] < 0 then t.length else (Lib.indexAny t [47, 63]).toNat from rfl
  have hilt := indexAny_lt t [47, 63]
  obtain ⟨e, he⟩ : ∃ x, endOf t = x := ⟨_, rfl⟩
  rw [he] at CP CQ CR HY HT hE hel
  obtain ⟨ia, hia⟩ : ∃ x, Lib.indexAny t [47, 63] = x := ⟨_, rfl⟩
  rw [hia] at CI hE hilt
  obtain ⟨hh, hhh⟩ : ∃ x, placeH (t.take e) = x := ⟨_, rfl⟩
  obtain ⟨nn, hnn⟩ : ∃ x, placeN (t.take e) = x := ⟨_, rfl⟩
  rw [hhh, hnn] at CP CQ CR HY
  obtain ⟨d, hd⟩ : ∃ x, t.drop e = x := ⟨_, rfl⟩
  have hdl : d.length = t.length - e := by rw [← hd, List.length_drop]
  rw [hd] at HT
  clear hr hcut he hia hhh hnn
  simp only [UU.v] at CP CQ CR ⊢
  have hle : ¬ 500 < (s.length : Int) := by omega
  have h7b : (7 : Int) ≤ (s.length : Int) := by omega
  by_cases h0 : ia < 0
  · obtain rfl : e = t.length := by rw [hE, if_pos h0]
    obtain rfl : d = [] := by rw [← hd]; simp
    have hd' : List.drop t.length t = [] := hd
    have htk : List.take t.length t = t := List.take_length
    rw [htk] at CP
    obtain rfl : r = [47] := by rw [HT]; simp
    clear HT hE
    go_enter Tryz.func22, Tryz.ntmps22
    go_wp2_with fail
    refine Calls.mono (CS.out _) ?_
    rintro e w1 ⟨rfl, hb_w1⟩
    have hz_w1 := hb_w1.size
    try simp at hz_w1
    obtain ⟨c1__0, f1__0⟩ := bk hb_w1 (w.heap.size) (by first | omega | (simp <;> omega))
    have c1__0_0 := c1__0 0; conv at c1__0_0 => rhs; simp [go_sem, *]
    have f1__0_0 := f1__0 0; conv at f1__0_0 => rhs; simp [go_sem, *]
    have c1__0_1 := c1__0 1; conv at c1__0_1 => rhs; simp [go_sem, *]
    have f1__0_1 := f1__0 1; conv at f1__0_1 => rhs; simp [go_sem, *]
    have c1__0_2 := c1__0 2; conv at c1__0_2 => rhs; simp [go_sem, *]
    have f1__0_2 := f1__0 2; conv at f1__0_2 => rhs; simp [go_sem, *]
    have c1__0_3 := c1__0 3; conv at c1__0_3 => rhs; simp [go_sem, *]
    have f1__0_3 := f1__0 3; conv at f1__0_3 => rhs; simp [go_sem, *]
    have c1__0_4 := c1__0 4; conv at c1__0_4 => rhs; simp [go_sem, *]
    have f1__0_4 := f1__0 4; conv at f1__0_4 => rhs; simp [go_sem, *]
    have c1__0_5 := c1__0 5; conv at c1__0_5 => rhs; simp [go_sem, *]
    have f1__0_5 := f1__0 5; conv at f1__0_5 => rhs; simp [go_sem, *]
    obtain ⟨c1__1, f1__1⟩ := bk hb_w1 (w.heap.size + 1) (by first | omega | (simp <;> omega))
    have c1__1_0 := c1__1 0; conv at c1__1_0 => rhs; simp [go_sem, *]
    have f1__1_0 := f1__1 0; conv at f1__1_0 => rhs; simp [go_sem, *]
    have c1__1_1 := c1__1 1; conv at c1__1_1 => rhs; simp [go_sem, *]
    have f1__1_1 := f1__1 1; conv at f1__1_1 => rhs; simp [go_sem, *]
    have c1__1_2 := c1__1 2; conv at c1__1_2 => rhs; simp [go_sem, *]
    have f1__1_2 := f1__1 2; conv at f1__1_2 => rhs; simp [go_sem, *]
    have c1__1_3 := c1__1 3; conv at c1__1_3 => rhs; simp [go_sem, *]
    have f1__1_3 := f1__1 3; conv at f1__1_3 => rhs; simp [go_sem, *]
    have c1__1_4 := c1__1 4; conv at c1__1_4 => rhs; simp [go_sem, *]
    have f1__1_4 := f1__1 4; conv at f1__1_4 => rhs; simp [go_sem, *]
    have c1__1_5 := c1__1 5; conv at c1__1_5 => rhs; simp [go_sem, *]
    have f1__1_5 := f1__1 5; conv at f1__1_5 => rhs; simp [go_sem, *]
    have HH_w1 := Lib.hid hb_w1
    have hB_w1 : Below w.heap.size w w1 := Below.trans (by (repeat (first | with_reducible exact Below.refl _ _ | with_reducible assumption | with_reducible refine Below.drew ?_ | (with_reducible refine Below.setCell ?_ ?_ _; rotate_left; (first | omega | (simp <;> omega))) | (with_reducible refine Below.alloc ?_ ?_ _; rotate_left; (first | omega | (simp <;> omega))) | exact Below.refl _ _ | assumption))) (hb_w1.mono (by first | omega | (simp <;> omega)))
    clear hb_w1 c1__0 f1__0 c1__1 f1__1
    have far_w1_w_0 := far (show w.heap.size < w1.heap.size by omega)
    have far_w1_w_1 := far (show w.heap.size + 1 < w1.heap.size by omega)
    go_wp2_with fail
    refine Calls.mono (CI.out _) ?_
    rintro e w2 ⟨rfl, hb_w2⟩
    have hz_w2 := hb_w2.size
    try simp at hz_w2
    obtain ⟨c2__0, f2__0⟩ := bk hb_w2 (w.heap.size) (by first | omega | (simp <;> omega))
    have c2__0_0 := c2__0 0; conv at c2__0_0 => rhs; simp [go_sem, *]
    have f2__0_0 := f2__0 0; conv at f2__0_0 => rhs; simp [go_sem, *]
    have c2__0_1 := c2__0 1; conv at c2__0_1 => rhs; simp [go_sem, *]
    have f2__0_1 := f2__0 1; conv at f2__0_1 => rhs; simp [go_sem, *]
    have c2__0_2 := c2__0 2; conv at c2__0_2 => rhs; simp [go_sem, *]
    have f2__0_2 := f2__0 2; conv at f2__0_2 => rhs; simp [go_sem, *]
    have c2__0_3 := c2__0 3; conv at c2__0_3 => rhs; simp [go_sem, *]
    have f2__0_3 := f2__0 3; conv at f2__0_3 => rhs; simp [go_sem, *]
    have c2__0_4 := c2__0 4; conv at c2__0_4 => rhs; simp [go_sem, *]
    have f2__0_4 := f2__0 4; conv at f2__0_4 => rhs; simp [go_sem, *]
    have c2__0_5 := c2__0 5; conv at c2__0_5 => rhs; simp [go_sem, *]
    have f2__0_5 := f2__0 5; conv at f2__0_5 => rhs; simp [go_sem, *]
    obtain ⟨c2__1, f2__1⟩ := bk hb_w2 (w.heap.size + 1) (by first | omega | (simp <;> omega))
    have c2__1_0 := c2__1 0; conv at c2__1_0 => rhs; simp [go_sem, *]
    have f2__1_0 := f2__1 0; conv at f2__1_0 => rhs; simp [go_sem, *]
    have c2__1_1 := c2__1 1; conv at c2__1_1 => rhs; simp [go_sem, *]
    have f2__1_1 := f2__1 1; conv at f2__1_1 => rhs; simp [go_sem, *]
    have c2__1_2 := c2__1 2; conv at c2__1_2 => rhs; simp [go_sem, *]
    have f2__1_2 := f2__1 2; conv at f2__1_2 => rhs; simp [go_sem, *]
    have c2__1_3 := c2__1 3; conv at c2__1_3 => rhs; simp [go_sem, *]
    have f2__1_3 := f2__1 3; conv at f2__1_3 => rhs; simp [go_sem, *]
    have c2__1_4 := c2__1 4; conv at c2__1_4 => rhs; simp [go_sem, *]
    have f2__1_4 := f2__1 4; conv at f2__1_4 => rhs; simp [go_sem, *]
    have c2__1_5 := c2__1 5; conv at c2__1_5 => rhs; simp [go_sem, *]
    have f2__1_5 := f2__1 5; conv at f2__1_5 => rhs; simp [go_sem, *]
    have HH_w2 := Lib.hid hb_w2
    have hB_w2 : Below w.heap.size w w2 := Below.trans (by (repeat (first | with_reducible exact Below.refl _ _ | with_reducible assumption | with_reducible refine Below.drew ?_ | (with_reducible refine Below.setCell ?_ ?_ _; rotate_left; (first | omega | (simp <;> omega))) | (with_reducible refine Below.alloc ?_ ?_ _; rotate_left; (first | omega | (simp <;> omega))) | exact Below.refl _ _ | assumption))) (hb_w2.mono (by first | omega | (simp <;> omega)))
    clear hb_w2 c2__0 f2__0 c2__1 f2__1
    try clear c1__0_0 f1__0_0 c1__0_1 f1__0_1 c1__0_2 f1__0_2 c1__0_3 f1__0_3 c1__0_4 f1__0_4 c1__0_5 f1__0_5 c1__1_0 f1__1_0 c1__1_1 f1__1_1 c1__1_2 f1__1_2 c1__1_3 f1__1_3 c1__1_4 f1__1_4 c1__1_5 f1__1_5 far_w1_w_0 far_w1_w_1 hB_w1
    have far_w2_w_0 := far (show w.heap.size < w2.heap.size by omega)
    have far_w2_w_1 := far (show w.heap.size + 1 < w2.heap.size by omega)
    go_wp2_with fail
    refine wp_region_callsV (w.heap.size + 2) [fun W => ((((((W.setCell ⟨w.heap.size + 1, 0, none⟩ (.bool true)).setCell ⟨w.heap.size + 1, 1, none⟩ (.string (S hh))).setCell ⟨w.heap.size + 1, 2, none⟩ (.int .i64 nn)).setCell ⟨w.heap.size + 1, 3, none⟩ (.string (S []))).setCell ⟨w.heap.size + 1, 4, none⟩ (.bool false)).setCell ⟨w.heap.size + 1, 5, none⟩ (.string (S []))), fun W => W] [] (fun r => [8, 9].getD r 0) (fun i => [0, 0, 0, 0, 0, 0, 0, 1, 0, 1].getD i 2) [(32, .string (S t)), (33, .int .i64 t.length), (34, .string (S t)), (35, uv false [] 0 [] false []), (36, .tuple #[uv true hh nn [] false [], .bool pb]), (31, .tuple #[uv true hh nn [] false [], .bool pb]), (37, uv true hh nn [] false []), (38, .bool pb), (5, .bool pb)] [] (by kernel_rfl) (by kernel_rfl) rfl ?_ ?_ ?_ ?_ ?_
    · simp only [puts, List.foldl_cons, List.foldl_nil, Act.put, List.setIfInBounds_toArray, List.set_cons_succ, List.set_cons_zero]; repeat (first | exact trivial | refine ⟨by first | exact Or.inr rfl | exact Or.inl (by kernel_rfl), ?_⟩)
    · simp only [puts, List.foldl_cons, List.foldl_nil, Act.put, List.setIfInBounds_toArray, List.set_cons_succ, List.set_cons_zero]; repeat (first | exact trivial | refine ⟨by first | exact Or.inr rfl | exact Or.inl (by kernel_rfl), ?_⟩)
    · simp only [puts, List.foldl_cons, List.foldl_nil, Act.put, List.setIfInBounds_toArray, List.set_cons_succ, List.set_cons_zero]; repeat (first | exact trivial | refine ⟨by first | exact Or.inr rfl | exact Or.inl (by kernel_rfl), ?_⟩)
    · simp only [puts, List.foldl_cons, List.foldl_nil, Act.put, List.setIfInBounds_toArray, List.set_cons_succ, List.set_cons_zero]
      refine And.intro ?_ ?_
      · exact opOK_headC 0 (by rfl) (upto0 (by exact oneC_val rfl rfl (fun x hx => by have cc0 := fun o => (show Below _ _ x from hx).cell (p := ⟨w.heap.size, o, none⟩) (by first | omega | (simp <;> omega)); have ff0 := fun o => (show Below _ _ x from hx).frozen (p := ⟨w.heap.size, o, none⟩) (by first | omega | (simp <;> omega)); have cc1 := fun o => (show Below _ _ x from hx).cell (p := ⟨w.heap.size + 1, o, none⟩) (by first | omega | (simp <;> omega)); have ff1 := fun o => (show Below _ _ x from hx).frozen (p := ⟨w.heap.size + 1, o, none⟩) (by first | omega | (simp <;> omega)); simp [go_sem, *])))
      refine And.intro ?_ ?_
      · exact opOK_headC 0 (by rfl) (upto0 (by exact oneC_val rfl rfl (fun x hx => by have cc0 := fun o => (show Below _ _ x from hx).cell (p := ⟨w.heap.size, o, none⟩) (by first | omega | (simp <;> omega)); have ff0 := fun o => (show Below _ _ x from hx).frozen (p := ⟨w.heap.size, o, none⟩) (by first | omega | (simp <;> omega)); have cc1 := fun o => (show Below _ _ x from hx).cell (p := ⟨w.heap.size + 1, o, none⟩) (by first | omega | (simp <;> omega)); have ff1 := fun o => (show Below _ _ x from hx).frozen (p := ⟨w.heap.size + 1, o, none⟩) (by first | omega | (simp <;> omega)); simp [go_sem, *])))
      refine And.intro ?_ ?_
      · exact opOK_headC 0 (by rfl) (upto0 (by exact oneC_val rfl rfl (fun x hx => by have cc0 := fun o => (show Below _ _ x from hx).cell (p := ⟨w.heap.size, o, none⟩) (by first | omega | (simp <;> omega)); have ff0 := fun o => (show Below _ _ x from hx).frozen (p := ⟨w.heap.size, o, none⟩) (by first | omega | (simp <;> omega)); have cc1 := fun o => (show Below _ _ x from hx).cell (p := ⟨w.heap.size + 1, o, none⟩) (by first | omega | (simp <;> omega)); have ff1 := fun o => (show Below _ _ x from hx).frozen (p := ⟨w.heap.size + 1, o, none⟩) (by first | omega | (simp <;> omega)); simp [go_sem, *])))
      refine And.intro ?_ ?_
      · exact opOK_headC 0 (by rfl) (upto0 (by exact oneC_val rfl rfl (fun x hx => by have cc0 := fun o => (show Below _ _ x from hx).cell (p := ⟨w.heap.size, o, none⟩) (by first | omega | (simp <;> omega)); have ff0 := fun o => (show Below _ _ x from hx).frozen (p := ⟨w.heap.size, o, none⟩) (by first | omega | (simp <;> omega)); have cc1 := fun o => (show Below _ _ x from hx).cell (p := ⟨w.heap.size + 1, o, none⟩) (by first | omega | (simp <;> omega)); have ff1 := fun o => (show Below _ _ x from hx).frozen (p := ⟨w.heap.size + 1, o, none⟩) (by first | omega | (simp <;> omega)); simp [go_sem, *])))
      refine And.intro ?_ ?_
      · exact opOK_headC 0 (by rfl) (upto0 (by exact oneC_call rfl rfl (fun x hx => by have cc0 := fun o => (show Below _ _ x from hx).cell (p := ⟨w.heap.size, o, none⟩) (by first | omega | (simp <;> omega)); have ff0 := fun o => (show Below _ _ x from hx).frozen (p := ⟨w.heap.size, o, none⟩) (by first | omega | (simp <;> omega)); have cc1 := fun o => (show Below _ _ x from hx).cell (p := ⟨w.heap.size + 1, o, none⟩) (by first | omega | (simp <;> omega)); have ff1 := fun o => (show Below _ _ x from hx).frozen (p := ⟨w.heap.size + 1, o, none⟩) (by first | omega | (simp <;> omega)); simp [go_sem, *]) (fun x hx => call_cls hx (by have := (show Below _ _ x from hx).size; simp at this; omega) (CP.out _))))
      refine And.intro ?_ ?_
      · exact opOK_headC 0 (by rfl) (upto0 (by exact oneC_val rfl rfl (fun x hx => by have cc0 := fun o => (show Below _ _ x from hx).cell (p := ⟨w.heap.size, o, none⟩) (by first | omega | (simp <;> omega)); have ff0 := fun o => (show Below _ _ x from hx).frozen (p := ⟨w.heap.size, o, none⟩) (by first | omega | (simp <;> omega)); have cc1 := fun o => (show Below _ _ x from hx).cell (p := ⟨w.heap.size + 1, o, none⟩) (by first | omega | (simp <;> omega)); have ff1 := fun o => (show Below _ _ x from hx).frozen (p := ⟨w.heap.size + 1, o, none⟩) (by first | omega | (simp <;> omega)); simp [go_sem, *])))
      refine And.intro ?_ ?_
      · exact opOK_headC 0 (by rfl) (upto0 (by exact oneC_val rfl rfl (fun x hx => by have cc0 := fun o => (show Below _ _ x from hx).cell (p := ⟨w.heap.size, o, none⟩) (by first | omega | (simp <;> omega)); have ff0 := fun o => (show Below _ _ x from hx).frozen (p := ⟨w.heap.size, o, none⟩) (by first | omega | (simp <;> omega)); have cc1 := fun o => (show Below _ _ x from hx).cell (p := ⟨w.heap.size + 1, o, none⟩) (by first | omega | (simp <;> omega)); have ff1 := fun o => (show Below _ _ x from hx).frozen (p := ⟨w.heap.size + 1, o, none⟩) (by first | omega | (simp <;> omega)); simp [go_sem, *])))
      refine And.intro ?_ ?_
      · exact opOK_headC 1 (by rfl) (upto1 (by exact oneC_val rfl rfl (fun x hx => by have cc0 := fun o => (show Below _ _ x from hx).cell (p := ⟨w.heap.size, o, none⟩) (by first | omega | (simp <;> omega)); have ff0 := fun o => (show Below _ _ x from hx).frozen (p := ⟨w.heap.size, o, none⟩) (by first | omega | (simp <;> omega)); have cc1 := fun o => (show Below _ _ x from hx).cell (p := ⟨w.heap.size + 1, o, none⟩) (by first | omega | (simp <;> omega)); have ff1 := fun o => (show Below _ _ x from hx).frozen (p := ⟨w.heap.size + 1, o, none⟩) (by first | omega | (simp <;> omega)); simp [go_sem, *])) (by exact oneC_val rfl rfl (fun x hx => by have cc0 := fun o => (show Below _ _ x from hx).cell (p := ⟨w.heap.size, o, none⟩) (by first | omega | (simp <;> omega)); have ff0 := fun o => (show Below _ _ x from hx).frozen (p := ⟨w.heap.size, o, none⟩) (by first | omega | (simp <;> omega)); have cc1 := fun o => (show Below _ _ x from hx).cell (p := ⟨w.heap.size + 1, o, none⟩) (by first | omega | (simp <;> omega)); have ff1 := fun o => (show Below _ _ x from hx).frozen (p := ⟨w.heap.size + 1, o, none⟩) (by first | omega | (simp <;> omega)); simp [go_sem, *])))
      refine And.intro ?_ ?_
      · exact opOK_atC 0 (by rfl) (oneC_store (g := fun W => ((((((W.setCell ⟨w.heap.size + 1, 0, none⟩ (.bool true)).setCell ⟨w.heap.size + 1, 1, none⟩ (.string (S hh))).setCell ⟨w.heap.size + 1, 2, none⟩ (.int .i64 nn)).setCell ⟨w.heap.size + 1, 3, none⟩ (.string (S []))).setCell ⟨w.heap.size + 1, 4, none⟩ (.bool false)).setCell ⟨w.heap.size + 1, 5, none⟩ (.string (S [])))) rfl (fun x hx => ⟨by have cc0 := fun o => (show Below _ _ x from hx).cell (p := ⟨w.heap.size, o, none⟩) (by first | omega | (simp <;> omega)); have ff0 := fun o => (show Below _ _ x from hx).frozen (p := ⟨w.heap.size, o, none⟩) (by first | omega | (simp <;> omega)); have cc1 := fun o => (show Below _ _ x from hx).cell (p := ⟨w.heap.size + 1, o, none⟩) (by first | omega | (simp <;> omega)); have ff1 := fun o => (show Below _ _ x from hx).frozen (p := ⟨w.heap.size + 1, o, none⟩) (by first | omega | (simp <;> omega)); simp [go_sem, *], by simp only [Cls, List.take_succ_cons, List.take_zero, List.foldl_cons, List.foldl_nil] at hx ⊢; repeat (first | (with_reducible exact hx) | (with_reducible refine below_both ?_ _ _))⟩))
      refine And.intro ?_ ?_
      · exact opOK_atC 1 (by rfl) (oneC_assign rfl rfl (fun x hx => ⟨by have cc0 := fun o => (show Below _ _ x from hx).cell (p := ⟨w.heap.size, o, none⟩) (by first | omega | (simp <;> omega)); have ff0 := fun o => (show Below _ _ x from hx).frozen (p := ⟨w.heap.size, o, none⟩) (by first | omega | (simp <;> omega)); have cc1 := fun o => (show Below _ _ x from hx).cell (p := ⟨w.heap.size + 1, o, none⟩) (by first | omega | (simp <;> omega)); have ff1 := fun o => (show Below _ _ x from hx).frozen (p := ⟨w.heap.size + 1, o, none⟩) (by first | omega | (simp <;> omega)); simp [go_sem, *], by simp only [Cls, List.take_succ_cons, List.take_zero, List.foldl_cons, List.foldl_nil] at hx ⊢; (with_reducible exact hx)⟩))
      exact trivial
    simp only [puts, List.foldl_cons, List.foldl_nil, Act.put, List.setIfInBounds_toArray, List.set_cons_succ, List.set_cons_zero]
    intro w3 hb_w3
    have hz_w3 := hb_w3.size
    try simp at hz_w3
    have c3__0 := fun o => hb_w3.cell (p := ⟨w.heap.size, o, none⟩) (by first | omega | (simp <;> omega))
    have f3__0 := fun o => hb_w3.frozen (p := ⟨w.heap.size, o, none⟩) (by first | omega | (simp <;> omega))
    have c3__0_0 := c3__0 0; conv at c3__0_0 => rhs; simp [go_sem, *]
    have f3__0_0 := f3__0 0; conv at f3__0_0 => rhs; simp [go_sem, *]
    have c3__0_1 := c3__0 1; conv at c3__0_1 => rhs; simp [go_sem, *]
    have f3__0_1 := f3__0 1; conv at f3__0_1 => rhs; simp [go_sem, *]
    have c3__0_2 := c3__0 2; conv at c3__0_2 => rhs; simp [go_sem, *]
    have f3__0_2 := f3__0 2; conv at f3__0_2 => rhs; simp [go_sem, *]
    have c3__0_3 := c3__0 3; conv at c3__0_3 => rhs; simp [go_sem, *]
    have f3__0_3 := f3__0 3; conv at f3__0_3 => rhs; simp [go_sem, *]
    have c3__0_4 := c3__0 4; conv at c3__0_4 => rhs; simp [go_sem, *]
    have f3__0_4 := f3__0 4; conv at f3__0_4 => rhs; simp [go_sem, *]
    have c3__0_5 := c3__0 5; conv at c3__0_5 => rhs; simp [go_sem, *]
    have f3__0_5 := f3__0 5; conv at f3__0_5 => rhs; simp [go_sem, *]
    have c3__1 := fun o => hb_w3.cell (p := ⟨w.heap.size + 1, o, none⟩) (by first | omega | (simp <;> omega))
    have f3__1 := fun o => hb_w3.frozen (p := ⟨w.heap.size + 1, o, none⟩) (by first | omega | (simp <;> omega))
    have c3__1_0 := c3__1 0; conv at c3__1_0 => rhs; simp [go_sem, *]
    have f3__1_0 := f3__1 0; conv at f3__1_0 => rhs; simp [go_sem, *]
    have c3__1_1 := c3__1 1; conv at c3__1_1 => rhs; simp [go_sem, *]
    have f3__1_1 := f3__1 1; conv at f3__1_1 => rhs; simp [go_sem, *]
    have c3__1_2 := c3__1 2; conv at c3__1_2 => rhs; simp [go_sem, *]
    have f3__1_2 := f3__1 2; conv at f3__1_2 => rhs; simp [go_sem, *]
    have c3__1_3 := c3__1 3; conv at c3__1_3 => rhs; simp [go_sem, *]
    have f3__1_3 := f3__1 3; conv at f3__1_3 => rhs; simp [go_sem, *]
    have c3__1_4 := c3__1 4; conv at c3__1_4 => rhs; simp [go_sem, *]
    have f3__1_4 := f3__1 4; conv at f3__1_4 => rhs; simp [go_sem, *]
    have c3__1_5 := c3__1 5; conv at c3__1_5 => rhs; simp [go_sem, *]
    have f3__1_5 := f3__1 5; conv at f3__1_5 => rhs; simp [go_sem, *]
    have HH_w3 := Lib.hid hb_w3
    have hB_w3 : Below w.heap.size w w3 := Below.trans (by (repeat (first | with_reducible exact Below.refl _ _ | with_reducible assumption | with_reducible refine Below.drew ?_ | (with_reducible refine Below.setCell ?_ ?_ _; rotate_left; (first | omega | (simp <;> omega))) | (with_reducible refine Below.alloc ?_ ?_ _; rotate_left; (first | omega | (simp <;> omega))) | exact Below.refl _ _ | assumption))) (hb_w3.mono (by first | omega | (simp <;> omega)))
    clear hb_w3 c3__0 f3__0 c3__1 f3__1
    try clear c2__0_0 f2__0_0 c2__0_1 f2__0_1 c2__0_2 f2__0_2 c2__0_3 f2__0_3 c2__0_4 f2__0_4 c2__0_5 f2__0_5 c2__1_0 f2__1_0 c2__1_1 f2__1_1 c2__1_2 f2__1_2 c2__1_3 f2__1_3 c2__1_4 f2__1_4 c2__1_5 f2__1_5 far_w2_w_0 far_w2_w_1 hB_w2
    have far_w3_w_0 := far (show w.heap.size < w3.heap.size by omega)
    have far_w3_w_1 := far (show w.heap.size + 1 < w3.heap.size by omega)
    go_wp2_with fail
    refine Calls.mono (CQ.out _) ?_
    rintro e w7 ⟨rfl, hb_w7⟩
    have hz_w7 := hb_w7.size
    try simp at hz_w7
    obtain ⟨c7__0, f7__0⟩ := bk hb_w7 (w.heap.size) (by first | omega | (simp <;> omega))
    have c7__0_0 := c7__0 0; conv at c7__0_0 => rhs; simp [go_sem, *]
    have f7__0_0 := f7__0 0; conv at f7__0_0 => rhs; simp [go_sem, *]
    have c7__0_1 := c7__0 1; conv at c7__0_1 => rhs; simp [go_sem, *]
    have f7__0_1 := f7__0 1; conv at f7__0_1 => rhs; simp [go_sem, *]
    have c7__0_2 := c7__0 2; conv at c7__0_2 => rhs; simp [go_sem, *]
    have f7__0_2 := f7__0 2; conv at f7__0_2 => rhs; simp [go_sem, *]
    have c7__0_3 := c7__0 3; conv at c7__0_3 => rhs; simp [go_sem, *]
    have f7__0_3 := f7__0 3; conv at f7__0_3 => rhs; simp [go_sem, *]
    have c7__0_4 := c7__0 4; conv at c7__0_4 => rhs; simp [go_sem, *]
    have f7__0_4 := f7__0 4; conv at f7__0_4 => rhs; simp [go_sem, *]
    have c7__0_5 := c7__0 5; conv at c7__0_5 => rhs; simp [go_sem, *]
    have f7__0_5 := f7__0 5; conv at f7__0_5 => rhs; simp [go_sem, *]
    obtain ⟨c7__1, f7__1⟩ := bk hb_w7 (w.heap.size + 1) (by first | omega | (simp <;> omega))
    have c7__1_0 := c7__1 0; conv at c7__1_0 => rhs; simp [go_sem, *]
    have f7__1_0 := f7__1 0; conv at f7__1_0 => rhs; simp [go_sem, *]
    have c7__1_1 := c7__1 1; conv at c7__1_1 => rhs; simp [go_sem, *]
    have f7__1_1 := f7__1 1; conv at f7__1_1 => rhs; simp [go_sem, *]
    have c7__1_2 := c7__1 2; conv at c7__1_2 => rhs; simp [go_sem, *]
    have f7__1_2 := f7__1 2; conv at f7__1_2 => rhs; simp [go_sem, *]
    have c7__1_3 := c7__1 3; conv at c7__1_3 => rhs; simp [go_sem, *]
    have f7__1_3 := f7__1 3; conv at f7__1_3 => rhs; simp [go_sem, *]
    have c7__1_4 := c7__1 4; conv at c7__1_4 => rhs; simp [go_sem, *]
    have f7__1_4 := f7__1 4; conv at f7__1_4 => rhs; simp [go_sem, *]
    have c7__1_5 := c7__1 5; conv at c7__1_5 => rhs; simp [go_sem, *]
    have f7__1_5 := f7__1 5; conv at f7__1_5 => rhs; simp [go_sem, *]
    have HH_w7 := Lib.hid hb_w7
    have hB_w7 : Below w.heap.size w w7 := Below.trans (by (repeat (first | with_reducible exact Below.refl _ _ | with_reducible assumption | with_reducible refine Below.drew ?_ | (with_reducible refine Below.setCell ?_ ?_ _; rotate_left; (first | omega | (simp <;> omega))) | (with_reducible refine Below.alloc ?_ ?_ _; rotate_left; (first | omega | (simp <;> omega))) | exact Below.refl _ _ | assumption))) (hb_w7.mono (by first | omega | (simp <;> omega)))
    clear hb_w7 c7__0 f7__0 c7__1 f7__1
    try clear c3__0_0 f3__0_0 c3__0_1 f3__0_1 c3__0_2 f3__0_2 c3__0_3 f3__0_3 c3__0_4 f3__0_4 c3__0_5 f3__0_5 c3__1_0 f3__1_0 c3__1_1 f3__1_1 c3__1_2 f3__1_2 c3__1_3 f3__1_3 c3__1_4 f3__1_4 c3__1_5 f3__1_5 far_w3_w_0 far_w3_w_1 hB_w3
    have far_w7_w_0 := far (show w.heap.size < w7.heap.size by omega)
    have far_w7_w_1 := far (show w.heap.size + 1 < w7.heap.size by omega)
    cases pb with
    | false =>
      go_wp2
      refine bodyPost_ret (v := .tuple #[uv false [] 0 [] false [], .int .i64 20]) (by simp [results, Tryz.results22, go_sem, *]) rfl ⟨by rw [HN.out (by simp)]; rfl, ?_⟩
      (repeat (first | with_reducible exact Below.refl _ _ | with_reducible assumption | with_reducible refine Below.drew ?_ | (with_reducible refine Below.setCell ?_ ?_ _; rotate_left; (first | omega | (simp <;> omega))) | (with_reducible refine Below.alloc ?_ ?_ _; rotate_left; (first | omega | (simp <;> omega))) | exact Below.refl _ _ | assumption))
    | true =>
      go_wp2_with fail
      refine Calls.mono (CR.out _ (by (repeat (first | with_reducible exact Below.refl _ _ | with_reducible assumption | with_reducible refine Below.drew ?_ | (with_reducible refine Below.setCell ?_ ?_ _; rotate_left; (first | omega | (simp <;> omega))) | (with_reducible refine Below.alloc ?_ ?_ _; rotate_left; (first | omega | (simp <;> omega))) | exact Below.refl _ _ | assumption)))) ?_
      rintro e w8 ⟨rfl, hb_w8⟩
      have hz_w8 := hb_w8.size
      try simp at hz_w8
      obtain ⟨c8__0, f8__0⟩ := bk hb_w8 (w.heap.size) (by first | omega | (simp <;> omega))
      have c8__0_0 := c8__0 0; conv at c8__0_0 => rhs; simp [go_sem, *]
      have f8__0_0 := f8__0 0; conv at f8__0_0 => rhs; simp [go_sem, *]
      have c8__0_1 := c8__0 1; conv at c8__0_1 => rhs; simp [go_sem, *]
      have f8__0_1 := f8__0 1; conv at f8__0_1 => rhs; simp [go_sem, *]
      have c8__0_2 := c8__0 2; conv at c8__0_2 => rhs; simp [go_sem, *]
      have f8__0_2 := f8__0 2; conv at f8__0_2 => rhs; simp [go_sem, *]
      have c8__0_3 := c8__0 3; conv at c8__0_3 => rhs; simp [go_sem, *]
      have f8__0_3 := f8__0 3; conv at f8__0_3 => rhs; simp [go_sem, *]
      have c8__0_4 := c8__0 4; conv at c8__0_4 => rhs; simp [go_sem, *]
      have f8__0_4 := f8__0 4; conv at f8__0_4 => rhs; simp [go_sem, *]
      have c8__0_5 := c8__0 5; conv at c8__0_5 => rhs; simp [go_sem, *]
      have f8__0_5 := f8__0 5; conv at f8__0_5 => rhs; simp [go_sem, *]
      obtain ⟨c8__1, f8__1⟩ := bk hb_w8 (w.heap.size + 1) (by first | omega | (simp <;> omega))
      have c8__1_0 := c8__1 0; conv at c8__1_0 => rhs; simp [go_sem, *]
      have f8__1_0 := f8__1 0; conv at f8__1_0 => rhs; simp [go_sem, *]
      have c8__1_1 := c8__1 1; conv at c8__1_1 => rhs; simp [go_sem, *]
      have f8__1_1 := f8__1 1; conv at f8__1_1 => rhs; simp [go_sem, *]
      have c8__1_2 := c8__1 2; conv at c8__1_2 => rhs; simp [go_sem, *]
      have f8__1_2 := f8__1 2; conv at f8__1_2 => rhs; simp [go_sem, *]
      have c8__1_3 := c8__1 3; conv at c8__1_3 => rhs; simp [go_sem, *]
      have f8__1_3 := f8__1 3; conv at f8__1_3 => rhs; simp [go_sem, *]
      have c8__1_4 := c8__1 4; conv at c8__1_4 => rhs; simp [go_sem, *]
      have f8__1_4 := f8__1 4; conv at f8__1_4 => rhs; simp [go_sem, *]
      have c8__1_5 := c8__1 5; conv at c8__1_5 => rhs; simp [go_sem, *]
      have f8__1_5 := f8__1 5; conv at f8__1_5 => rhs; simp [go_sem, *]
      have HH_w8 := Lib.hid hb_w8
      have hB_w8 : Below w.heap.size w w8 := Below.trans (by (repeat (first | with_reducible exact Below.refl _ _ | with_reducible assumption | with_reducible refine Below.drew ?_ | (with_reducible refine Below.setCell ?_ ?_ _; rotate_left; (first | omega | (simp <;> omega))) | (with_reducible refine Below.alloc ?_ ?_ _; rotate_left; (first | omega | (simp <;> omega))) | exact Below.refl _ _ | assumption))) (hb_w8.mono (by first | omega | (simp <;> omega)))
      clear hb_w8 c8__0 f8__0 c8__1 f8__1
      try clear c7__0_0 f7__0_0 c7__0_1 f7__0_1 c7__0_2 f7__0_2 c7__0_3 f7__0_3 c7__0_4 f7__0_4 c7__0_5 f7__0_5 c7__1_0 f7__1_0 c7__1_1 f7__1_1 c7__1_2 f7__1_2 c7__1_3 f7__1_3 c7__1_4 f7__1_4 c7__1_5 f7__1_5 far_w7_w_0 far_w7_w_1 hB_w7
      have far_w8_w_0 := far (show w.heap.size < w8.heap.size by omega)
      have far_w8_w_1 := far (show w.heap.size + 1 < w8.heap.size by omega)
      cases ok with
      | false =>
        go_wp2
        refine bodyPost_ret (v := .tuple #[uv false [] 0 [] false [], .int .i64 20]) (by simp [results, Tryz.results22, go_sem, *]) rfl ⟨by rw [HN.out (by simp)]; rfl, ?_⟩
        (repeat (first | with_reducible exact Below.refl _ _ | with_reducible assumption | with_reducible refine Below.drew ?_ | (with_reducible refine Below.setCell ?_ ?_ _; rotate_left; (first | omega | (simp <;> omega))) | (with_reducible refine Below.alloc ?_ ?_ _; rotate_left; (first | omega | (simp <;> omega))) | exact Below.refl _ _ | assumption))
      | true =>
        go_wp2
        refine bodyPost_ret (v := .tuple #[uv true hh nn f tt g, .int .i64 0]) (by simp [results, Tryz.results22, go_sem, *]) rfl ⟨by rw [HY.out (by simp) (by simp)], ?_⟩
        (repeat (first | with_reducible exact Below.refl _ _ | with_reducible assumption | with_reducible refine Below.drew ?_ | (with_reducible refine Below.setCell ?_ ?_ _; rotate_left; (first | omega | (simp <;> omega))) | (with_reducible refine Below.alloc ?_ ?_ _; rotate_left; (first | omega | (simp <;> omega))) | exact Below.refl _ _ | assumption))
  · obtain ⟨k, rfl⟩ : ∃ k : Nat, ia = k := ⟨ia.toNat, by omega⟩
    obtain rfl : e = k := by rw [hE, if_neg h0]; simp
    clear hE
    have hdp : 0 < d.length := by omega
    have hdn : (d == []) = false := by cases d with
      | nil => simp at hdp
      | cons a b => rfl
    by_cases h63 : bAt d 0 = 63
    · have hb63 : (bAt d 0 == 63) = true := by simpa using h63
      obtain rfl : r = 47 :: d := by rw [HT, if_pos (.inr h63)]
      clear HT
      go_enter Tryz.func22, Tryz.ntmps22
      go_wp2_with fail
      refine Calls.mono (CS.out _) ?_
      rintro e w1 ⟨rfl, hb_w1⟩
      have hz_w1 := hb_w1.size
      try simp at hz_w1
      obtain ⟨c1__0, f1__0⟩ := bk hb_w1 (w.heap.size) (by first | omega | (simp <;> omega))
      have c1__0_0 := c1__0 0; conv at c1__0_0 => rhs; simp [go_sem, *]
      have f1__0_0 := f1__0 0; conv at f1__0_0 => rhs; simp [go_sem, *]
      have c1__0_1 := c1__0 1; conv at c1__0_1 => rhs; simp [go_sem, *]
      have f1__0_1 := f1__0 1; conv at f1__0_1 => rhs; simp [go_sem, *]
      have c1__0_2 := c1__0 2; conv at c1__0_2 => rhs; simp [go_sem, *]
      have f1__0_2 := f1__0 2; conv at f1__0_2 => rhs; simp [go_sem, *]
      have c1__0_3 := c1__0 3; conv at c1__0_3 => rhs; simp [go_sem, *]
      have f1__0_3 := f1__0 3; conv at f1__0_3 => rhs; simp [go_sem, *]
      have c1__0_4 := c1__0 4; conv at c1__0_4 => rhs; simp [go_sem, *]
      have f1__0_4 := f1__0 4; conv at f1__0_4 => rhs; simp [go_sem, *]
      have c1__0_5 := c1__0 5; conv at c1__0_5 => rhs; simp [go_sem, *]
      have f1__0_5 := f1__0 5; conv at f1__0_5 => rhs; simp [go_sem, *]
      obtain ⟨c1__1, f1__1⟩ := bk hb_w1 (w.heap.size + 1) (by first | omega | (simp <;> omega))
      have c1__1_0 := c1__1 0; conv at c1__1_0 => rhs; simp [go_sem, *]
      have f1__1_0 := f1__1 0; conv at f1__1_0 => rhs; simp [go_sem, *]
      have c1__1_1 := c1__1 1; conv at c1__1_1 => rhs; simp [go_sem, *]
      have f1__1_1 := f1__1 1; conv at f1__1_1 => rhs; simp [go_sem, *]
      have c1__1_2 := c1__1 2; conv at c1__1_2 => rhs; simp [go_sem, *]
      have f1__1_2 := f1__1 2; conv at f1__1_2 => rhs; simp [go_sem, *]
      have c1__1_3 := c1__1 3; conv at c1__1_3 => rhs; simp [go_sem, *]
      have f1__1_3 := f1__1 3; conv at f1__1_3 => rhs; simp [go_sem, *]
      have c1__1_4 := c1__1 4; conv at c1__1_4 => rhs; simp [go_sem, *]
      have f1__1_4 := f1__1 4; conv at f1__1_4 => rhs; simp [go_sem, *]
      have c1__1_5 := c1__1 5; conv at c1__1_5 => rhs; simp [go_sem, *]
      have f1__1_5 := f1__1 5; conv at f1__1_5 => rhs; simp [go_sem, *]
      have HH_w1 := Lib.hid hb_w1
      have hB_w1 : Below w.heap.size w w1 := Below.trans (by (repeat (first | with_reducible exact Below.refl _ _ | with_reducible assumption | with_reducible refine Below.drew ?_ | (with_reducible refine Below.setCell ?_ ?_ _; rotate_left; (first | omega | (simp <;> omega))) | (with_reducible refine Below.alloc ?_ ?_ _; rotate_left; (first | omega | (simp <;> omega))) | exact Below.refl _ _ | assumption))) (hb_w1.mono (by first | omega | (simp <;> omega)))
      clear hb_w1 c1__0 f1__0 c1__1 f1__1
      try clear c8__0_0 f8__0_0 c8__0_1 f8__0_1 c8__0_2 f8__0_2 c8__0_3 f8__0_3 c8__0_4 f8__0_4 c8__0_5 f8__0_5 c8__1_0 f8__1_0 c8__1_1 f8__1_1 c8__1_2 f8__1_2 c8__1_3 f8__1_3 c8__1_4 f8__1_4 c8__1_5 f8__1_5 far_w8_w_0 far_w8_w_1 hB_w8
      have far_w1_w_0 := far (show w.heap.size < w1.heap.size by omega)
      have far_w1_w_1 := far (show w.heap.size + 1 < w1.heap.size by omega)
      go_wp2_with fail
      refine Calls.mono (CI.out _) ?_
      rintro e w2 ⟨rfl, hb_w2⟩
      have hz_w2 := hb_w2.size
      try simp at hz_w2
      obtain ⟨c2__0, f2__0⟩ := bk hb_w2 (w.heap.size) (by first | omega | (simp <;> omega))
      have c2__0_0 := c2__0 0; conv at c2__0_0 => rhs; simp [go_sem, *]
      have f2__0_0 := f2__0 0; conv at f2__0_0 => rhs; simp [go_sem, *]
      have c2__0_1 := c2__0 1; conv at c2__0_1 => rhs; simp [go_sem, *]
      have f2__0_1 := f2__0 1; conv at f2__0_1 => rhs; simp [go_sem, *]
      have c2__0_2 := c2__0 2; conv at c2__0_2 => rhs; simp [go_sem, *]
      have f2__0_2 := f2__0 2; conv at f2__0_2 => rhs; simp [go_sem, *]
      have c2__0_3 := c2__0 3; conv at c2__0_3 => rhs; simp [go_sem, *]
      have f2__0_3 := f2__0 3; conv at f2__0_3 => rhs; simp [go_sem, *]
      have c2__0_4 := c2__0 4; conv at c2__0_4 => rhs; simp [go_sem, *]
      have f2__0_4 := f2__0 4; conv at f2__0_4 => rhs; simp [go_sem, *]
      have c2__0_5 := c2__0 5; conv at c2__0_5 => rhs; simp [go_sem, *]
      have f2__0_5 := f2__0 5; conv at f2__0_5 => rhs; simp [go_sem, *]
      obtain ⟨c2__1, f2__1⟩ := bk hb_w2 (w.heap.size + 1) (by first | omega | (simp <;> omega))
      have c2__1_0 := c2__1 0; conv at c2__1_0 => rhs; simp [go_sem, *]
      have f2__1_0 := f2__1 0; conv at f2__1_0 => rhs; simp [go_sem, *]
      have c2__1_1 := c2__1 1; conv at c2__1_1 => rhs; simp [go_sem, *]
      have f2__1_1 := f2__1 1; conv at f2__1_1 => rhs; simp [go_sem, *]
      have c2__1_2 := c2__1 2; conv at c2__1_2 => rhs; simp [go_sem, *]
      have f2__1_2 := f2__1 2; conv at f2__1_2 => rhs; simp [go_sem, *]
      have c2__1_3 := c2__1 3; conv at c2__1_3 => rhs; simp [go_sem, *]
      have f2__1_3 := f2__1 3; conv at f2__1_3 => rhs; simp [go_sem, *]
      have c2__1_4 := c2__1 4; conv at c2__1_4 => rhs; simp [go_sem, *]
      have f2__1_4 := f2__1 4; conv at f2__1_4 => rhs; simp [go_sem, *]
      have c2__1_5 := c2__1 5; conv at c2__1_5 => rhs; simp [go_sem, *]
      have f2__1_5 := f2__1 5; conv at f2__1_5 => rhs; simp [go_sem, *]
      have HH_w2 := Lib.hid hb_w2
      have hB_w2 : Below w.heap.size w w2 := Below.trans (by (repeat (first | with_reducible exact Below.refl _ _ | with_reducible assumption | with_reducible refine Below.drew ?_ | (with_reducible refine Below.setCell ?_ ?_ _; rotate_left; (first | omega | (simp <;> omega))) | (with_reducible refine Below.alloc ?_ ?_ _; rotate_left; (first | omega | (simp <;> omega))) | exact Below.refl _ _ | assumption))) (hb_w2.mono (by first | omega | (simp <;> omega)))
      clear hb_w2 c2__0 f2__0 c2__1 f2__1
      try clear c1__0_0 f1__0_0 c1__0_1 f1__0_1 c1__0_2 f1__0_2 c1__0_3 f1__0_3 c1__0_4 f1__0_4 c1__0_5 f1__0_5 c1__1_0 f1__1_0 c1__1_1 f1__1_1 c1__1_2 f1__1_2 c1__1_3 f1__1_3 c1__1_4 f1__1_4 c1__1_5 f1__1_5 far_w1_w_0 far_w1_w_1 hB_w1
      have far_w2_w_0 := far (show w.heap.size < w2.heap.size by omega)
      have far_w2_w_1 := far (show w.heap.size + 1 < w2.heap.size by omega)
      go_wp2_with fail
      refine wp_region_callsV (w.heap.size + 2) [fun W => ((((((W.setCell ⟨w.heap.size + 1, 0, none⟩ (.bool true)).setCell ⟨w.heap.size + 1, 1, none⟩ (.string (S hh))).setCell ⟨w.heap.size + 1, 2, none⟩ (.int .i64 nn)).setCell ⟨w.heap.size + 1, 3, none⟩ (.string (S []))).setCell ⟨w.heap.size + 1, 4, none⟩ (.bool false)).setCell ⟨w.heap.size + 1, 5, none⟩ (.string (S []))), fun W => W] [] (fun r => [8, 9].getD r 0) (fun i => [0, 0, 0, 0, 0, 0, 0, 1, 0, 1].getD i 2) [(32, .string (S t)), (33, .int .i64 e), (34, .string (S (t.take e))), (35, uv false [] 0 [] false []), (36, .tuple #[uv true hh nn [] false [], .bool pb]), (31, .tuple #[uv true hh nn [] false [], .bool pb]), (37, uv true hh nn [] false []), (38, .bool pb), (5, .bool pb)] [] (by kernel_rfl) (by kernel_rfl) rfl ?_ ?_ ?_ ?_ ?_
      · simp only [puts, List.foldl_cons, List.foldl_nil, Act.put, List.setIfInBounds_toArray, List.set_cons_succ, List.set_cons_zero]; repeat (first | exact trivial | refine ⟨by first | exact Or.inr rfl | exact Or.inl (by kernel_rfl), ?_⟩)
      · simp only [puts, List.foldl_cons, List.foldl_nil, Act.put, List.setIfInBounds_toArray, List.set_cons_succ, List.set_cons_zero]; repeat (first | exact trivial | refine ⟨by first | exact Or.inr rfl | exact Or.inl (by kernel_rfl), ?_⟩)
      · simp only [puts, List.foldl_cons, List.foldl_nil, Act.put, List.setIfInBounds_toArray, List.set_cons_succ, List.set_cons_zero]; repeat (first | exact trivial | refine ⟨by first | exact Or.inr rfl | exact Or.inl (by kernel_rfl), ?_⟩)
      · simp only [puts, List.foldl_cons, List.foldl_nil, Act.put, List.setIfInBounds_toArray, List.set_cons_succ, List.set_cons_zero]
        refine And.intro ?_ ?_
        · exact opOK_headC 0 (by rfl) (upto0 (by exact oneC_val rfl rfl (fun x hx => by have cc0 := fun o => (show Below _ _ x from hx).cell (p := ⟨w.heap.size, o, none⟩) (by first | omega | (simp <;> omega)); have ff0 := fun o => (show Below _ _ x from hx).frozen (p := ⟨w.heap.size, o, none⟩) (by first | omega | (simp <;> omega)); have cc1 := fun o => (show Below _ _ x from hx).cell (p := ⟨w.heap.size + 1, o, none⟩) (by first | omega | (simp <;> omega)); have ff1 := fun o => (show Below _ _ x from hx).frozen (p := ⟨w.heap.size + 1, o, none⟩) (by first | omega | (simp <;> omega)); simp [go_sem, *])))
        refine And.intro ?_ ?_
        · exact opOK_headC 0 (by rfl) (upto0 (by exact oneC_val rfl rfl (fun x hx => by have cc0 := fun o => (show Below _ _ x from hx).cell (p := ⟨w.heap.size, o, none⟩) (by first | omega | (simp <;> omega)); have ff0 := fun o => (show Below _ _ x from hx).frozen (p := ⟨w.heap.size, o, none⟩) (by first | omega | (simp <;> omega)); have cc1 := fun o => (show Below _ _ x from hx).cell (p := ⟨w.heap.size + 1, o, none⟩) (by first | omega | (simp <;> omega)); have ff1 := fun o => (show Below _ _ x from hx).frozen (p := ⟨w.heap.size + 1, o, none⟩) (by first | omega | (simp <;> omega)); simp [go_sem, *])))
        refine And.intro ?_ ?_
        · exact opOK_headC 0 (by rfl) (upto0 (by exact oneC_val rfl rfl (fun x hx => by have cc0 := fun o => (show Below _ _ x from hx).cell (p := ⟨w.heap.size, o, none⟩) (by first | omega | (simp <;> omega)); have ff0 := fun o => (show Below _ _ x from hx).frozen (p := ⟨w.heap.size, o, none⟩) (by first | omega | (simp <;> omega)); have cc1 := fun o => (show Below _ _ x from hx).cell (p := ⟨w.heap.size + 1, o, none⟩) (by first | omega | (simp <;> omega)); have ff1 := fun o => (show Below _ _ x from hx).frozen (p := ⟨w.heap.size + 1, o, none⟩) (by first | omega | (simp <;> omega)); simp [go_sem, *])))
        refine And.intro ?_ ?_
        · exact opOK_headC 0 (by rfl) (upto0 (by exact oneC_val rfl rfl (fun x hx => by have cc0 := fun o => (show Below _ _ x from hx).cell (p := ⟨w.heap.size, o, none⟩) (by first | omega | (simp <;> omega)); have ff0 := fun o => (show Below _ _ x from hx).frozen (p := ⟨w.heap.size, o, none⟩) (by first | omega | (simp <;> omega)); have cc1 := fun o => (show Below _ _ x from hx).cell (p := ⟨w.heap.size + 1, o, none⟩) (by first | omega | (simp <;> omega)); have ff1 := fun o => (show Below _ _ x from hx).frozen (p := ⟨w.heap.size + 1, o, none⟩) (by first | omega | (simp <;> omega)); simp [go_sem, *])))
        refine And.intro ?_ ?_
        · exact opOK_headC 0 (by rfl) (upto0 (by exact oneC_call rfl rfl (fun x hx => by have cc0 := fun o => (show Below _ _ x from hx).cell (p := ⟨w.heap.size, o, none⟩) (by first | omega | (simp <;> omega)); have ff0 := fun o => (show Below _ _ x from hx).frozen (p := ⟨w.heap.size, o, none⟩) (by first | omega | (simp <;> omega)); have cc1 := fun o => (show Below _ _ x from hx).cell (p := ⟨w.heap.size + 1, o, none⟩) (by first | omega | (simp <;> omega)); have ff1 := fun o => (show Below _ _ x from hx).frozen (p := ⟨w.heap.size + 1, o, none⟩) (by first | omega | (simp <;> omega)); simp [go_sem, *]) (fun x hx => call_cls hx (by have := (show Below _ _ x from hx).size; simp at this; omega) (CP.out _))))
        refine And.intro ?_ ?_
        · exact opOK_headC 0 (by rfl) (upto0 (by exact oneC_val rfl rfl (fun x hx => by have cc0 := fun o => (show Below _ _ x from hx).cell (p := ⟨w.heap.size, o, none⟩) (by first | omega | (simp <;> omega)); have ff0 := fun o => (show Below _ _ x from hx).frozen (p := ⟨w.heap.size, o, none⟩) (by first | omega | (simp <;> omega)); have cc1 := fun o => (show Below _ _ x from hx).cell (p := ⟨w.heap.size + 1, o, none⟩) (by first | omega | (simp <;> omega)); have ff1 := fun o => (show Below _ _ x from hx).frozen (p := ⟨w.heap.size + 1, o, none⟩) (by first | omega | (simp <;> omega)); simp [go_sem, *])))
        refine And.intro ?_ ?_
        · exact opOK_headC 0 (by rfl) (upto0 (by exact oneC_val rfl rfl (fun x hx => by have cc0 := fun o => (show Below _ _ x from hx).cell (p := ⟨w.heap.size, o, none⟩) (by first | omega | (simp <;> omega)); have ff0 := fun o => (show Below _ _ x from hx).frozen (p := ⟨w.heap.size, o, none⟩) (by first | omega | (simp <;> omega)); have cc1 := fun o => (show Below _ _ x from hx).cell (p := ⟨w.heap.size + 1, o, none⟩) (by first | omega | (simp <;> omega)); have ff1 := fun o => (show Below _ _ x from hx).frozen (p := ⟨w.heap.size + 1, o, none⟩) (by first | omega | (simp <;> omega)); simp [go_sem, *])))
        refine And.intro ?_ ?_
        · exact opOK_headC 1 (by rfl) (upto1 (by exact oneC_val rfl rfl (fun x hx => by have cc0 := fun o => (show Below _ _ x from hx).cell (p := ⟨w.heap.size, o, none⟩) (by first | omega | (simp <;> omega)); have ff0 := fun o => (show Below _ _ x from hx).frozen (p := ⟨w.heap.size, o, none⟩) (by first | omega | (simp <;> omega)); have cc1 := fun o => (show Below _ _ x from hx).cell (p := ⟨w.heap.size + 1, o, none⟩) (by first | omega | (simp <;> omega)); have ff1 := fun o => (show Below _ _ x from hx).frozen (p := ⟨w.heap.size + 1, o, none⟩) (by first | omega | (simp <;> omega)); simp [go_sem, *])) (by exact oneC_val rfl rfl (fun x hx => by have cc0 := fun o => (show Below _ _ x from hx).cell (p := ⟨w.heap.size, o, none⟩) (by first | omega | (simp <;> omega)); have ff0 := fun o => (show Below _ _ x from hx).frozen (p := ⟨w.heap.size, o, none⟩) (by first | omega | (simp <;> omega)); have cc1 := fun o => (show Below _ _ x from hx).cell (p := ⟨w.heap.size + 1, o, none⟩) (by first | omega | (simp <;> omega)); have ff1 := fun o => (show Below _ _ x from hx).frozen (p := ⟨w.heap.size + 1, o, none⟩) (by first | omega | (simp <;> omega)); simp [go_sem, *])))
        refine And.intro ?_ ?_
        · exact opOK_atC 0 (by rfl) (oneC_store (g := fun W => ((((((W.setCell ⟨w.heap.size + 1, 0, none⟩ (.bool true)).setCell ⟨w.heap.size + 1, 1, none⟩ (.string (S hh))).setCell ⟨w.heap.size + 1, 2, none⟩ (.int .i64 nn)).setCell ⟨w.heap.size + 1, 3, none⟩ (.string (S []))).setCell ⟨w.heap.size + 1, 4, none⟩ (.bool false)).setCell ⟨w.heap.size + 1, 5, none⟩ (.string (S [])))) rfl (fun x hx => ⟨by have cc0 := fun o => (show Below _ _ x from hx).cell (p := ⟨w.heap.size, o, none⟩) (by first | omega | (simp <;> omega)); have ff0 := fun o => (show Below _ _ x from hx).frozen (p := ⟨w.heap.size, o, none⟩) (by first | omega | (simp <;> omega)); have cc1 := fun o => (show Below _ _ x from hx).cell (p := ⟨w.heap.size + 1, o, none⟩) (by first | omega | (simp <;> omega)); have ff1 := fun o => (show Below _ _ x from hx).frozen (p := ⟨w.heap.size + 1, o, none⟩) (by first | omega | (simp <;> omega)); simp [go_sem, *], by simp only [Cls, List.take_succ_cons, List.take_zero, List.foldl_cons, List.foldl_nil] at hx ⊢; repeat (first | (with_reducible exact hx) | (with_reducible refine below_both ?_ _ _))⟩))
        refine And.intro ?_ ?_
        · exact opOK_atC 1 (by rfl) (oneC_assign rfl rfl (fun x hx => ⟨by have cc0 := fun o => (show Below _ _ x from hx).cell (p := ⟨w.heap.size, o, none⟩) (by first | omega | (simp <;> omega)); have ff0 := fun o => (show Below _ _ x from hx).frozen (p := ⟨w.heap.size, o, none⟩) (by first | omega | (simp <;> omega)); have cc1 := fun o => (show Below _ _ x from hx).cell (p := ⟨w.heap.size + 1, o, none⟩) (by first | omega | (simp <;> omega)); have ff1 := fun o => (show Below _ _ x from hx).frozen (p := ⟨w.heap.size + 1, o, none⟩) (by first | omega | (simp <;> omega)); simp [go_sem, *], by simp only [Cls, List.take_succ_cons, List.take_zero, List.foldl_cons, List.foldl_nil] at hx ⊢; (with_reducible exact hx)⟩))
        exact trivial
      simp only [puts, List.foldl_cons, List.foldl_nil, Act.put, List.setIfInBounds_toArray, List.set_cons_succ, List.set_cons_zero]
      intro w3 hb_w3
      have hz_w3 := hb_w3.size
      try simp at hz_w3
      have c3__0 := fun o => hb_w3.cell (p := ⟨w.heap.size, o, none⟩) (by first | omega | (simp <;> omega))
      have f3__0 := fun o => hb_w3.frozen (p := ⟨w.heap.size, o, none⟩) (by first | omega | (simp <;> omega))
      have c3__0_0 := c3__0 0; conv at c3__0_0 => rhs; simp [go_sem, *]
      have f3__0_0 := f3__0 0; conv at f3__0_0 => rhs; simp [go_sem, *]
      have c3__0_1 := c3__0 1; conv at c3__0_1 => rhs; simp [go_sem, *]
      have f3__0_1 := f3__0 1; conv at f3__0_1 => rhs; simp [go_sem, *]
      have c3__0_2 := c3__0 2; conv at c3__0_2 => rhs; simp [go_sem, *]
      have f3__0_2 := f3__0 2; conv at f3__0_2 => rhs; simp [go_sem, *]
      have c3__0_3 := c3__0 3; conv at c3__0_3 => rhs; simp [go_sem, *]
      have f3__0_3 := f3__0 3; conv at f3__0_3 => rhs; simp [go_sem, *]
      have c3__0_4 := c3__0 4; conv at c3__0_4 => rhs; simp [go_sem, *]
      have f3__0_4 := f3__0 4; conv at f3__0_4 => rhs; simp [go_sem, *]
      have c3__0_5 := c3__0 5; conv at c3__0_5 => rhs; simp [go_sem, *]
      have f3__0_5 := f3__0 5; conv at f3__0_5 => rhs; simp [go_sem, *]
      have c3__1 := fun o => hb_w3.cell (p := ⟨w.heap.size + 1, o, none⟩) (by first | omega | (simp <;> omega))
      have f3__1 := fun o => hb_w3.frozen (p := ⟨w.heap.size + 1, o, none⟩) (by first | omega | (simp <;> omega))
      have c3__1_0 := c3__1 0; conv at c3__1_0 => rhs; simp [go_sem, *]
      have f3__1_0 := f3__1 0; conv at f3__1_0 => rhs; simp [go_sem, *]
      have c3__1_1 := c3__1 1; conv at c3__1_1 => rhs; simp [go_sem, *]
      have f3__1_1 := f3__1 1; conv at f3__1_1 => rhs; simp [go_sem, *]
      have c3__1_2 := c3__1 2; conv at c3__1_2 => rhs; simp [go_sem, *]
      have f3__1_2 := f3__1 2; conv at f3__1_2 => rhs; simp [go_sem, *]
      have c3__1_3 := c3__1 3; conv at c3__1_3 => rhs; simp [go_sem, *]
      have f3__1_3 := f3__1 3; conv at f3__1_3 => rhs; simp [go_sem, *]
      have c3__1_4 := c3__1 4; conv at c3__1_4 => rhs; simp [go_sem, *]
      have f3__1_4 := f3__1 4; conv at f3__1_4 => rhs; simp [go_sem, *]
      have c3__1_5 := c3__1 5; conv at c3__1_5 => rhs; simp [go_sem, *]
      have f3__1_5 := f3__1 5; conv at f3__1_5 => rhs; simp [go_sem, *]
      have HH_w3 := Lib.hid hb_w3
      have hB_w3 : Below w.heap.size w w3 := Below.trans (by (repeat (first | with_reducible exact Below.refl _ _ | with_reducible assumption | with_reducible refine Below.drew ?_ | (with_reducible refine Below.setCell ?_ ?_ _; rotate_left; (first | omega | (simp <;> omega))) | (with_reducible refine Below.alloc ?_ ?_ _; rotate_left; (first | omega | (simp <;> omega))) | exact Below.refl _ _ | assumption))) (hb_w3.mono (by first | omega | (simp <;> omega)))
      clear hb_w3 c3__0 f3__0 c3__1 f3__1
      try clear c2__0_0 f2__0_0 c2__0_1 f2__0_1 c2__0_2 f2__0_2 c2__0_3 f2__0_3 c2__0_4 f2__0_4 c2__0_5 f2__0_5 c2__1_0 f2__1_0 c2__1_1 f2__1_1 c2__1_2 f2__1_2 c2__1_3 f2__1_3 c2__1_4 f2__1_4 c2__1_5 f2__1_5 far_w2_w_0 far_w2_w_1 hB_w2
      have far_w3_w_0 := far (show w.heap.size < w3.heap.size by omega)
      have far_w3_w_1 := far (show w.heap.size + 1 < w3.heap.size by omega)
      go_wp2_with fail
      refine Calls.mono (CQ.out _) ?_
      rintro e w7 ⟨rfl, hb_w7⟩
      have hz_w7 := hb_w7.size
      try simp at hz_w7
      obtain ⟨c7__0, f7__0⟩ := bk hb_w7 (w.heap.size) (by first | omega | (simp <;> omega))
      have c7__0_0 := c7__0 0; conv at c7__0_0 => rhs; simp [go_sem, *]
      have f7__0_0 := f7__0 0; conv at f7__0_0 => rhs; simp [go_sem, *]
      have c7__0_1 := c7__0 1; conv at c7__0_1 => rhs; simp [go_sem, *]
      have f7__0_1 := f7__0 1; conv at f7__0_1 => rhs; simp [go_sem, *]
      have c7__0_2 := c7__0 2; conv at c7__0_2 => rhs; simp [go_sem, *]
      have f7__0_2 := f7__0 2; conv at f7__0_2 => rhs; simp [go_sem, *]
      have c7__0_3 := c7__0 3; conv at c7__0_3 => rhs; simp [go_sem, *]
      have f7__0_3 := f7__0 3; conv at f7__0_3 => rhs; simp [go_sem, *]
      have c7__0_4 := c7__0 4; conv at c7__0_4 => rhs; simp [go_sem, *]
      have f7__0_4 := f7__0 4; conv at f7__0_4 => rhs; simp [go_sem, *]
      have c7__0_5 := c7__0 5; conv at c7__0_5 => rhs; simp [go_sem, *]
      have f7__0_5 := f7__0 5; conv at f7__0_5 => rhs; simp [go_sem, *]
      obtain ⟨c7__1, f7__1⟩ := bk hb_w7 (w.heap.size + 1) (by first | omega | (simp <;> omega))
      have c7__1_0 := c7__1 0; conv at c7__1_0 => rhs; simp [go_sem, *]
      have f7__1_0 := f7__1 0; conv at f7__1_0 => rhs; simp [go_sem, *]
      have c7__1_1 := c7__1 1; conv at c7__1_1 => rhs; simp [go_sem, *]
      have f7__1_1 := f7__1 1; conv at f7__1_1 => rhs; simp [go_sem, *]
      have c7__1_2 := c7__1 2; conv at c7__1_2 => rhs; simp [go_sem, *]
      have f7__1_2 := f7__1 2; conv at f7__1_2 => rhs; simp [go_sem, *]
      have c7__1_3 := c7__1 3; conv at c7__1_3 => rhs; simp [go_sem, *]
      have f7__1_3 := f7__1 3; conv at f7__1_3 => rhs; simp [go_sem, *]
      have c7__1_4 := c7__1 4; conv at c7__1_4 => rhs; simp [go_sem, *]
      have f7__1_4 := f7__1 4; conv at f7__1_4 => rhs; simp [go_sem, *]
      have c7__1_5 := c7__1 5; conv at c7__1_5 => rhs; simp [go_sem, *]
      have f7__1_5 := f7__1 5; conv at f7__1_5 => rhs; simp [go_sem, *]
      have HH_w7 := Lib.hid hb_w7
      have hB_w7 : Below w.heap.size w w7 := Below.trans (by (repeat (first | with_reducible exact Below.refl _ _ | with_reducible assumption | with_reducible refine Below.drew ?_ | (with_reducible refine Below.setCell ?_ ?_ _; rotate_left; (first | omega | (simp <;> omega))) | (with_reducible refine Below.alloc ?_ ?_ _; rotate_left; (first | omega | (simp <;> omega))) | exact Below.refl _ _ | assumption))) (hb_w7.mono (by first | omega | (simp <;> omega)))
      clear hb_w7 c7__0 f7__0 c7__1 f7__1
      try clear c3__0_0 f3__0_0 c3__0_1 f3__0_1 c3__0_2 f3__0_2 c3__0_3 f3__0_3 c3__0_4 f3__0_4 c3__0_5 f3__0_5 c3__1_0 f3__1_0 c3__1_1 f3__1_1 c3__1_2 f3__1_2 c3__1_3 f3__1_3 c3__1_4 f3__1_4 c3__1_5 f3__1_5 far_w3_w_0 far_w3_w_1 hB_w3
      have far_w7_w_0 := far (show w.heap.size < w7.heap.size by omega)
      have far_w7_w_1 := far (show w.heap.size + 1 < w7.heap.size by omega)
      cases pb with
      | false =>
        go_wp2
        refine bodyPost_ret (v := .tuple #[uv false [] 0 [] false [], .int .i64 20]) (by simp [results, Tryz.results22, go_sem, *]) rfl ⟨by rw [HN.out (by simp)]; rfl, ?_⟩
        (repeat (first | with_reducible exact Below.refl _ _ | with_reducible assumption | with_reducible refine Below.drew ?_ | (with_reducible refine Below.setCell ?_ ?_ _; rotate_left; (first | omega | (simp <;> omega))) | (with_reducible refine Below.alloc ?_ ?_ _; rotate_left; (first | omega | (simp <;> omega))) | exact Below.refl _ _ | assumption))
      | true =>
        go_wp2_with fail
        refine Calls.mono (CR.out _ (by (repeat (first | with_reducible exact Below.refl _ _ | with_reducible assumption | with_reducible refine Below.drew ?_ | (with_reducible refine Below.setCell ?_ ?_ _; rotate_left; (first | omega | (simp <;> omega))) | (with_reducible refine Below.alloc ?_ ?_ _; rotate_left; (first | omega | (simp <;> omega))) | exact Below.refl _ _ | assumption)))) ?_
        rintro e w8 ⟨rfl, hb_w8⟩
        have hz_w8 := hb_w8.size
        try simp at hz_w8
        obtain ⟨c8__0, f8__0⟩ := bk hb_w8 (w.heap.size) (by first | omega | (simp <;> omega))
        have c8__0_0 := c8__0 0; conv at c8__0_0 => rhs; simp [go_sem, *]
        have f8__0_0 := f8__0 0; conv at f8__0_0 => rhs; simp [go_sem, *]
        have c8__0_1 := c8__0 1; conv at c8__0_1 => rhs; simp [go_sem, *]
        have f8__0_1 := f8__0 1; conv at f8__0_1 => rhs; simp [go_sem, *]
        have c8__0_2 := c8__0 2; conv at c8__0_2 => rhs; simp [go_sem, *]
        have f8__0_2 := f8__0 2; conv at f8__0_2 => rhs; simp [go_sem, *]
        have c8__0_3 := c8__0 3; conv at c8__0_3 => rhs; simp [go_sem, *]
        have f8__0_3 := f8__0 3; conv at f8__0_3 => rhs; simp [go_sem, *]
        have c8__0_4 := c8__0 4; conv at c8__0_4 => rhs; simp [go_sem, *]
        have f8__0_4 := f8__0 4; conv at f8__0_4 => rhs; simp [go_sem, *]
        have c8__0_5 := c8__0 5; conv at c8__0_5 => rhs; simp [go_sem, *]
        have f8__0_5 := f8__0 5; conv at f8__0_5 => rhs; simp [go_sem, *]
        obtain ⟨c8__1, f8__1⟩ := bk hb_w8 (w.heap.size + 1) (by first | omega | (simp <;> omega))
        have c8__1_0 := c8__1 0; conv at c8__1_0 => rhs; simp [go_sem, *]
        have f8__1_0 := f8__1 0; conv at f8__1_0 => rhs; simp [go_sem, *]
        have c8__1_1 := c8__1 1; conv at c8__1_1 => rhs; simp [go_sem, *]
        have f8__1_1 := f8__1 1; conv at f8__1_1 => rhs; simp [go_sem, *]
        have c8__1_2 := c8__1 2; conv at c8__1_2 => rhs; simp [go_sem, *]
        have f8__1_2 := f8__1 2; conv at f8__1_2 => rhs; simp [go_sem, *]
        have c8__1_3 := c8__1 3; conv at c8__1_3 => rhs; simp [go_sem, *]
        have f8__1_3 := f8__1 3; conv at f8__1_3 => rhs; simp [go_sem, *]
        have c8__1_4 := c8__1 4; conv at c8__1_4 => rhs; simp [go_sem, *]
        have f8__1_4 := f8__1 4; conv at f8__1_4 => rhs; simp [go_sem, *]
        have c8__1_5 := c8__1 5; conv at c8__1_5 => rhs; simp [go_sem, *]
        have f8__1_5 := f8__1 5; conv at f8__1_5 => rhs; simp [go_sem, *]
        have HH_w8 := Lib.hid hb_w8
        have hB_w8 : Below w.heap.size w w8 := Below.trans (by (repeat (first | with_reducible exact Below.refl _ _ | with_reducible assumption | with_reducible refine Below.drew ?_ | (with_reducible refine Below.setCell ?_ ?_ _; rotate_left; (first | omega | (simp <;> omega))) | (with_reducible refine Below.alloc ?_ ?_ _; rotate_left; (first | omega | (simp <;> omega))) | exact Below.refl _ _ | assumption))) (hb_w8.mono (by first | omega | (simp <;> omega)))
        clear hb_w8 c8__0 f8__0 c8__1 f8__1
        try clear c7__0_0 f7__0_0 c7__0_1 f7__0_1 c7__0_2 f7__0_2 c7__0_3 f7__0_3 c7__0_4 f7__0_4 c7__0_5 f7__0_5 c7__1_0 f7__1_0 c7__1_1 f7__1_1 c7__1_2 f7__1_2 c7__1_3 f7__1_3 c7__1_4 f7__1_4 c7__1_5 f7__1_5 far_w7_w_0 far_w7_w_1 hB_w7
        have far_w8_w_0 := far (show w.heap.size < w8.heap.size by omega)
        have far_w8_w_1 := far (show w.heap.size + 1 < w8.heap.size by omega)
        cases ok with
        | false =>
          go_wp2
          refine bodyPost_ret (v := .tuple #[uv false [] 0 [] false [], .int .i64 20]) (by simp [results, Tryz.results22, go_sem, *]) rfl ⟨by rw [HN.out (by simp)]; rfl, ?_⟩
          (repeat (first | with_reducible exact Below.refl _ _ | with_reducible assumption | with_reducible refine Below.drew ?_ | (with_reducible refine Below.setCell ?_ ?_ _; rotate_left; (first | omega | (simp <;> omega))) | (with_reducible refine Below.alloc ?_ ?_ _; rotate_left; (first | omega | (simp <;> omega))) | exact Below.refl _ _ | assumption))
        | true =>
          go_wp2
          refine bodyPost_ret (v := .tuple #[uv true hh nn f tt g, .int .i64 0]) (by simp [results, Tryz.results22, go_sem, *]) rfl ⟨by rw [HY.out (by simp) (by simp)], ?_⟩
          (repeat (first | with_reducible exact Below.refl _ _ | with_reducible assumption | with_reducible refine Below.drew ?_ | (with_reducible refine Below.setCell ?_ ?_ _; rotate_left; (first | omega | (simp <;> omega))) | (with_reducible refine Below.alloc ?_ ?_ _; rotate_left; (first | omega | (simp <;> omega))) | exact Below.refl _ _ | assumption))
    · have hb63 : (bAt d 0 == 63) = false := by simpa using h63
      obtain rfl : r = d := by rw [HT, if_neg]; intro h; rcases h with h | h; (rw [h] at hdp; simp at hdp); exact h63 h
      clear HT
      go_enter Tryz.func22, Tryz.ntmps22
      go_wp2_with fail
      refine Calls.mono (CS.out _) ?_
      rintro e w1 ⟨rfl, hb_w1⟩
      have hz_w1 := hb_w1.size
      try simp at hz_w1
      obtain ⟨c1__0, f1__0⟩ := bk hb_w1 (w.heap.size) (by first | omega | (simp <;> omega))
      have c1__0_0 := c1__0 0; conv at c1__0_0 => rhs; simp [go_sem, *]
      have f1__0_0 := f1__0 0; conv at f1__0_0 => rhs; simp [go_sem, *]
      have c1__0_1 := c1__0 1; conv at c1__0_1 => rhs; simp [go_sem, *]
      have f1__0_1 := f1__0 1; conv at f1__0_1 => rhs; simp [go_sem, *]
      have c1__0_2 := c1__0 2; conv at c1__0_2 => rhs; simp [go_sem, *]
      have f1__0_2 := f1__0 2; conv at f1__0_2 => rhs; simp [go_sem, *]
      have c1__0_3 := c1__0 3; conv at c1__0_3 => rhs; simp [go_sem, *]
      have f1__0_3 := f1__0 3; conv at f1__0_3 => rhs; simp [go_sem, *]
      have c1__0_4 := c1__0 4; conv at c1__0_4 => rhs; simp [go_sem, *]
      have f1__0_4 := f1__0 4; conv at f1__0_4 => rhs; simp [go_sem, *]
      have c1__0_5 := c1__0 5; conv at c1__0_5 => rhs; simp [go_sem, *]
      have f1__0_5 := f1__0 5; conv at f1__0_5 => rhs; simp [go_sem, *]
      obtain ⟨c1__1, f1__1⟩ := bk hb_w1 (w.heap.size + 1) (by first | omega | (simp <;> omega))
      have c1__1_0 := c1__1 0; conv at c1__1_0 => rhs; simp [go_sem, *]
      have f1__1_0 := f1__1 0; conv at f1__1_0 => rhs; simp [go_sem, *]
      have c1__1_1 := c1__1 1; conv at c1__1_1 => rhs; simp [go_sem, *]
      have f1__1_1 := f1__1 1; conv at f1__1_1 => rhs; simp [go_sem, *]
      have c1__1_2 := c1__1 2; conv at c1__1_2 => rhs; simp [go_sem, *]
      have f1__1_2 := f1__1 2; conv at f1__1_2 => rhs; simp [go_sem, *]
      have c1__1_3 := c1__1 3; conv at c1__1_3 => rhs; simp [go_sem, *]
      have f1__1_3 := f1__1 3; conv at f1__1_3 => rhs; simp [go_sem, *]
      have c1__1_4 := c1__1 4; conv at c1__1_4 => rhs; simp [go_sem, *]
      have f1__1_4 := f1__1 4; conv at f1__1_4 => rhs; simp [go_sem, *]
      have c1__1_5 := c1__1 5; conv at c1__1_5 => rhs; simp [go_sem, *]
      have f1__1_5 := f1__1 5; conv at f1__1_5 => rhs; simp [go_sem, *]
      have HH_w1 := Lib.hid hb_w1
      have hB_w1 : Below w.heap.size w w1 := Below.trans (by (repeat (first | with_reducible exact Below.refl _ _ | with_reducible assumption | with_reducible refine Below.drew ?_ | (with_reducible refine Below.setCell ?_ ?_ _; rotate_left; (first | omega | (simp <;> omega))) | (with_reducible refine Below.alloc ?_ ?_ _; rotate_left; (first | omega | (simp <;> omega))) | exact Below.refl _ _ | assumption))) (hb_w1.mono (by first | omega | (simp <;> omega)))
      clear hb_w1 c1__0 f1__0 c1__1 f1__1
      try clear c8__0_0 f8__0_0 c8__0_1 f8__0_1 c8__0_2 f8__0_2 c8__0_3 f8__0_3 c8__0_4 f8__0_4 c8__0_5 f8__0_5 c8__1_0 f8__1_0 c8__1_1 f8__1_1 c8__1_2 f8__1_2 c8__1_3 f8__1_3 c8__1_4 f8__1_4 c8__1_5 f8__1_5 far_w8_w_0 far_w8_w_1 hB_w8
      have far_w1_w_0 := far (show w.heap.size < w1.heap.size by omega)
      have far_w1_w_1 := far (show w.heap.size + 1 < w1.heap.size by omega)
      go_wp2_with fail
      refine Calls.mono (CI.out _) ?_
      rintro e w2 ⟨rfl, hb_w2⟩
      have hz_w2 := hb_w2.size
      try simp at hz_w2
      obtain ⟨c2__0, f2__0⟩ := bk hb_w2 (w.heap.size) (by first | omega | (simp <;> omega))
      have c2__0_0 := c2__0 0; conv at c2__0_0 => rhs; simp [go_sem, *]
      have f2__0_0 := f2__0 0; conv at f2__0_0 => rhs; simp [go_sem, *]
      have c2__0_1 := c2__0 1; conv at c2__0_1 => rhs; simp [go_sem, *]
      have f2__0_1 := f2__0 1; conv at f2__0_1 => rhs; simp [go_sem, *]
      have c2__0_2 := c2__0 2; conv at c2__0_2 => rhs; simp [go_sem, *]
      have f2__0_2 := f2__0 2; conv at f2__0_2 => rhs; simp [go_sem, *]
      have c2__0_3 := c2__0 3; conv at c2__0_3 => rhs; simp [go_sem, *]
      have f2__0_3 := f2__0 3; conv at f2__0_3 => rhs; simp [go_sem, *]
      have c2__0_4 := c2__0 4; conv at c2__0_4 => rhs; simp [go_sem, *]
      have f2__0_4 := f2__0 4; conv at f2__0_4 => rhs; simp [go_sem, *]
      have c2__0_5 := c2__0 5; conv at c2__0_5 => rhs; simp [go_sem, *]
      have f2__0_5 := f2__0 5; conv at f2__0_5 => rhs; simp [go_sem, *]
      obtain ⟨c2__1, f2__1⟩ := bk hb_w2 (w.heap.size + 1) (by first | omega | (simp <;> omega))
      have c2__1_0 := c2__1 0; conv at c2__1_0 => rhs; simp [go_sem, *]
      have f2__1_0 := f2__1 0; conv at f2__1_0 => rhs; simp [go_sem, *]
      have c2__1_1 := c2__1 1; conv at c2__1_1 => rhs; simp [go_sem, *]
      have f2__1_1 := f2__1 1; conv at f2__1_1 => rhs; simp [go_sem, *]
      have c2__1_2 := c2__1 2; conv at c2__1_2 => rhs; simp [go_sem, *]
      have f2__1_2 := f2__1 2; conv at f2__1_2 => rhs; simp [go_sem, *]
      have c2__1_3 := c2__1 3; conv at c2__1_3 => rhs; simp [go_sem, *]
      have f2__1_3 := f2__1 3; conv at f2__1_3 => rhs; simp [go_sem, *]
      have c2__1_4 := c2__1 4; conv at c2__1_4 => rhs; simp [go_sem, *]
      have f2__1_4 := f2__1 4; conv at f2__1_4 => rhs; simp [go_sem, *]
      have c2__1_5 := c2__1 5; conv at c2__1_5 => rhs; simp [go_sem, *]
      have f2__1_5 := f2__1 5; conv at f2__1_5 => rhs; simp [go_sem, *]
      have HH_w2 := Lib.hid hb_w2
      have hB_w2 : Below w.heap.size w w2 := Below.trans (by (repeat (first | with_reducible exact Below.refl _ _ | with_reducible assumption | with_reducible refine Below.drew ?_ | (with_reducible refine Below.setCell ?_ ?_ _; rotate_left; (first | omega | (simp <;> omega))) | (with_reducible refine Below.alloc ?_ ?_ _; rotate_left; (first | omega | (simp <;> omega))) | exact Below.refl _ _ | assumption))) (hb_w2.mono (by first | omega | (simp <;> omega)))
      clear hb_w2 c2__0 f2__0 c2__1 f2__1
      try clear c1__0_0 f1__0_0 c1__0_1 f1__0_1 c1__0_2 f1__0_2 c1__0_3 f1__0_3 c1__0_4 f1__0_4 c1__0_5 f1__0_5 c1__1_0 f1__1_0 c1__1_1 f1__1_1 c1__1_2 f1__1_2 c1__1_3 f1__1_3 c1__1_4 f1__1_4 c1__1_5 f1__1_5 far_w1_w_0 far_w1_w_1 hB_w1
      have far_w2_w_0 := far (show w.heap.size < w2.heap.size by omega)
      have far_w2_w_1 := far (show w.heap.size + 1 < w2.heap.size by omega)
      go_wp2_with fail
      refine wp_region_callsV (w.heap.size + 2) [fun W => ((((((W.setCell ⟨w.heap.size + 1, 0, none⟩ (.bool true)).setCell ⟨w.heap.size + 1, 1, none⟩ (.string (S hh))).setCell ⟨w.heap.size + 1, 2, none⟩ (.int .i64 nn)).setCell ⟨w.heap.size + 1, 3, none⟩ (.string (S []))).setCell ⟨w.heap.size + 1, 4, none⟩ (.bool false)).setCell ⟨w.heap.size + 1, 5, none⟩ (.string (S []))), fun W => W] [] (fun r => [8, 9].getD r 0) (fun i => [0, 0, 0, 0, 0, 0, 0, 1, 0, 1].getD i 2) [(32, .string (S t)), (33, .int .i64 e), (34, .string (S (t.take e))), (35, uv false [] 0 [] false []), (36, .tuple #[uv true hh nn [] false [], .bool pb]), (31, .tuple #[uv true hh nn [] false [], .bool pb]), (37, uv true hh nn [] false []), (38, .bool pb), (5, .bool pb)] [] (by kernel_rfl) (by kernel_rfl) rfl ?_ ?_ ?_ ?_ ?_
      · simp only [puts, List.foldl_cons, List.foldl_nil, Act.put, List.setIfInBounds_toArray, List.set_cons_succ, List.set_cons_zero]; repeat (first | exact trivial | refine ⟨by first | exact Or.inr rfl | exact Or.inl (by kernel_rfl), ?_⟩)
      · simp only [puts, List.foldl_cons, List.foldl_nil, Act.put, List.setIfInBounds_toArray, List.set_cons_succ, List.set_cons_zero]; repeat (first | exact trivial | refine ⟨by first | exact Or.inr rfl | exact Or.inl (by kernel_rfl), ?_⟩)
      · simp only [puts, List.foldl_cons, List.foldl_nil, Act.put, List.setIfInBounds_toArray, List.set_cons_succ, List.set_cons_zero]; repeat (first | exact trivial | refine ⟨by first | exact Or.inr rfl | exact Or.inl (by kernel_rfl), ?_⟩)
      · simp only [puts, List.foldl_cons, List.foldl_nil, Act.put, List.setIfInBounds_toArray, List.set_cons_succ, List.set_cons_zero]
        refine And.intro ?_ ?_
        · exact opOK_headC 0 (by rfl) (upto0 (by exact oneC_val rfl rfl (fun x hx => by have cc0 := fun o => (show Below _ _ x from hx).cell (p := ⟨w.heap.size, o, none⟩) (by first | omega | (simp <;> omega)); have ff0 := fun o => (show Below _ _ x from hx).frozen (p := ⟨w.heap.size, o, none⟩) (by first | omega | (simp <;> omega)); have cc1 := fun o => (show Below _ _ x from hx).cell (p := ⟨w.heap.size + 1, o, none⟩) (by first | omega | (simp <;> omega)); have ff1 := fun o => (show Below _ _ x from hx).frozen (p := ⟨w.heap.size + 1, o, none⟩) (by first | omega | (simp <;> omega)); simp [go_sem, *])))
        refine And.intro ?_ ?_
        · exact opOK_headC 0 (by rfl) (upto0 (by exact oneC_val rfl rfl (fun x hx => by have cc0 := fun o => (show Below _ _ x from hx).cell (p := ⟨w.heap.size, o, none⟩) (by first | omega | (simp <;> omega)); have ff0 := fun o => (show Below _ _ x from hx).frozen (p := ⟨w.heap.size, o, none⟩) (by first | omega | (simp <;> omega)); have cc1 := fun o => (show Below _ _ x from hx).cell (p := ⟨w.heap.size + 1, o, none⟩) (by first | omega | (simp <;> omega)); have ff1 := fun o => (show Below _ _ x from hx).frozen (p := ⟨w.heap.size + 1, o, none⟩) (by first | omega | (simp <;> omega)); simp [go_sem, *])))
        refine And.intro ?_ ?_
        · exact opOK_headC 0 (by rfl) (upto0 (by exact oneC_val rfl rfl (fun x hx => by have cc0 := fun o => (show Below _ _ x from hx).cell (p := ⟨w.heap.size, o, none⟩) (by first | omega | (simp <;> omega)); have ff0 := fun o => (show Below _ _ x from hx).frozen (p := ⟨w.heap.size, o, none⟩) (by first | omega | (simp <;> omega)); have cc1 := fun o => (show Below _ _ x from hx).cell (p := ⟨w.heap.size + 1, o, none⟩) (by first | omega | (simp <;> omega)); have ff1 := fun o => (show Below _ _ x from hx).frozen (p := ⟨w.heap.size + 1, o, none⟩) (by first | omega | (simp <;> omega)); simp [go_sem, *])))
        refine And.intro ?_ ?_
        · exact opOK_headC 0 (by rfl) (upto0 (by exact oneC_val rfl rfl (fun x hx => by have cc0 := fun o => (show Below _ _ x from hx).cell (p := ⟨w.heap.size, o, none⟩) (by first | omega | (simp <;> omega)); have ff0 := fun o => (show Below _ _ x from hx).frozen (p := ⟨w.heap.size, o, none⟩) (by first | omega | (simp <;> omega)); have cc1 := fun o => (show Below _ _ x from hx).cell (p := ⟨w.heap.size + 1, o, none⟩) (by first | omega | (simp <;> omega)); have ff1 := fun o => (show Below _ _ x from hx).frozen (p := ⟨w.heap.size + 1, o, none⟩) (by first | omega | (simp <;> omega)); simp [go_sem, *])))
        refine And.intro ?_ ?_
        · exact opOK_headC 0 (by rfl) (upto0 (by exact oneC_call rfl rfl (fun x hx => by have cc0 := fun o => (show Below _ _ x from hx).cell (p := ⟨w.heap.size, o, none⟩) (by first | omega | (simp <;> omega)); have ff0 := fun o => (show Below _ _ x from hx).frozen (p := ⟨w.heap.size, o, none⟩) (by first | omega | (simp <;> omega)); have cc1 := fun o => (show Below _ _ x from hx).cell (p := ⟨w.heap.size + 1, o, none⟩) (by first | omega | (simp <;> omega)); have ff1 := fun o => (show Below _ _ x from hx).frozen (p := ⟨w.heap.size + 1, o, none⟩) (by first | omega | (simp <;> omega)); simp [go_sem, *]) (fun x hx => call_cls hx (by have := (show Below _ _ x from hx).size; simp at this; omega) (CP.out _))))
        refine And.intro ?_ ?_
        · exact opOK_headC 0 (by rfl) (upto0 (by exact oneC_val rfl rfl (fun x hx => by have cc0 := fun o => (show Below _ _ x from hx).cell (p := ⟨w.heap.size, o, none⟩) (by first | omega | (simp <;> omega)); have ff0 := fun o => (show Below _ _ x from hx).frozen (p := ⟨w.heap.size, o, none⟩) (by first | omega | (simp <;> omega)); have cc1 := fun o => (show Below _ _ x from hx).cell (p := ⟨w.heap.size + 1, o, none⟩) (by first | omega | (simp <;> omega)); have ff1 := fun o => (show Below _ _ x from hx).frozen (p := ⟨w.heap.size + 1, o, none⟩) (by first | omega | (simp <;> omega)); simp [go_sem, *])))
        refine And.intro ?_ ?_
        · exact opOK_headC 0 (by rfl) (upto0 (by exact oneC_val rfl rfl (fun x hx => by have cc0 := fun o => (show Below _ _ x from hx).cell (p := ⟨w.heap.size, o, none⟩) (by first | omega | (simp <;> omega)); have ff0 := fun o => (show Below _ _ x from hx).frozen (p := ⟨w.heap.size, o, none⟩) (by first | omega | (simp <;> omega)); have cc1 := fun o => (show Below _ _ x from hx).cell (p := ⟨w.heap.size + 1, o, none⟩) (by first | omega | (simp <;> omega)); have ff1 := fun o => (show Below _ _ x from hx).frozen (p := ⟨w.heap.size + 1, o, none⟩) (by first | omega | (simp <;> omega)); simp [go_sem, *])))
        refine And.intro ?_ ?_
        · exact opOK_headC 1 (by rfl) (upto1 (by exact oneC_val rfl rfl (fun x hx => by have cc0 := fun o => (show Below _ _ x from hx).cell (p := ⟨w.heap.size, o, none⟩) (by first | omega | (simp <;> omega)); have ff0 := fun o => (show Below _ _ x from hx).frozen (p := ⟨w.heap.size, o, none⟩) (by first | omega | (simp <;> omega)); have cc1 := fun o => (show Below _ _ x from hx).cell (p := ⟨w.heap.size + 1, o, none⟩) (by first | omega | (simp <;> omega)); have ff1 := fun o => (show Below _ _ x from hx).frozen (p := ⟨w.heap.size + 1, o, none⟩) (by first | omega | (simp <;> omega)); simp [go_sem, *])) (by exact oneC_val rfl rfl (fun x hx => by have cc0 := fun o => (show Below _ _ x from hx).cell (p := ⟨w.heap.size, o, none⟩) (by first | omega | (simp <;> omega)); have ff0 := fun o => (show Below _ _ x from hx).frozen (p := ⟨w.heap.size, o, none⟩) (by first | omega | (simp <;> omega)); have cc1 := fun o => (show Below _ _ x from hx).cell (p := ⟨w.heap.size + 1, o, none⟩) (by first | omega | (simp <;> omega)); have ff1 := fun o => (show Below _ _ x from hx).frozen (p := ⟨w.heap.size + 1, o, none⟩) (by first | omega | (simp <;> omega)); simp [go_sem, *])))
        refine And.intro ?_ ?_
        · exact opOK_atC 0 (by rfl) (oneC_store (g := fun W => ((((((W.setCell ⟨w.heap.size + 1, 0, none⟩ (.bool true)).setCell ⟨w.heap.size + 1, 1, none⟩ (.string (S hh))).setCell ⟨w.heap.size + 1, 2, none⟩ (.int .i64 nn)).setCell ⟨w.heap.size + 1, 3, none⟩ (.string (S []))).setCell ⟨w.heap.size + 1, 4, none⟩ (.bool false)).setCell ⟨w.heap.size + 1, 5, none⟩ (.string (S [])))) rfl (fun x hx => ⟨by have cc0 := fun o => (show Below _ _ x from hx).cell (p := ⟨w.heap.size, o, none⟩) (by first | omega | (simp <;> omega)); have ff0 := fun o => (show Below _ _ x from hx).frozen (p := ⟨w.heap.size, o, none⟩) (by first | omega | (simp <;> omega)); have cc1 := fun o => (show Below _ _ x from hx).cell (p := ⟨w.heap.size + 1, o, none⟩) (by first | omega | (simp <;> omega)); have ff1 := fun o => (show Below _ _ x from hx).frozen (p := ⟨w.heap.size + 1, o, none⟩) (by first | omega | (simp <;> omega)); simp [go_sem, *], by simp only [Cls, List.take_succ_cons, List.take_zero, List.foldl_cons, List.foldl_nil] at hx ⊢; repeat (first | (with_reducible exact hx) | (with_reducible refine below_both ?_ _ _))⟩))
        refine And.intro ?_ ?_
        · exact opOK_atC 1 (by rfl) (oneC_assign rfl rfl (fun x hx => ⟨by have cc0 := fun o => (show Below _ _ x from hx).cell (p := ⟨w.heap.size, o, none⟩) (by first | omega | (simp <;> omega)); have ff0 := fun o => (show Below _ _ x from hx).frozen (p := ⟨w.heap.size, o, none⟩) (by first | omega | (simp <;> omega)); have cc1 := fun o => (show Below _ _ x from hx).cell (p := ⟨w.heap.size + 1, o, none⟩) (by first | omega | (simp <;> omega)); have ff1 := fun o => (show Below _ _ x from hx).frozen (p := ⟨w.heap.size + 1, o, none⟩) (by first | omega | (simp <;> omega)); simp [go_sem, *], by simp only [Cls, List.take_succ_cons, List.take_zero, List.foldl_cons, List.foldl_nil] at hx ⊢; (with_reducible exact hx)⟩))
        exact trivial
      simp only [puts, List.foldl_cons, List.foldl_nil, Act.put, List.setIfInBounds_toArray, List.set_cons_succ, List.set_cons_zero]
      intro w3 hb_w3
      have hz_w3 := hb_w3.size
      try simp at hz_w3
      have c3__0 := fun o => hb_w3.cell (p := ⟨w.heap.size, o, none⟩) (by first | omega | (simp <;> omega))
      have f3__0 := fun o => hb_w3.frozen (p := ⟨w.heap.size, o, none⟩) (by first | omega | (simp <;> omega))
      have c3__0_0 := c3__0 0; conv at c3__0_0 => rhs; simp [go_sem, *]
      have f3__0_0 := f3__0 0; conv at f3__0_0 => rhs; simp [go_sem, *]
      have c3__0_1 := c3__0 1; conv at c3__0_1 => rhs; simp [go_sem, *]
      have f3__0_1 := f3__0 1; conv at f3__0_1 => rhs; simp [go_sem, *]
      have c3__0_2 := c3__0 2; conv at c3__0_2 => rhs; simp [go_sem, *]
      have f3__0_2 := f3__0 2; conv at f3__0_2 => rhs; simp [go_sem, *]
      have c3__0_3 := c3__0 3; conv at c3__0_3 => rhs; simp [go_sem, *]
      have f3__0_3 := f3__0 3; conv at f3__0_3 => rhs; simp [go_sem, *]
      have c3__0_4 := c3__0 4; conv at c3__0_4 => rhs; simp [go_sem, *]
      have f3__0_4 := f3__0 4; conv at f3__0_4 => rhs; simp [go_sem, *]
      have c3__0_5 := c3__0 5; conv at c3__0_5 => rhs; simp [go_sem, *]
      have f3__0_5 := f3__0 5; conv at f3__0_5 => rhs; simp [go_sem, *]
      have c3__1 := fun o => hb_w3.cell (p := ⟨w.heap.size + 1, o, none⟩) (by first | omega | (simp <;> omega))
      have f3__1 := fun o => hb_w3.frozen (p := ⟨w.heap.size + 1, o, none⟩) (by first | omega | (simp <;> omega))
      have c3__1_0 := c3__1 0; conv at c3__1_0 => rhs; simp [go_sem, *]
      have f3__1_0 := f3__1 0; conv at f3__1_0 => rhs; simp [go_sem, *]
      have c3__1_1 := c3__1 1; conv at c3__1_1 => rhs; simp [go_sem, *]
      have f3__1_1 := f3__1 1; conv at f3__1_1 => rhs; simp [go_sem, *]
      have c3__1_2 := c3__1 2; conv at c3__1_2 => rhs; simp [go_sem, *]
      have f3__1_2 := f3__1 2; conv at f3__1_2 => rhs; simp [go_sem, *]
      have c3__1_3 := c3__1 3; conv at c3__1_3 => rhs; simp [go_sem, *]
      have f3__1_3 := f3__1 3; conv at f3__1_3 => rhs; simp [go_sem, *]
      have c3__1_4 := c3__1 4; conv at c3__1_4 => rhs; simp [go_sem, *]
      have f3__1_4 := f3__1 4; conv at f3__1_4 => rhs; simp [go_sem, *]
      have c3__1_5 := c3__1 5; conv at c3__1_5 => rhs; simp [go_sem, *]
      have f3__1_5 := f3__1 5; conv at f3__1_5 => rhs; simp [go_sem, *]
      have HH_w3 := Lib.hid hb_w3
      have hB_w3 : Below w.heap.size w w3 := Below.trans (by (repeat (first | with_reducible exact Below.refl _ _ | with_reducible assumption | with_reducible refine Below.drew ?_ | (with_reducible refine Below.setCell ?_ ?_ _; rotate_left; (first | omega | (simp <;> omega))) | (with_reducible refine Below.alloc ?_ ?_ _; rotate_left; (first | omega | (simp <;> omega))) | exact Below.refl _ _ | assumption))) (hb_w3.mono (by first | omega | (simp <;> omega)))
      clear hb_w3 c3__0 f3__0 c3__1 f3__1
      try clear c2__0_0 f2__0_0 c2__0_1 f2__0_1 c2__0_2 f2__0_2 c2__0_3 f2__0_3 c2__0_4 f2__0_4 c2__0_5 f2__0_5 c2__1_0 f2__1_0 c2__1_1 f2__1_1 c2__1_2 f2__1_2 c2__1_3 f2__1_3 c2__1_4 f2__1_4 c2__1_5 f2__1_5 far_w2_w_0 far_w2_w_1 hB_w2
      have far_w3_w_0 := far (show w.heap.size < w3.heap.size by omega)
      have far_w3_w_1 := far (show w.heap.size + 1 < w3.heap.size by omega)
      go_wp2_with fail
      refine Calls.mono (CQ.out _) ?_
      rintro e w7 ⟨rfl, hb_w7⟩
      have hz_w7 := hb_w7.size
      try simp at hz_w7
      obtain ⟨c7__0, f7__0⟩ := bk hb_w7 (w.heap.size) (by first | omega | (simp <;> omega))
      have c7__0_0 := c7__0 0; conv at c7__0_0 => rhs; simp [go_sem, *]
      have f7__0_0 := f7__0 0; conv at f7__0_0 => rhs; simp [go_sem, *]
      have c7__0_1 := c7__0 1; conv at c7__0_1 => rhs; simp [go_sem, *]
      have f7__0_1 := f7__0 1; conv at f7__0_1 => rhs; simp [go_sem, *]
      have c7__0_2 := c7__0 2; conv at c7__0_2 => rhs; simp [go_sem, *]
      have f7__0_2 := f7__0 2; conv at f7__0_2 => rhs; simp [go_sem, *]
      have c7__0_3 := c7__0 3; conv at c7__0_3 => rhs; simp [go_sem, *]
      have f7__0_3 := f7__0 3; conv at f7__0_3 => rhs; simp [go_sem, *]
      have c7__0_4 := c7__0 4; conv at c7__0_4 => rhs; simp [go_sem, *]
      have f7__0_4 := f7__0 4; conv at f7__0_4 => rhs; simp [go_sem, *]
      have c7__0_5 := c7__0 5; conv at c7__0_5 => rhs; simp [go_sem, *]
      have f7__0_5 := f7__0 5; conv at f7__0_5 => rhs; simp [go_sem, *]
      obtain ⟨c7__1, f7__1⟩ := bk hb_w7 (w.heap.size + 1) (by first | omega | (simp <;> omega))
      have c7__1_0 := c7__1 0; conv at c7__1_0 => rhs; simp [go_sem, *]
      have f7__1_0 := f7__1 0; conv at f7__1_0 => rhs; simp [go_sem, *]
      have c7__1_1 := c7__1 1; conv at c7__1_1 => rhs; simp [go_sem, *]
      have f7__1_1 := f7__1 1; conv at f7__1_1 => rhs; simp [go_sem, *]
      have c7__1_2 := c7__1 2; conv at c7__1_2 => rhs; simp [go_sem, *]
      have f7__1_2 := f7__1 2; conv at f7__1_2 => rhs; simp [go_sem, *]
      have c7__1_3 := c7__1 3; conv at c7__1_3 => rhs; simp [go_sem, *]
      have f7__1_3 := f7__1 3; conv at f7__1_3 => rhs; simp [go_sem, *]
      have c7__1_4 := c7__1 4; conv at c7__1_4 => rhs; simp [go_sem, *]
      have f7__1_4 := f7__1 4; conv at f7__1_4 => rhs; simp [go_sem, *]
      have c7__1_5 := c7__1 5; conv at c7__1_5 => rhs; simp [go_sem, *]
      have f7__1_5 := f7__1 5; conv at f7__1_5 => rhs; simp [go_sem, *]
      have HH_w7 := Lib.hid hb_w7
      have hB_w7 : Below w.heap.size w w7 := Below.trans (by (repeat (first | with_reducible exact Below.refl _ _ | with_reducible assumption | with_reducible refine Below.drew ?_ | (with_reducible refine Below.setCell ?_ ?_ _; rotate_left; (first | omega | (simp <;> omega))) | (with_reducible refine Below.alloc ?_ ?_ _; rotate_left; (first | omega | (simp <;> omega))) | exact Below.refl _ _ | assumption))) (hb_w7.mono (by first | omega | (simp <;> omega)))
      clear hb_w7 c7__0 f7__0 c7__1 f7__1
      try clear c3__0_0 f3__0_0 c3__0_1 f3__0_1 c3__0_2 f3__0_2 c3__0_3 f3__0_3 c3__0_4 f3__0_4 c3__0_5 f3__0_5 c3__1_0 f3__1_0 c3__1_1 f3__1_1 c3__1_2 f3__1_2 c3__1_3 f3__1_3 c3__1_4 f3__1_4 c3__1_5 f3__1_5 far_w3_w_0 far_w3_w_1 hB_w3
      have far_w7_w_0 := far (show w.heap.size < w7.heap.size by omega)
      have far_w7_w_1 := far (show w.heap.size + 1 < w7.heap.size by omega)
      cases pb with
      | false =>
        go_wp2
        refine bodyPost_ret (v := .tuple #[uv false [] 0 [] false [], .int .i64 20]) (by simp [results, Tryz.results22, go_sem, *]) rfl ⟨by rw [HN.out (by simp)]; rfl, ?_⟩
        (repeat (first | with_reducible exact Below.refl _ _ | with_reducible assumption | with_reducible refine Below.drew ?_ | (with_reducible refine Below.setCell ?_ ?_ _; rotate_left; (first | omega | (simp <;> omega))) | (with_reducible refine Below.alloc ?_ ?_ _; rotate_left; (first | omega | (simp <;> omega))) | exact Below.refl _ _ | assumption))
      | true =>
        go_wp2_with fail
        refine Calls.mono (CR.out _ (by (repeat (first | with_reducible exact Below.refl _ _ | with_reducible assumption | with_reducible refine Below.drew ?_ | (with_reducible refine Below.setCell ?_ ?_ _; rotate_left; (first | omega | (simp <;> omega))) | (with_reducible refine Below.alloc ?_ ?_ _; rotate_left; (first | omega | (simp <;> omega))) | exact Below.refl _ _ | assumption)))) ?_
        rintro e w8 ⟨rfl, hb_w8⟩
        have hz_w8 := hb_w8.size
        try simp at hz_w8
        obtain ⟨c8__0, f8__0⟩ := bk hb_w8 (w.heap.size) (by first | omega | (simp <;> omega))
        have c8__0_0 := c8__0 0; conv at c8__0_0 => rhs; simp [go_sem, *]
        have f8__0_0 := f8__0 0; conv at f8__0_0 => rhs; simp [go_sem, *]
        have c8__0_1 := c8__0 1; conv at c8__0_1 => rhs; simp [go_sem, *]
        have f8__0_1 := f8__0 1; conv at f8__0_1 => rhs; simp [go_sem, *]
        have c8__0_2 := c8__0 2; conv at c8__0_2 => rhs; simp [go_sem, *]
        have f8__0_2 := f8__0 2; conv at f8__0_2 => rhs; simp [go_sem, *]
        have c8__0_3 := c8__0 3; conv at c8__0_3 => rhs; simp [go_sem, *]
        have f8__0_3 := f8__0 3; conv at f8__0_3 => rhs; simp [go_sem, *]
        have c8__0_4 := c8__0 4; conv at c8__0_4 => rhs; simp [go_sem, *]
        have f8__0_4 := f8__0 4; conv at f8__0_4 => rhs; simp [go_sem, *]
        have c8__0_5 := c8__0 5; conv at c8__0_5 => rhs; simp [go_sem, *]
        have f8__0_5 := f8__0 5; conv at f8__0_5 => rhs; simp [go_sem, *]
        obtain ⟨c8__1, f8__1⟩ := bk hb_w8 (w.heap.size + 1) (by first | omega | (simp <;> omega))
        have c8__1_0 := c8__1 0; conv at c8__1_0 => rhs; simp [go_sem, *]
        have f8__1_0 := f8__1 0; conv at f8__1_0 => rhs; simp [go_sem, *]
        have c8__1_1 := c8__1 1; conv at c8__1_1 => rhs; simp [go_sem, *]
        have f8__1_1 := f8__1 1; conv at f8__1_1 => rhs; simp [go_sem, *]
        have c8__1_2 := c8__1 2; conv at c8__1_2 => rhs; simp [go_sem, *]
        have f8__1_2 := f8__1 2; conv at f8__1_2 => rhs; simp [go_sem, *]
        have c8__1_3 := c8__1 3; conv at c8__1_3 => rhs; simp [go_sem, *]
        have f8__1_3 := f8__1 3; conv at f8__1_3 => rhs; simp [go_sem, *]
        have c8__1_4 := c8__1 4; conv at c8__1_4 => rhs; simp [go_sem, *]
        have f8__1_4 := f8__1 4; conv at f8__1_4 => rhs; simp [go_sem, *]
        have c8__1_5 := c8__1 5; conv at c8__1_5 => rhs; simp [go_sem, *]
        have f8__1_5 := f8__1 5; conv at f8__1_5 => rhs; simp [go_sem, *]
        have HH_w8 := Lib.hid hb_w8
        have hB_w8 : Below w.heap.size w w8 := Below.trans (by (repeat (first | with_reducible exact Below.refl _ _ | with_reducible assumption | with_reducible refine Below.drew ?_ | (with_reducible refine Below.setCell ?_ ?_ _; rotate_left; (first | omega | (simp <;> omega))) | (with_reducible refine Below.alloc ?_ ?_ _; rotate_left; (first | omega | (simp <;> omega))) | exact Below.refl _ _ | assumption))) (hb_w8.mono (by first | omega | (simp <;> omega)))
        clear hb_w8 c8__0 f8__0 c8__1 f8__1
        try clear c7__0_0 f7__0_0 c7__0_1 f7__0_1 c7__0_2 f7__0_2 c7__0_3 f7__0_3 c7__0_4 f7__0_4 c7__0_5 f7__0_5 c7__1_0 f7__1_0 c7__1_1 f7__1_1 c7__1_2 f7__1_2 c7__1_3 f7__1_3 c7__1_4 f7__1_4 c7__1_5 f7__1_5 far_w7_w_0 far_w7_w_1 hB_w7
        have far_w8_w_0 := far (show w.heap.size < w8.heap.size by omega)
        have far_w8_w_1 := far (show w.heap.size + 1 < w8.heap.size by omega)
        cases ok with
        | false =>
          go_wp2
          refine bodyPost_ret (v := .tuple #[uv false [] 0 [] false [], .int .i64 20]) (by simp [results, Tryz.results22, go_sem, *]) rfl ⟨by rw [HN.out (by simp)]; rfl, ?_⟩
          (repeat (first | with_reducible exact Below.refl _ _ | with_reducible assumption | with_reducible refine Below.drew ?_ | (with_reducible refine Below.setCell ?_ ?_ _; rotate_left; (first | omega | (simp <;> omega))) | (with_reducible refine Below.alloc ?_ ?_ _; rotate_left; (first | omega | (simp <;> omega))) | exact Below.refl _ _ | assumption))
        | true =>
          go_wp2
          refine bodyPost_ret (v := .tuple #[uv true hh nn f tt g, .int .i64 0]) (by simp [results, Tryz.results22, go_sem, *]) rfl ⟨by rw [HY.out (by simp) (by simp)], ?_⟩
          (repeat (first | with_reducible exact Below.refl _ _ | with_reducible assumption | with_reducible refine Below.drew ?_ | (with_reducible refine Below.setCell ?_ ?_ _; rotate_left; (first | omega | (simp <;> omega))) | (with_reducible refine Below.alloc ?_ ?_ _; rotate_left; (first | omega | (simp <;> omega))) | exact Below.refl _ _ | assumption))

set_option maxHeartbeats 800000 in
theorem uriParse (s : List UInt8) (hs : s.length ≤ 4611686018427387903) (w : World) (hL : Laid w) :
    Calls Tryz.prog 22 #[.string (S s)] w fun e w' => e = .returned (.tuple #[(parseL s).1.v, .int .i64 (parseL s).2]) ∧ Below w.heap.size w w' := by
  by_cases h : 500 < s.length
  · have hle : 500 < (s.length : Int) := by omega
    rw [show parseL s = (UU.nil, 2) by unfold parseL; rw [if_pos h]]
    go_enter Tryz.func22, Tryz.ntmps22
    go_wp2
    refine bodyPost_ret (v := .tuple #[uv false [] 0 [] false [], .int .i64 2]) (by simp [results, Tryz.results22, go_sem, *]) rfl ⟨rfl, ?_⟩
    (repeat (first | with_reducible exact Below.refl _ _ | with_reducible assumption | with_reducible refine Below.drew ?_ | (with_reducible refine Below.setCell ?_ ?_ _; rotate_left; (first | omega | (simp <;> omega))) | (with_reducible refine Below.alloc ?_ ?_ _; rotate_left; (first | omega | (simp <;> omega))) | exact Below.refl _ _ | assumption))
  · cases hB : httpB s with
    | true => exact parse_abs s (by omega) hB w hL
    | false =>
      by_cases h7 : s.length < 7
      · exact parse_short s (by omega) hB h7 w hL
      · exact parse_rel s (by omega) hB (by omega) w hL
end Go.Proofs.YtgjemgilanhdiaaGreatDoor
