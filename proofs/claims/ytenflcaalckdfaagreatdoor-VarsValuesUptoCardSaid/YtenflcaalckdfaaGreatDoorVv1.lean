/- The base of the walks: worlds that only grew; a region that draws its order, walked once in the order of the text, its callees growing the world. A region that draws its order, with a chain of writes that stands among operations that read: each operation is looked at once, by itself; no order is gone through. Asked: what each operation yields, at each world in which its turn may come. -/
import Derived.WalkKit
import Derived.WalkSpells
import Derived.WalkLawsBesides
import Derived.Deep.QuietTactic
import Derived.BigQuiet
import Derived.Lib.Hide
namespace Go.Proofs.YtenflcaalckdfaaGreatDoor
open Go.RowKit

@[go_sem] theorem isSome_setCell (w : World) (b a : Addr) (v : Value) : ((w.setCell b v).cell? a).isSome = (w.cell? a).isSome := by
  by_cases h : b = a
  · subst h
    cases hc : w.cell? b with
    | none =>
      cases hd : (w.setCell b v).cell? b with
      | none => rfl
      | some x =>
        exfalso
        have h1 : ((w.setCell b v).cell? b).isSome = true := by rw [hd]; rfl
        revert h1 hc
        unfold World.cell? World.setCell
        simp only [Array.getElem?_modify]
        cases w.heap[b.block]? with
        | none => simp
        | some o =>
          cases o <;> simp
          all_goals (split <;> simp_all)
    | some u => rw [World.cell?_setCell_same _ _ _ hc]; rfl
  · rw [World.cell?_setCell_other _ _ _ _ h]

structure Later (B : Nat) (w0 : World) where
  w : World
  b : Below B w0 w

instance {B : Nat} {w : World} : Nonempty (Later B w) := ⟨⟨w, Below.refl _ _⟩⟩

theorem bcell {W w1 : World} (hb : Below W.heap.size W w1) : (∀ b o, b < W.heap.size → w1.cell? ⟨b, o, none⟩ = W.cell? ⟨b, o, none⟩) ∧ (∀ b o, b < W.heap.size → w1.frozen? ⟨b, o, none⟩ = W.frozen? ⟨b, o, none⟩) :=
  ⟨fun b o h => hb.cell (p := ⟨b, o, none⟩) h, fun b o h => hb.frozen (p := ⟨b, o, none⟩) h⟩

theorem wp_region_later {P : Program} (B : Nat) {id : Nat} {Q : Exit → Act → World → Prop} {a : Act} {w : World} {l : List Oper} (hm : P.follows .mixedOrders = true) (hB : Region.lexB .any l.toArray = true)
    (h : wpQuiet P l.toArray (fun w' => ∃ p : Later B w, w' = p.w) (fun a' => ∀ w', (∃ p : Later B w, w' = p.w) → Q .normal a' w') l a) : (Code.region id l.toArray true).wp P Q a w :=
  wp_region_quiet (C := fun w' => ∃ p : Later B w, w' = p.w) hm hB ⟨⟨_, (Below.refl _ _).drew⟩, rfl⟩ (by simpa using h)

theorem Later.cell {B : Nat} {w : World} (p : Later B w) (b o : Nat) (h : b < B) : p.w.cell? ⟨b, o, none⟩ = w.cell? ⟨b, o, none⟩ := p.b.cell (p := ⟨b, o, none⟩) h

theorem later_of {P : Program} {f : FuncId} {args : Array Value} {B : Nat} {w : World} {p : Later B w} {v : Value} (hB : B ≤ w.heap.size)
    (h : Calls P f args p.w fun e w' => e = .returned v ∧ Below p.w.heap.size p.w w') : Calls P f args p.w fun e w'' => e = .returned v ∧ ∃ q : Later B w, w'' = q.w :=
  h.mono fun _ w'' ⟨he, hb⟩ => ⟨he, ⟨w'', p.b.trans (hb.mono (Nat.le_trans hB p.b.size))⟩, rfl⟩

theorem later_same {P : Program} {f : FuncId} {args : Array Value} {B : Nat} {w : World} {p : Later B w} {v : Value}
    (h : Calls P f args p.w fun e w' => e = .returned v ∧ w' = p.w) : Calls P f args p.w fun e w'' => e = .returned v ∧ ∃ q : Later B w, w'' = q.w :=
  h.mono fun _ _ ⟨he, hb⟩ => ⟨he, p, hb⟩

theorem bk {W w1 : World} (hb : Below W.heap.size W w1) (b : Nat) (h : b < W.heap.size) : (∀ o, w1.cell? ⟨b, o, none⟩ = W.cell? ⟨b, o, none⟩) ∧ (∀ o, w1.frozen? ⟨b, o, none⟩ = W.frozen? ⟨b, o, none⟩) :=
  ⟨fun o => hb.cell (p := ⟨b, o, none⟩) h, fun o => hb.frozen (p := ⟨b, o, none⟩) h⟩
theorem Later.at {B b : Nat} (h : b < B) : ∀ (W : World) (p : Later B W) (o : Nat), p.w.cell? ⟨b, o, none⟩ = W.cell? ⟨b, o, none⟩ := fun _ p o => p.cell b o h

theorem far {a b : Nat} (h : a < b) : a < b ∧ a ≤ b ∧ (∀ K, a ≤ b + K) ∧ (∀ K, a < b + K) ∧ ¬ a = b ∧ ¬ b = a ∧ (∀ K, ¬ a = b + K) ∧ (∀ K, ¬ b + K = a) :=
  ⟨h, by omega, fun _ => by omega, fun _ => by omega, by omega, by omega, fun _ => by omega, fun _ => by omega⟩

theorem ret_bool {a b : Bool} (h : a = b) : Ending.returned (.bool a) = .returned (.bool b) := by rw [h]
theorem ret_int {k : IntKind} {a b : Int} (h : a = b) : Ending.returned (.int k a) = .returned (.int k b) := by rw [h]
theorem ret_str {a b : ByteArray} (h : a = b) : Ending.returned (.string a) = .returned (.string b) := by rw [h]
theorem dec_eq {p : Prop} [Decidable p] {b : Bool} (h : p ↔ b = true) : b = decide p := by cases b <;> simp_all
end Go.Proofs.YtenflcaalckdfaaGreatDoor
namespace Go.Proofs.YtenflcaalckdfaaGreatDoor
open Go.RowKit
set_option linter.unusedVariables false

def leans (ops : Array Oper) (i : Nat) : Nat → Nat → Bool
  | 0, j => i == j
  | n + 1, j => i == j || (match ops[j]? with | some o => o.after.any (fun e => Region.binds .any e && leans ops i n e.on) | none => false)

def writes (ops : Array Oper) (t : Nat) (i : Nat) : Bool := match ops[i]? with | some o => o.dst == some t | none => false

theorem getD_replicate_false (m j : Nat) : (Array.replicate m false).getD j false = false := by
  rcases Nat.lt_or_ge j m with h | h
  · simp [h]
  · simp [h]

def looksB (ops : Array Oper) (i : Nat) : Bool :=
  match ops[i]? with
  | none => false
  | some o => o.guard.isNone && o.op.operands.toList.all fun x => match x with
      | .tmp t => (List.range ops.size).all fun j => !writes ops t j || o.after.any fun e => Region.binds .any e && e.on == j
      | _ => true

def interB (ops : Array Oper) (m : Nat) (st hi : Nat → Nat) : Bool :=
  Region.noSelect ops &&
  ((List.range ops.size).all fun i => looksB ops i) &&
  ((List.range ops.size).all fun i => match ops[i]? with | some o => o.after.all fun e => !Region.binds .any e || decide (e.on < i) | none => false) &&
  ((List.range m).all fun r => decide (r = 0) || leans ops (st (r - 1)) ops.size (st r)) &&
  ((List.range m).all fun r => (List.range m).all fun s => decide (r = s) || decide (st r ≠ st s)) &&
  ((List.range m).all fun r => decide (st r < ops.size)) &&
  ((List.range ops.size).all fun i => decide (hi i = m) || (decide (hi i < m) && leans ops i ops.size (st (hi i))))

def Shut (ops : Array Oper) (listed : Array Bool) : Prop := ∀ j oj, ops[j]? = some oj → listed.getD j false = true → ∀ e ∈ oj.after, Region.binds .any e = true → listed.getD e.on false = true

theorem leans_listed {ops : Array Oper} {listed : Array Bool} {i : Nat} (hs : Shut ops listed) : ∀ (n j : Nat), leans ops i n j = true → listed.getD j false = true → listed.getD i false = true := by
  intro n
  induction n with
  | zero => intro j h hl; simp only [leans, beq_iff_eq] at h; subst h; exact hl
  | succ n ih =>
    intro j h hl
    simp only [leans, Bool.or_eq_true, beq_iff_eq] at h
    rcases h with rfl | h
    · exact hl
    · cases hj : ops[j]? with
      | none => rw [hj] at h; cases h
      | some o =>
        rw [hj] at h
        obtain ⟨e, he, hb⟩ := Array.any_eq_true'.1 h
        simp only [Bool.and_eq_true] at hb
        exact ih _ hb.2 (hs j o hj hl e he hb.1)

def OneOK (P : Program) (aV : Act) (o : Oper) (w w' : World) : Prop :=
  ∃ v, ((execOp aV.eval o).run P w = .ok (.value v) w' ∨ ((execOp aV.eval o).run P w = .ok .skip w' ∧ v = undef)) ∧ ∀ d, o.dst = some d → aV.tmps[d]? = some v

def OpOK (P : Program) (aV : Act) (Ws : Nat → World) (m : Nat) (st hi : Nat → Nat) (i : Nat) (o : Oper) : Prop :=
  if (List.range m).any (fun r => st r == i) = true then ∀ r, r < m → st r = i → OneOK P aV o (Ws r) (Ws (r + 1)) else ∀ k, k ≤ hi i → OneOK P aV o (Ws k) (Ws k)

def OpsOK (P : Program) (aV : Act) (Ws : Nat → World) (m : Nat) (st hi : Nat → Nat) : Nat → List Oper → Prop
  | _, [] => True
  | i, o :: l => OpOK P aV Ws m st hi i o ∧ OpsOK P aV Ws m st hi (i + 1) l

def Agree (wr : Nat → Bool) : Nat → List Value → List Value → Prop
  | _, [], [] => True
  | i, x :: xs, y :: ys => (wr i = true ∨ x = y) ∧ Agree wr (i + 1) xs ys
  | _, _, _ => False

theorem agree_spec {wr : Nat → Bool} : ∀ (xs ys : List Value) (i : Nat), Agree wr i xs ys → xs.length = ys.length ∧ ∀ t, wr (i + t) = false → xs[t]? = ys[t]?
  | [], [], _, _ => ⟨rfl, fun _ _ => rfl⟩
  | x :: xs, y :: ys, i, h => by
    obtain ⟨h1, h2⟩ := agree_spec xs ys (i + 1) h.2
    refine ⟨by simp [h1], fun t ht => ?_⟩
    cases t with
    | zero => rcases h.1 with h | h
              · rw [Nat.add_zero, h] at ht; cases ht
              · simp [h]
    | succ t => simpa using h2 t (by rw [show i + 1 + t = i + (t + 1) by omega]; exact ht)
  | [], _ :: _, _, h => h.elim
  | _ :: _, [], _, h => h.elim

theorem opsOK_get {P : Program} {aV : Act} {Ws : Nat → World} {m : Nat} {st hi : Nat → Nat} {o : Oper} (l : List Oper) : ∀ (n i : Nat), OpsOK P aV Ws m st hi n l → l[i]? = some o → OpOK P aV Ws m st hi (n + i) o := by
  induction l with
  | nil => intro n i _ h; cases h
  | cons o' l ih =>
    intro n i h hget
    cases i with
    | zero =>
      rw [List.getElem?_cons_zero] at hget
      obtain rfl := Option.some.inj hget
      exact h.1
    | succ i =>
      rw [List.getElem?_cons_succ] at hget
      have := ih (n + 1) i h.2 hget
      rwa [show n + 1 + i = n + (i + 1) by omega] at this

theorem opOK_at {P : Program} {aV : Act} {Ws : Nat → World} {m : Nat} {st hi : Nat → Nat} {o : Oper} {i : Nat} (r : Nat) (hr : ((List.range m).any (fun s => st s == i) && (List.range m).all fun s => s == r || st s != i) = true)
    (h : OneOK P aV o (Ws r) (Ws (r + 1))) : OpOK P aV Ws m st hi i o := by
  simp only [Bool.and_eq_true] at hr
  unfold OpOK
  rw [if_pos hr.1]
  intro s hs hsi
  have := List.all_eq_true.1 hr.2 s (List.mem_range.2 hs)
  simp only [hsi, bne_self_eq_false, Bool.or_false, beq_iff_eq] at this
  rw [this]; exact h
theorem opOK_head {P : Program} {aV : Act} {Ws : Nat → World} {m : Nat} {st hi : Nat → Nat} {o : Oper} {i : Nat} (n : Nat) (hr : (!(List.range m).any (fun s => st s == i) && hi i == n) = true)
    (h : ∀ k, k ≤ n → OneOK P aV o (Ws k) (Ws k)) : OpOK P aV Ws m st hi i o := by
  simp only [Bool.and_eq_true, Bool.not_eq_true', beq_iff_eq] at hr
  unfold OpOK
  rw [if_neg (by rw [hr.1]; simp), hr.2]
  exact h
theorem oneOK_val {P : Program} {aV : Act} {o : Oper} {w w' : World} {d : Tmp} {v : Value} (hd : o.dst = some d) (hv : aV.tmps[d]? = some v) (h : (execOp aV.eval o).run P w = .ok (.value v) w') : OneOK P aV o w w' :=
  ⟨v, .inl h, fun d' hd' => by rw [hd] at hd'; obtain rfl := Option.some.inj hd'; exact hv⟩
theorem oneOK_none {P : Program} {aV : Act} {o : Oper} {w w' : World} {v : Value} (hd : o.dst = none) (h : (execOp aV.eval o).run P w = .ok (.value v) w' ∨ ((execOp aV.eval o).run P w = .ok .skip w' ∧ v = undef)) : OneOK P aV o w w' :=
  ⟨v, h, fun d' hd' => by rw [hd] at hd'; cases hd'⟩
theorem upto0 {p : Nat → Prop} (h0 : p 0) : ∀ k, k ≤ 0 → p k := fun k h => by
  obtain rfl : k = 0 := by omega
  exact h0
theorem upto1 {p : Nat → Prop} (h0 : p 0) (h1 : p 1) : ∀ k, k ≤ 1 → p k := fun k h => by
  rcases Nat.lt_or_ge k 1 with h2 | h2
  · exact upto0 h0 k (by omega)
  · obtain rfl : k = 1 := by omega
    exact h1
theorem upto2 {p : Nat → Prop} (h0 : p 0) (h1 : p 1) (h3 : p 2) : ∀ k, k ≤ 2 → p k := fun k h => by
  rcases Nat.lt_or_ge k 2 with h2 | h2
  · exact upto1 h0 h1 k (by omega)
  · obtain rfl : k = 2 := by omega
    exact h3
theorem upto3 {p : Nat → Prop} (h0 : p 0) (h1 : p 1) (h3 : p 2) (h4 : p 3) : ∀ k, k ≤ 3 → p k := fun k h => by
  rcases Nat.lt_or_ge k 3 with h2 | h2
  · exact upto2 h0 h1 h3 k (by omega)
  · obtain rfl : k = 3 := by omega
    exact h4

structure Inter (ops : Array Oper) (aV : Act) (Ws : Nat → World) (m : Nat) (st : Nat → Nat) (listed : Array Bool) (a : Act) (w : World) : Prop where
  lsz : listed.size = ops.size
  shut : Shut ops listed
  size : a.tmps.size = aV.tmps.size
  defers : a.defers = aV.defers
  slots : ∀ t, (∀ i, writes ops t i = true → listed.getD i false = true) → a.tmps[t]? = aV.tmps[t]?
  world : ∃ k, k ≤ m ∧ w = Ws k ∧ ∀ r, r < m → (listed.getD (st r) false = true ↔ r < k)

theorem getD_false_of {listed : Array Bool} {i : Nat} (h : listed.getD i true = false) : listed.getD i false = false := by
  rcases Nat.lt_or_ge i listed.size with h' | h'
  · simp [h'] at h ⊢; exact h
  · simp [Array.getElem?_eq_none h'] at h

theorem inter_step {P : Program} {ops : Array Oper} {aV : Act} {Ws : Nat → World} {m : Nat} {st hi : Nat → Nat} {Q : Exit → Act → World → Prop} {l : List Oper} (hl : l.toArray = ops)
    (hB : interB ops m st hi = true) (hops : OpsOK P aV Ws m st hi 0 l) {listed : Array Bool} {a : Act} {w : World} (inv : Inter ops aV Ws m st listed a w) {i : Nat} (hr : i ∈ Region.ready .any ops listed)
    {K : Act → World → Prop} (hK : ∀ a' w', Inter ops aV Ws m st (listed.setIfInBounds i true) a' w' → K a' w') : wpOp P ops Q i K a w := by
  simp only [interB, Bool.and_eq_true] at hB
  obtain ⟨⟨⟨⟨⟨⟨hsel, hlook⟩, hback⟩, hchain⟩, hinj⟩, hst⟩, hhi⟩ := hB
  obtain ⟨hun, o, ho, hall⟩ := mem_ready.1 hr
  have hlt : i < ops.size := (Array.getElem?_eq_some_iff.1 ho).1
  obtain ⟨k, hk, rfl, hkr⟩ := inv.world
  have hlk := List.all_eq_true.1 hlook i (List.mem_range.2 hlt)
  simp only [looksB, ho, Bool.and_eq_true] at hlk
  have hli : listed.getD i false = false := getD_false_of hun
  have hilt : i < listed.size := by rw [inv.lsz]; exact hlt
  have hself : (listed.setIfInBounds i true).getD i false = true := by simp [hilt]
  -- the operands have what they have in the end
  have heval : ∀ x ∈ o.op.operands, a.eval x = aV.eval x := by
    intro x hx
    have h1 := List.all_eq_true.1 hlk.2 x (by simpa using hx)
    cases x with
    | tmp t =>
      have h2 : a.tmps[t]? = aV.tmps[t]? := inv.slots t fun j hj => by
        have hjl : j < ops.size := by
          unfold writes at hj
          cases hoj : ops[j]? with
          | none => rw [hoj] at hj; cases hj
          | some oj => exact (Array.getElem?_eq_some_iff.1 hoj).1
        have h3 := List.all_eq_true.1 h1 j (List.mem_range.2 hjl)
        simp only [hj, Bool.not_true, Bool.false_or] at h3
        obtain ⟨e, he, hb⟩ := Array.any_eq_true'.1 h3
        simp only [Bool.and_eq_true, beq_iff_eq] at hb
        rw [← hb.2]
        exact hall e he hb.1
      simp only [Act.eval, Array.getD_eq_getD_getElem?, h2]
    | _ => rfl
  have hex : execOp a.eval o = execOp aV.eval o := execOp_congr o (fun cs b => Region.noSelect_spec hsel i o cs b ho) heval
  have hwant : Region.wanted o (yielded ops a.tmps) = true := by
    have := hlk.1
    unfold Region.wanted
    cases hg : o.guard with
    | none => rfl
    | some g => rw [hg] at this; cases this
  -- the new state
  have hshut : Shut ops (listed.setIfInBounds i true) := by
    intro j oj hj hlj e he hb
    by_cases hij : i = j
    · subst hij
      obtain rfl : o = oj := Option.some.inj (ho.symm.trans hj)
      exact getD_set_true (hall e he hb)
    · rw [getD_set_ne false hij] at hlj
      exact getD_set_true (inv.shut j oj hj hlj e he hb)
  have hslots : ∀ v, (∀ d, o.dst = some d → aV.tmps[d]? = some v) → ∀ t, (∀ j, writes ops t j = true → (listed.setIfInBounds i true).getD j false = true) → (a.put o.dst v).tmps[t]? = aV.tmps[t]? := by
    intro v hv t ht
    cases hd : o.dst with
    | none =>
      simp only [Act.put]
      refine inv.slots t fun j hj => ?_
      have := ht j hj
      by_cases hij : i = j
      · subst hij; simp [writes, ho, hd] at hj
      · rwa [getD_set_ne false hij] at this
    | some d =>
      simp only [Act.put]
      by_cases hdt : d = t
      · subst hdt
        have h1 := hv d hd
        have h2 : d < a.tmps.size := by rw [inv.size]; exact (Array.getElem?_eq_some_iff.1 h1).1
        rw [h1]; simp [h2]
      · rw [Array.getElem?_setIfInBounds_ne hdt]
        refine inv.slots t fun j hj => ?_
        have := ht j hj
        by_cases hij : i = j
        · subst hij; simp [writes, ho, hd, hdt] at hj
        · rwa [getD_set_ne false hij] at this
  have hput : ∀ v, (a.put o.dst v).tmps.size = aV.tmps.size ∧ (a.put o.dst v).defers = aV.defers := fun v => by
    cases o.dst <;> simp [Act.put, inv.size, inv.defers]
  have hOK := opsOK_get (o := o) l 0 i hops (by rw [← ho, ← hl]; simp)
  rw [Nat.zero_add] at hOK
  -- the worlds
  have main : ∃ k', k' ≤ m ∧ OneOK P aV o (Ws k) (Ws k') ∧ ∀ r, r < m → ((listed.setIfInBounds i true).getD (st r) false = true ↔ r < k') := by
    unfold OpOK at hOK
    split at hOK
    · rename_i hany
      obtain ⟨r, hrm, hri⟩ := List.any_eq_true.1 hany
      have hrm := List.mem_range.1 hrm
      simp only [beq_iff_eq] at hri
      have h1 : ¬ r < k := fun h => by have := (hkr r hrm).2 h; rw [hri, hli] at this; cases this
      have h2 : r = k := by
        by_cases hr0 : r = 0
        · omega
        · have h3 := List.all_eq_true.1 hchain r (List.mem_range.2 hrm)
          simp only [hr0, decide_false, Bool.false_or, hri] at h3
          have h4 := leans_listed hshut _ _ h3 hself
          rw [getD_set_ne false (show i ≠ st (r - 1) from fun h => by
            have h5 := List.all_eq_true.1 (List.all_eq_true.1 hinj r (List.mem_range.2 hrm)) (r - 1) (List.mem_range.2 (by omega))
            simp only [Bool.or_eq_true, decide_eq_true_eq] at h5
            rcases h5 with h5 | h5
            · omega
            · exact h5 (hri.trans h))] at h4
          have := (hkr (r - 1) (by omega)).1 h4
          omega
      subst h2
      refine ⟨r + 1, by omega, hOK r hrm hri, fun s hs => ?_⟩
      by_cases hsr : s = r
      · subst hsr; rw [hri, hself]; simp
      · have hne : i ≠ st s := fun h => by
          have h5 := List.all_eq_true.1 (List.all_eq_true.1 hinj r (List.mem_range.2 hrm)) s (List.mem_range.2 hs)
          simp only [Bool.or_eq_true, decide_eq_true_eq] at h5
          rcases h5 with h5 | h5
          · omega
          · exact h5 (hri.trans h)
        rw [getD_set_ne false hne, hkr s hs]
        omega
    · rename_i hany
      have hno : ∀ r, r < m → i ≠ st r := fun r hrm h => hany (List.any_eq_true.2 ⟨r, List.mem_range.2 hrm, by simp [h]⟩)
      have h1 := List.all_eq_true.1 hhi i (List.mem_range.2 hlt)
      simp only [Bool.or_eq_true, decide_eq_true_eq, Bool.and_eq_true] at h1
      refine ⟨k, hk, hOK k ?_, fun r hrm => by rw [getD_set_ne false (hno r hrm)]; exact hkr r hrm⟩
      rcases h1 with h1 | ⟨h1, h2⟩
      · omega
      · refine Nat.le_of_not_lt fun h => ?_
        have := leans_listed inv.shut _ _ h2 ((hkr (hi i) h1).2 h)
        rw [hli] at this
        cases this
  obtain ⟨k', hk', ⟨v, hrun, hv⟩, hkr'⟩ := main
  have hnew : Inter ops aV Ws m st (listed.setIfInBounds i true) (a.put o.dst v) (Ws k') :=
    ⟨by simp [inv.lsz], hshut, (hput v).1, (hput v).2, hslots v hv, k', hk', rfl, hkr'⟩
  unfold wpOp
  simp only [ho, hwant, if_true]
  refine .inl ?_
  unfold Oper.wp
  rw [hex]
  rcases hrun with hrun | ⟨hrun, rfl⟩
  · rw [hrun, Oper.upon_value]; exact hK _ _ hnew
  · rw [hrun, Oper.upon_skip]; exact hK _ _ hnew

theorem inter_ready {ops : Array Oper} {m : Nat} {st hi : Nat → Nat} (hB : interB ops m st hi = true) {listed : Array Bool} (hsz : listed.size = ops.size) (hr : Region.ready .any ops listed = []) :
    ∀ i, i < ops.size → listed.getD i false = true := by
  simp only [interB, Bool.and_eq_true] at hB
  obtain ⟨⟨⟨⟨⟨⟨hsel, hlook⟩, hback⟩, hchain⟩, hinj⟩, hst⟩, hhi⟩ := hB
  intro i
  induction i using Nat.strongRecOn with
  | _ i ih =>
    intro hi'
    have hil : i < listed.size := by rw [hsz]; exact hi'
    cases hl : listed.getD i false with
    | true => rfl
    | false =>
      have h1 := List.all_eq_true.1 hback i (List.mem_range.2 hi')
      have hoi : ops[i]? = some ops[i] := Array.getElem?_eq_getElem hi'
      rw [hoi] at h1
      have : i ∈ Region.ready .any ops listed := mem_ready.2 ⟨by simp [hil] at hl ⊢; exact hl, _, hoi, fun e he hb => by
        have h2 := Array.all_eq_true_iff_forall_mem.1 h1 e he
        simp only [hb, Bool.not_true, Bool.false_or, decide_eq_true_eq] at h2
        exact ih e.on h2 (by omega)⟩
      rw [hr] at this
      cases this

theorem inter_any {P : Program} {ops : Array Oper} {aV : Act} {Ws : Nat → World} {m : Nat} {st hi : Nat → Nat} {Q : Exit → Act → World → Prop} {l : List Oper} (hl : l.toArray = ops)
    (hB : interB ops m st hi = true) (hops : OpsOK P aV Ws m st hi 0 l) (hQ : Q .normal aV (Ws m)) :
    ∀ (f : Nat) (listed : Array Bool) (a : Act) (w : World), Inter ops aV Ws m st listed a w → ((List.range ops.size).filter fun i => !listed.getD i true).length ≤ f → wpAny P .any ops Q f listed a w := by
  have fin : ∀ (listed : Array Bool) (a : Act) (w : World), Inter ops aV Ws m st listed a w → Region.ready .any ops listed = [] → Q .normal a w := by
    intro listed a w inv hr
    have hall := inter_ready hB inv.lsz hr
    have ht : a.tmps = aV.tmps := Array.ext_getElem? fun t => inv.slots t fun i hi => by
      refine hall i ?_
      unfold writes at hi
      cases hoj : ops[i]? with
      | none => rw [hoj] at hi; cases hi
      | some oj => exact (Array.getElem?_eq_some_iff.1 hoj).1
    obtain ⟨k, hk, rfl, hkr⟩ := inv.world
    have ha : a = aV := by
      have := inv.defers
      cases a; cases aV; simp_all
    have hkm : k = m := by
      rcases Nat.lt_or_ge k m with h | h
      · simp only [interB, Bool.and_eq_true] at hB
        have h1 := List.all_eq_true.1 hB.1.2 k (List.mem_range.2 h)
        have h2 := (hkr k h).1 (hall _ (by simpa using h1))
        omega
      · omega
    rw [ha, hkm]; exact hQ
  have hmem : ∀ listed : Array Bool, ∀ i, i ∈ Region.ready .any ops listed → i ∈ (List.range ops.size).filter fun i => !listed.getD i true := by
    intro listed i hi
    obtain ⟨h1, o, ho, _⟩ := mem_ready.1 hi
    exact List.mem_filter.2 ⟨List.mem_range.2 (Array.getElem?_eq_some_iff.1 ho).1, by rw [h1]; rfl⟩
  intro f
  induction f with
  | zero =>
    intro listed a w inv hf
    have : Region.ready .any ops listed = [] := by
      cases hr : Region.ready .any ops listed with
      | nil => rfl
      | cons x xs =>
        have := hmem listed x (by rw [hr]; simp)
        rw [List.length_eq_zero_iff.1 (Nat.le_zero.1 hf)] at this
        cases this
    exact ⟨this, fin _ _ _ inv this⟩
  | succ f ih =>
    intro listed a w inv hf
    refine ⟨fin _ _ _ inv, fun i hi => inter_step hl hB hops inv hi fun a' w' inv' => ih _ _ _ inv' ?_⟩
    have h1 := hmem listed i hi
    have hun := (mem_ready.1 hi).1
    have hil : i < listed.size := by rw [inv.lsz]; exact List.mem_range.1 (List.mem_filter.1 h1).1
    have hlen : ((List.range ops.size).filter fun j => !(listed.setIfInBounds i true).getD j true).length < ((List.range ops.size).filter fun j => !listed.getD j true).length := by
      have hsub : ((List.range ops.size).filter fun j => !(listed.setIfInBounds i true).getD j true) = (((List.range ops.size).filter fun j => !listed.getD j true).filter fun j => j != i) := by
        rw [List.filter_filter]
        refine List.filter_congr fun j _ => ?_
        by_cases hij : i = j
        · subst hij; simp [hil]
        · rw [getD_set_ne true hij]; simp [Ne.symm hij]
      rw [hsub]
      have hle := List.length_filter_le (fun j => j != i) ((List.range ops.size).filter fun j => !listed.getD j true)
      rcases Nat.lt_or_ge (((List.range ops.size).filter fun j => !listed.getD j true).filter fun j => j != i).length ((List.range ops.size).filter fun j => !listed.getD j true).length with h | h
      · exact h
      · have := (List.length_filter_eq_length_iff.1 (Nat.le_antisymm hle h)) i h1
        simp at this
    omega

theorem wp_region_inter {P : Program} {id : Nat} {Q : Exit → Act → World → Prop} {a : Act} {w : World} {l : List Oper} (m : Nat) (st hi : Nat → Nat) (Ws : Nat → World) (aV : Act) (hm : P.follows .mixedOrders = true)
    (hB : interB l.toArray m st hi = true) (h0 : Ws 0 = { w with drawn := w.drawn + 1 }) (hd : a.defers = aV.defers) (hag : Agree (fun t => l.any fun o => o.dst == some t) 0 a.tmps.toList aV.tmps.toList)
    (hops : OpsOK P aV Ws m st hi 0 l) (hQ : Q .normal aV (Ws m)) : (Code.region id l.toArray true).wp P Q a w := by
  obtain ⟨h1, h2⟩ := agree_spec _ _ _ hag
  have inv : Inter l.toArray aV Ws m st (Array.replicate l.toArray.size false) a (Ws 0) := by
    have hrep : ∀ j, (Array.replicate l.toArray.size false).getD j false = false := fun j => getD_replicate_false _ _
    refine ⟨Array.size_replicate, (fun j oj _ h => absurd h (by rw [hrep]; simp)), (by simpa using h1), hd, fun t ht => ?_, ⟨0, Nat.zero_le _, rfl, fun r _ => ⟨fun h => absurd h (by rw [hrep]; simp), fun h => absurd h (Nat.not_lt_zero _)⟩⟩⟩
    have h3 : (l.any fun o => o.dst == some t) = false := by
      cases h : (l.any fun o => o.dst == some t)
      · rfl
      · obtain ⟨o, ho, hod⟩ := List.any_eq_true.1 h
        obtain ⟨i, hil, hio⟩ := List.getElem_of_mem ho
        have := ht i (by unfold writes; simp [List.getElem?_eq_getElem hil, hio]; simpa using hod)
        rw [hrep] at this; cases this
    have := h2 t (by simpa using h3)
    simpa using this
  refine wp_region_any hm ?_
  rw [← h0]
  refine inter_any rfl hB hops hQ _ _ _ _ inv ?_
  have := List.length_filter_le (fun i => !(Array.replicate l.toArray.size false).getD i true) (List.range l.toArray.size)
  simpa using this
theorem wp_region_chain {P : Program} {id : Nat} {Q : Exit → Act → World → Prop} {a : Act} {w : World} {l : List Oper} (fs : List (World → World)) (st hi : Nat → Nat) (aV : Act) (hm : P.follows .mixedOrders = true)
    (hB : interB l.toArray fs.length st hi = true) (hd : a.defers = aV.defers) (hag : Agree (fun t => l.any fun o => o.dst == some t) 0 a.tmps.toList aV.tmps.toList)
    (hops : OpsOK P aV (fun k => (fs.take k).foldl (fun W f => f W) w.drew) fs.length st hi 0 l) (hQ : Q .normal aV (fs.foldl (fun W f => f W) w.drew)) : (Code.region id l.toArray true).wp P Q a w :=
  wp_region_inter fs.length st hi (fun k => (fs.take k).foldl (fun W f => f W) w.drew) aV hm hB rfl hd hag hops (by rw [List.take_length]; exact hQ)
end Go.Proofs.YtenflcaalckdfaaGreatDoor
