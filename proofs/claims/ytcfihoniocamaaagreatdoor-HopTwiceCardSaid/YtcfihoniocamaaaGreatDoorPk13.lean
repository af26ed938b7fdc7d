/- A region that draws its order: first operations that only read and call (in whatever order), then a chain of writes. The worlds met on the way grow. Opening a law's arguments: numbers, truths, texts, structs of these, rows of these. -/
import Derived.Test.YtcfihoniocamaaaGreatDoorPk1
import Derived.StillTail
import Derived.ProofKit
import Derived.OpenShut
import Derived.ShutString
import Derived.ChangeOld
import Derived.Lib.SmallJoins
namespace Go.Proofs.YtcfihoniocamaaaGreatDoor
open Go.RowKit

section
variable {P : Program} {ops : Array Oper} {md : Region.Mode} {C : World → Prop}

/-- The heads, in whatever order, each quiet in the class; then L. -/
def anyHead (P : Program) (md : Region.Mode) (ops : Array Oper) (C : World → Prop) (n : Nat) (L : Array Bool → Act → Prop) : Nat → Array Bool → Act → Prop
  | 0, listed, a => L listed a
  | f + 1, listed, a => Region.ready md ops listed ≠ [] ∧ ∀ i ∈ Region.ready md ops listed, i < n ∧ qOp P ops C i (anyHead P md ops C n L f (listed.setIfInBounds i true)) a

theorem anyHead_wp {n g : Nat} {L : Array Bool → Act → Prop} {Q' : Exit → Act → World → Prop} (hL : ∀ listed a w, C w → L listed a → wpAny P md ops Q' g listed a w) (f : Nat) :
    ∀ (listed : Array Bool) (a : Act) (w : World), C w → anyHead P md ops C n L f listed a → wpAny P md ops Q' (f + g) listed a w := by
  induction f with
  | zero => intro listed a w hw h; rw [Nat.zero_add]; exact hL _ _ _ hw h
  | succ f ih =>
    intro listed a w hw h
    rw [Nat.add_right_comm]
    exact ⟨fun h0 => absurd h0 h.1, fun i hi => wpOp_of_qOp hw (fun a' w' hw' h' => ih _ a' w' hw' h') (h.2 i hi).2⟩

theorem anyHead_first {n i : Nat} {oi : Oper} {v : Value} {L : Array Bool → Act → Prop} (hi : ops[i]? = some oi) (hsel : Region.noSelect ops = true)
    (hs : Region.sinkB md ops n = true) (hc : Region.chainB md ops n = true) (hn : n < ops.size) (hin : i < n) (hdone : ∀ listed a, L listed a → ∀ j ∈ Region.ready md ops listed, n ≤ j) (f : Nat) :
    ∀ (listed : Array Bool) (a : Act), HeadInv md ops n listed →
      (∀ j oj, ops[j]? = some oj → j ≠ i → listed.getD j true = false → (∀ e ∈ oj.after, Region.binds md e = true → e.on ≠ i) → oi.apart ops oj = true) →
      i ∈ Region.ready md ops listed → YieldsIn P ops C oi v a →
      anyHead P md ops C n L f (listed.setIfInBounds i true) (a.put oi.dst v) → anyHead P md ops C n L (f + 1) listed a := by
  have sel := Region.noSelect_spec hsel
  induction f with
  | zero =>
    intro listed a inv _ hr hy H
    have hun := (mem_ready.1 hr).1
    refine ⟨fun h => (by rw [h] at hr; cases hr), fun j hj => ?_⟩
    have hjn : j < n := Nat.lt_of_not_le fun h => tail_waits hs hc hn inv _ i rfl hin hun j h hj
    refine ⟨hjn, ?_⟩
    by_cases hji : j = i
    · subst hji; exact hy.qOp hi H
    · have := hdone _ _ H j (ready_mono hj hji)
      omega
  | succ f ih =>
    intro listed a inv hfree hr hy H
    have hun := (mem_ready.1 hr).1
    refine ⟨fun h => (by rw [h] at hr; cases hr), fun j hj => ?_⟩
    have hjn : j < n := Nat.lt_of_not_le fun h => tail_waits hs hc hn inv _ i rfl hin hun j h hj
    refine ⟨hjn, ?_⟩
    by_cases hji : j = i
    · subst hji; exact hy.qOp hi H
    · have h1 := (H.2 j (ready_mono hj hji)).2
      obtain ⟨hjun, oj, hoj, hall⟩ := mem_ready.1 hj
      have hnot : ∀ e ∈ oj.after, Region.binds md e = true → e.on ≠ i := fun e he hb heq => by
        have h1 := hall e he hb
        rw [heq, getD_both hun] at h1
        cases h1
      have h2 := qOp_put hoj (hfree j oj hoj hji hjun hnot) (fun cs b => sel i oi cs b hi) (fun cs b => sel j oj cs b hoj) hy h1
      refine qOp_mono (fun a' h3 => ih (listed.setIfInBounds j true) a' (inv.set hj hjn) (fun k ok hk hki hu hno => hfree k ok hk hki ?_ hno) (ready_mono hr (Ne.symm hji)) h3.1 ?_) h2
      · by_cases hjk : j = k
        · subst hjk; exact hjun
        · rw [getD_set_ne true hjk] at hu; exact hu
      · rw [Array.setIfInBounds_comm _ _ hji]
        exact h3.2

theorem anyHead_lex {n g : Nat} {Lq : Act → Prop} (hsel : Region.noSelect ops = true) (hs : Region.sinkB md ops n = true) (hc : Region.chainB md ops n = true) (hn : n < ops.size) (l : List Oper) :
    ∀ (k : Nat) (listed : Array Bool) (a : Act), (∀ j, j < l.length → l[j]? = ops[k + j]?) → k + l.length = n → HeadInv md ops n listed →
    Region.lexHead md ops g l.length k listed = true → wpQuiet P ops C Lq l a →
    anyHead P md ops C n (fun listed' a' => Region.seqB md ops g n listed' = true ∧ Lq a') l.length listed a := by
  induction l with
  | nil =>
    intro k listed a _ hk _ hB h
    obtain rfl : k = n := by simpa using hk
    exact ⟨by simpa [Region.lexHead] using hB, h⟩
  | cons o l ih =>
    intro k listed a hl hk inv hB h
    have h0 : ops[k]? = some o := by simpa using (hl 0 (by simp)).symm
    simp only [List.length_cons, Region.lexHead, Bool.and_eq_true] at hB
    obtain ⟨⟨hr, hf⟩, hB'⟩ := hB
    simp only [List.length_cons] at hk
    have hkn : k < n := by omega
    have hr' : k ∈ Region.ready md ops listed := by simpa using hr
    have hst : qOp P ops C k (wpQuiet P ops C Lq l) a := by unfold qOp; simp only [h0]; exact h
    obtain ⟨v, hy, hK⟩ := yieldsIn_of_qOp h0 hst
    exact anyHead_first h0 hsel hs hc hn hkn (fun listed' a' hL => seqB_ready hL.1) l.length listed a inv (Region.free_spec h0 hf) hr' hy
      (ih (k + 1) _ _ (fun j hj => by have := hl (j + 1) (by simp; omega); simpa [Nat.add_assoc, Nat.add_comm 1 j] using this) (by omega) (inv.set hr' hkn) hB' hK)

theorem wp_region_quiet_tail {id : Nat} {Q : Exit → Act → World → Prop} {a : Act} {w : World} {l : List Oper} (n : Nat) (hm : P.follows .mixedOrders = true) (hB : Region.lexTailB .any l.toArray n = true)
    (hC : C { w with drawn := w.drawn + 1 }) (h : wpQuiet P l.toArray C (fun a' => ∀ w', C w' → wpList P l.toArray Q (l.drop n) a' w') (l.take n) a) : (Code.region id l.toArray true).wp P Q a w := by
  simp only [Region.lexTailB, Bool.and_eq_true, decide_eq_true_eq] at hB
  obtain ⟨⟨⟨⟨hsel, hn⟩, hs⟩, hc⟩, hlex⟩ := hB
  have hn' : n < l.length := by simpa using hn
  have htl : (l.take n).length = n := by simp; omega
  have hdl : (l.drop n).length = l.toArray.size - n := by simp
  have inv0 : HeadInv .any l.toArray n (Array.replicate l.toArray.size false) :=
    ⟨by simp, fun j oj _ hl => (by rw [getD_replicate_false] at hl; cases hl), fun t _ ht => getD_in (by simpa using ht) (getD_replicate_false _ _)⟩
  have H := anyHead_lex (md := .any) (C := C) (g := l.toArray.size - n) hsel hs hc hn (l.take n) 0 _ a (fun j hj => by
    have hj' : j < n := by rw [htl] at hj; exact hj
    simp [hj']) (by simpa using htl) inv0 (by rw [htl]; exact hlex) h
  refine wp_region_any hm ?_
  have := anyHead_wp (Q' := Q) (g := l.toArray.size - n) (fun listed a' w' hw' hL => by
    have := wpAny_of_seq (md := .any) (Q' := Q) (l.drop n) n listed a' w' (fun j => by simp [List.getElem?_drop]) (by rw [hdl]; exact hL.1) (hL.2 w' hw')
    rwa [hdl] at this) _ _ _ _ hC H
  rw [htl, show n + (l.toArray.size - n) = l.toArray.size by omega] at this
  exact this
end

/-- The same, at the later worlds. -/
theorem wp_region_later_tail {P : Program} (B : Nat) (n : Nat) {id : Nat} {Q : Exit → Act → World → Prop} {a : Act} {w : World} {l : List Oper} (hm : P.follows .mixedOrders = true) (hB : Region.lexTailB .any l.toArray n = true)
    (h : wpQuiet P l.toArray (fun w' => ∃ p : Later B w, w' = p.w) (fun a' => ∀ w', (∃ p : Later B w, w' = p.w) → wpList P l.toArray Q (l.drop n) a' w') (l.take n) a) : (Code.region id l.toArray true).wp P Q a w :=
  wp_region_quiet_tail (C := fun w' => ∃ p : Later B w, w' = p.w) n hm hB ⟨⟨_, (Below.refl _ _).drew⟩, rfl⟩ h
end Go.Proofs.YtcfihoniocamaaaGreatDoor
namespace Go.Proofs.YtcfihoniocamaaaGreatDoor
open Go.ChangeShapes Go.WideShapes Go.ChangeAt Go.RowKit Go.Deep
open Go.ChangeMaps (open_string shut_string)
set_option linter.unusedVariables false

/-- The shape of one cell. -/
inductive Sh where
  | int (k : IntKind)
  | bool
  | str

/-- A cell of that shape. -/
def Sh.Is : Sh → Value → Prop
  | .int k, v => ∃ n, v = .int k n ∧ (Lit.int k n).wf = true
  | .bool, v => ∃ b, v = .bool b
  | .str, v => ∃ s : ByteArray, v = .string s ∧ s.size ≤ maxLen

def Sh.desc : Sh → TypeDesc
  | .int k => .int k
  | .bool => .bool
  | .str => .string

def Sh.fits : Sh → Option TypeDesc → Bool
  | .int k, some (.int k') => decide (k = k')
  | .bool, some .bool => true
  | .str, some .string => true
  | _, _ => false
theorem Sh.fits_desc {s : Sh} {d : Option TypeDesc} (h : s.fits d = true) : d = some s.desc := by
  unfold Sh.fits at h
  split at h <;> simp_all [Sh.desc]

def AllSh : List Sh → List Value → Prop
  | [], vs => vs = []
  | s :: ss, vs => ∃ v vs', vs = v :: vs' ∧ s.Is v ∧ AllSh ss vs'

theorem AllSh.of_get : ∀ {ss : List Sh} {vs : List Value}, vs.length = ss.length → (∀ (i : Nat) (s : Sh) (v : Value), ss[i]? = some s → vs[i]? = some v → s.Is v) → AllSh ss vs
  | [], [], _, _ => rfl
  | [], _ :: _, h, _ => by simp at h
  | _ :: _, [], h, _ => by simp at h
  | s :: ss, v :: vs, h, hx => ⟨v, vs, rfl, hx 0 s v rfl rfl, AllSh.of_get (by simpa using h) fun i s' v' h1 h2 => hx (i + 1) s' v' (by simpa using h1) (by simpa using h2)⟩

section
variable {H : Type} {enc : TypeId × Value → H} {P : Program} {w : World} {base : Nat} {spare : Nat → Bool} {held : Bool}

theorem sh_of_trod {t : TypeId} {s : Sh} {n : Nat} {v : Value} {y : DataW H × List MemPlace} (ht : P.underlying t = some s.desc) (h : DataW.trod enc P w base spare held n t [v] = some y) : s.Is v := by
  cases s with
  | int k => obtain ⟨m, h1, _, h3⟩ := DataW.trod_int ht h; exact ⟨m, by simpa using h1, h3⟩
  | bool => obtain ⟨b, h1, _⟩ := DataW.trod_bool ht h; exact ⟨b, by simpa using h1⟩
  | str => obtain ⟨m, h1, _, h3⟩ := DataW.trod_string ht h; exact ⟨m, by simpa using h1, h3⟩

/-- The fields' types are of these shapes. -/
def fieldsSh (P : Program) (fs : Array Field) (ss : List Sh) : Bool := fs.size == ss.length && (List.range fs.size).all fun i => match fs[i]?, ss[i]? with
  | some f, some s => s.fits (P.underlying f.type)
  | _, _ => false
theorem fieldsSh.size {P : Program} {fs : Array Field} {ss : List Sh} (h : fieldsSh P fs ss = true) : fs.size = ss.length := by
  simp only [fieldsSh, Bool.and_eq_true, beq_iff_eq] at h; exact h.1
theorem fieldsSh.get {P : Program} {fs : Array Field} {ss : List Sh} (h : fieldsSh P fs ss = true) (i : Nat) (f : Field) (s : Sh) (hf : fs[i]? = some f) (hs : ss[i]? = some s) : P.underlying f.type = some s.desc := by
  simp only [fieldsSh, Bool.and_eq_true, List.all_eq_true, List.mem_range] at h
  have := h.2 i (Array.getElem?_eq_some_iff.1 hf).1
  rw [hf, hs] at this
  exact Sh.fits_desc this

/-- A struct's cells, read. -/
theorem cells_of_struct {t : TypeId} {fs : Array Field} {ss : List Sh} {n : Nat} {cs : List Value} {y : DataW H × List MemPlace} (hs : P.underlying t = some (.struct fs)) (hone : oneCellFields P fs = true) (hC : P.cellsOf t = fs.size)
    (hsh : fieldsSh P fs ss = true) (h : DataW.trod enc P w base spare held n t cs = some y) : AllSh ss cs := by
  obtain ⟨xs, m, _, _, hl, hlen, hf⟩ := DataW.trod_struct hs h
  refine AllSh.of_get (by rw [hl, hC, fieldsSh.size hsh]) fun i s v h1 h2 => ?_
  have hi : i < ss.length := (List.getElem?_eq_some_iff.1 h1).1
  have hi' : i < fs.size := by rw [fieldsSh.size hsh]; exact hi
  have hfi : fs[i]? = some fs[i] := Array.getElem?_eq_getElem hi'
  obtain ⟨o, c⟩ := hone_of hone i _ hfi
  have hx := hf i _ hfi
  rw [o, c] at hx
  have e : (cs.drop i).take 1 = [v] := by
    have hj : i < cs.length := (List.getElem?_eq_some_iff.1 h2).1
    rw [List.drop_eq_getElem_cons hj, List.take_succ_cons, List.take_zero]
    rw [List.getElem?_eq_getElem hj] at h2; simpa using h2
  rw [e, List.getElem?_eq_getElem (by omega)] at hx
  exact sh_of_trod (fieldsSh.get hsh i _ s hfi h1) hx

/-- A struct by value. -/
theorem open_agg {r : Reach} {b0 : Nat} {t : TypeId} {fs : Array Field} {ss : List Sh} {v : Value} {d : DataW H} {p : List MemPlace} (hs : P.underlying t = some (.struct fs)) (hone : oneCellFields P fs = true) (hC : P.cellsOf t = fs.size)
    (hsh : fieldsSh P fs ss = true) (hv : Value.okWide P w r b0 t v) (h : DataW.Trod enc P w base spare held t v d p) : ∃ cs : List Value, v = .agg cs.toArray ∧ AllSh ss cs := by
  obtain ⟨cs, rfl, hsz⟩ := okWide_struct hs hv
  obtain ⟨fuel, hf⟩ := h
  exact ⟨cs.toList, by simp, cells_of_struct hs hone hC hsh (by simpa [Value.cells] using hf)⟩

/-- A row of 'k' cells an element, 'L' the elements' cells. -/
def RowsIn (w : World) (k : Nat) (v : Value) (L : List (List Value)) : Prop :=
  ∃ a len cap, v = .slice a len cap ∧ len ≤ cap ∧ cap ≤ maxLen ∧ L.length = len ∧ ((∀ c ∈ L, c.length = k) ∧ (a = none → cap = 0)) ∧
    (0 < len → 0 < k → ∃ b off, a = some ⟨b, off, none⟩ ∧ b < w.heap.size ∧ ∀ i j, i < len → j < k → w.cell? ⟨b, off + (i * k + j), none⟩ = (L.getD i [])[j]?)

theorem addr_add {a : Addr} {n : Nat} (h : a.spot = none) : a.add n = ⟨a.block, a.off + n, none⟩ := by
  obtain ⟨b, o, s⟩ := a
  simp only at h
  subst h
  unfold Addr.add
  split
  · rename_i e; subst e; rfl
  · rfl

theorem open_row_gen {t e : TypeId} {k : Nat} {v : Value} {d : DataW H} {p : List MemPlace} (Q : List Value → Prop) (ht : P.underlying t = some (.slice e)) (hC : P.cellsOf e = k) (hk : 0 < k)
    (hQ : ∀ n cs y, DataW.trod enc P w base spare held n e cs = some y → Q cs ∧ cs.length = k) {r : Reach} {b0 : Nat} (hv : Value.okWide P w r b0 t v) (h : DataW.Trod enc P w base spare held t v d p) :
    ∃ L, RowsIn w k v L ∧ ∀ c ∈ L, Q c := by
  obtain ⟨a, len, cap, rfl⟩ := okWide_slice ht hv
  obtain ⟨fuel, hf⟩ := h
  rcases open_slice ht (by simpa [Value.cells] using hf) with ⟨hcs, _⟩ | ⟨a', len', cap', m, n, D, Pl, hcs, _, hl, hm, hmm, _, hx⟩
  · simp at hcs
    obtain ⟨rfl, rfl, rfl⟩ := hcs
    exact ⟨[], ⟨_, _, _, rfl, Nat.le_refl _, Nat.zero_le _, rfl, ⟨by simp, fun _ => rfl⟩, fun h => absurd h (by omega)⟩, by simp⟩
  · simp at hcs
    obtain ⟨rfl, rfl, rfl⟩ := hcs
    have hlm : len ≤ m := by rw [hmm]; split <;> omega
    obtain ⟨F, hF⟩ := choose_lt (α := List Value) (p := fun i cs' => w.cells? base (a'.add (i * P.cellsOf e)) (P.cellsOf e) = some cs' ∧ Q cs' ∧ cs'.length = k) (n := len) (fun i hi => by
      obtain ⟨cs', h1, h2⟩ := hx i (by omega)
      exact ⟨cs', h1, hQ _ _ _ h2⟩)
    have hget : ∀ i, i < len → ((List.range len).map F).getD i [] = F i := fun i hi => by simp [List.getD, hi]
    refine ⟨(List.range len).map F, ⟨_, _, _, rfl, hl, hm, by simp, ⟨?_, fun h => by cases h⟩, fun h0 _ => ?_⟩, ?_⟩
    · intro c hc
      obtain ⟨i, hi, rfl⟩ := List.mem_map.1 hc
      exact (hF i (List.mem_range.1 hi)).2.2
    · have c0 := (hF 0 h0).1
      rw [hC] at c0
      have hsz := World.cells?_block c0 hk
      have g0 : w.cell? a' = (F 0)[0]? := by
        have := (World.cells?_some c0).2.2 0 hk
        simpa [Addr.add] using this
      have hsp : a'.spot = none := by
        have hlen := (hF 0 h0).2.2
        rw [List.getElem?_eq_getElem (by omega)] at g0
        exact World.cell?_spot g0
      refine ⟨a'.block, a'.off, ?_, by simpa [Addr.add] using hsz, fun i j hi hj => ?_⟩
      · obtain ⟨b, o, s⟩ := a'; simp only at hsp; subst hsp; rfl
      · have ci := (hF i hi).1
        rw [hC] at ci
        have := (World.cells?_some ci).2.2 j hj
        rw [addr_add hsp, addr_add rfl] at this
        rw [hget i hi, ← this]
        simp [Nat.add_assoc]
    · intro c hc
      obtain ⟨i, hi, rfl⟩ := List.mem_map.1 hc
      exact (hF i (List.mem_range.1 hi)).2.1

theorem AllSh.length : ∀ {ss : List Sh} {vs : List Value}, AllSh ss vs → vs.length = ss.length
  | [], vs, h => by have h' : vs = [] := h; rw [h']; rfl
  | s :: ss, vs, h => by obtain ⟨v, vs', rfl, _, h2⟩ := h; simp [AllSh.length h2]

/-- A row of structs. -/
theorem open_row {t e : TypeId} {fs : Array Field} {ss : List Sh} {v : Value} {d : DataW H} {p : List MemPlace} (ht : P.underlying t = some (.slice e)) (hs : P.underlying e = some (.struct fs)) (hone : oneCellFields P fs = true) (hC : P.cellsOf e = fs.size)
    (hsh : fieldsSh P fs ss = true) (hk : 0 < ss.length) {r : Reach} {b0 : Nat} (hv : Value.okWide P w r b0 t v) (h : DataW.Trod enc P w base spare held t v d p) : ∃ L, RowsIn w ss.length v L ∧ ∀ c ∈ L, AllSh ss c :=
  open_row_gen (AllSh ss) ht (hC.trans (fieldsSh.size hsh)) hk (fun n cs y h => by have := cells_of_struct hs hone hC hsh h; exact ⟨this, this.length⟩) hv h

/-- A row of one cell an element. -/
theorem open_row1 {t e : TypeId} {s : Sh} {v : Value} {d : DataW H} {p : List MemPlace} (ht : P.underlying t = some (.slice e)) (he : P.underlying e = some s.desc) (hC : P.cellsOf e = 1)
    {r : Reach} {b0 : Nat} (hv : Value.okWide P w r b0 t v) (h : DataW.Trod enc P w base spare held t v d p) : ∃ L, RowsIn w 1 v L ∧ ∀ c ∈ L, AllSh [s] c :=
  open_row_gen (AllSh [s]) ht hC (by omega) (fun n cs y h => by
    have : ∃ c, cs = [c] := by
      cases s with
      | int k => obtain ⟨m, h1, _, _⟩ := DataW.trod_int he h; exact ⟨_, h1⟩
      | bool => obtain ⟨b, h1, _⟩ := DataW.trod_bool he h; exact ⟨_, h1⟩
      | str => obtain ⟨m, h1, _, _⟩ := DataW.trod_string he h; exact ⟨_, h1⟩
    obtain ⟨c, rfl⟩ := this
    exact ⟨⟨c, [], rfl, sh_of_trod he h, rfl⟩, rfl⟩) hv h
end

/-- The elements' cells, decoded. -/
theorem decode {α : Type} {Q : List Value → Prop} {R : α → Prop} (enc : α → List Value) (h : ∀ c, Q c → ∃ x, c = enc x ∧ R x) : ∀ L : List (List Value), (∀ c ∈ L, Q c) → ∃ xs : List α, L = xs.map enc ∧ ∀ x ∈ xs, R x
  | [], _ => ⟨[], rfl, by simp⟩
  | c :: L, hL => by
    obtain ⟨x, rfl, hx⟩ := h c (hL c (by simp))
    obtain ⟨xs, rfl, hxs⟩ := decode enc h L fun c hc => hL c (by simp [hc])
    exact ⟨x :: xs, rfl, by simp; exact ⟨hx, hxs⟩⟩
end Go.Proofs.YtcfihoniocamaaaGreatDoor
