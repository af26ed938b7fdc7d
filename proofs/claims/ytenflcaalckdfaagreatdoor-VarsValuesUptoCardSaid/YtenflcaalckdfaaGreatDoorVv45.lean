/- Opening a law's arguments: numbers, truths, texts, structs of these, rows of these. -/
import Derived.Test.YtenflcaalckdfaaGreatDoorVv1
import Derived.ProofKit
import Derived.OpenShut
import Derived.ShutString
import Derived.ChangeOld
import Derived.Lib.SmallJoins
namespace Go.Proofs.YtenflcaalckdfaaGreatDoor
open Go.ChangeShapes Go.WideShapes Go.ChangeAt Go.RowKit Go.Deep
open Go.ChangeMaps (open_string shut_string)
set_option linter.unusedVariables false

inductive Sh where
  | int (k : IntKind)
  | bool
  | str

def Sh.Is : Sh → Value → Prop
  | .int k, v => ∃ n, v = .int k n ∧ (Lit.int k n).wf = true
  | .bool, v => ∃ b, v = .bool b
  | .str, v => ∃ s : ByteArray, v = .string s ∧ s.size ≤ maxLen

def Sh.desc : Sh → TypeDesc
  | .int k => .int k
  | .bool => .bool
  | .str => .string

def Sh.fits : Sh → Option TypeDesc → Bool
  | .int k, some (.int k') => decide (k = k')
  | .bool, some .bool => true
  | .str, some .string => true
  | _, _ => false
theorem Sh.fits_desc {s : Sh} {d : Option TypeDesc} (h : s.fits d = true) : d = some s.desc := by
  unfold Sh.fits at h
  split at h <;> simp_all [Sh.desc]

def AllSh : List Sh → List Value → Prop
  | [], vs => vs = []
  | s :: ss, vs => ∃ v vs', vs = v :: vs' ∧ s.Is v ∧ AllSh ss vs'

theorem AllSh.of_get : ∀ {ss : List Sh} {vs : List Value}, vs.length = ss.length → (∀ (i : Nat) (s : Sh) (v : Value), ss[i]? = some s → vs[i]? = some v → s.Is v) → AllSh ss vs
  | [], [], _, _ => rfl
  | [], _ :: _, h, _ => by simp at h
  | _ :: _, [], h, _ => by simp at h
  | s :: ss, v :: vs, h, hx => ⟨v, vs, rfl, hx 0 s v rfl rfl, AllSh.of_get (by simpa using h) fun i s' v' h1 h2 => hx (i + 1) s' v' (by simpa using h1) (by simpa using h2)⟩

section
variable {H : Type} {enc : TypeId × Value → H} {P : Program} {w : World} {base : Nat} {spare : Nat → Bool} {held : Bool}

theorem sh_of_trod {t : TypeId} {s : Sh} {n : Nat} {v : Value} {y : DataW H × List MemPlace} (ht : P.underlying t = some s.desc) (h : DataW.trod enc P w base spare held n t [v] = some y) : s.Is v := by
  cases s with
  | int k => obtain ⟨m, h1, _, h3⟩ := DataW.trod_int ht h; exact ⟨m, by simpa using h1, h3⟩
  | bool => obtain ⟨b, h1, _⟩ := DataW.trod_bool ht h; exact ⟨b, by simpa using h1⟩
  | str => obtain ⟨m, h1, _, h3⟩ := DataW.trod_string ht h; exact ⟨m, by simpa using h1, h3⟩

def fieldsSh (P : Program) (fs : Array Field) (ss : List Sh) : Bool := fs.size == ss.length && (List.range fs.size).all fun i => match fs[i]?, ss[i]? with
  | some f, some s => s.fits (P.underlying f.type)
  | _, _ => false
theorem fieldsSh.size {P : Program} {fs : Array Field} {ss : List Sh} (h : fieldsSh P fs ss = true) : fs.size = ss.length := by
  simp only [fieldsSh, Bool.and_eq_true, beq_iff_eq] at h; exact h.1
theorem fieldsSh.get {P : Program} {fs : Array Field} {ss : List Sh} (h : fieldsSh P fs ss = true) (i : Nat) (f : Field) (s : Sh) (hf : fs[i]? = some f) (hs : ss[i]? = some s) : P.underlying f.type = some s.desc := by
  simp only [fieldsSh, Bool.and_eq_true, List.all_eq_true, List.mem_range] at h
  have := h.2 i (Array.getElem?_eq_some_iff.1 hf).1
  rw [hf, hs] at this
  exact Sh.fits_desc this

theorem cells_of_struct {t : TypeId} {fs : Array Field} {ss : List Sh} {n : Nat} {cs : List Value} {y : DataW H × List MemPlace} (hs : P.underlying t = some (.struct fs)) (hone : oneCellFields P fs = true) (hC : P.cellsOf t = fs.size)
    (hsh : fieldsSh P fs ss = true) (h : DataW.trod enc P w base spare held n t cs = some y) : AllSh ss cs := by
  obtain ⟨xs, m, _, _, hl, hlen, hf⟩ := DataW.trod_struct hs h
  refine AllSh.of_get (by rw [hl, hC, fieldsSh.size hsh]) fun i s v h1 h2 => ?_
  have hi : i < ss.length := (List.getElem?_eq_some_iff.1 h1).1
  have hi' : i < fs.size := by rw [fieldsSh.size hsh]; exact hi
  have hfi : fs[i]? = some fs[i] := Array.getElem?_eq_getElem hi'
  obtain ⟨o, c⟩ := hone_of hone i _ hfi
  have hx := hf i _ hfi
  rw [o, c] at hx
  have e : (cs.drop i).take 1 = [v] := by
    have hj : i < cs.length := (List.getElem?_eq_some_iff.1 h2).1
    rw [List.drop_eq_getElem_cons hj, List.take_succ_cons, List.take_zero]
    rw [List.getElem?_eq_getElem hj] at h2; simpa using h2
  rw [e, List.getElem?_eq_getElem (by omega)] at hx
  exact sh_of_trod (fieldsSh.get hsh i _ s hfi h1) hx

theorem open_agg {r : Reach} {b0 : Nat} {t : TypeId} {fs : Array Field} {ss : List Sh} {v : Value} {d : DataW H} {p : List MemPlace} (hs : P.underlying t = some (.struct fs)) (hone : oneCellFields P fs = true) (hC : P.cellsOf t = fs.size)
    (hsh : fieldsSh P fs ss = true) (hv : Value.okWide P w r b0 t v) (h : DataW.Trod enc P w base spare held t v d p) : ∃ cs : List Value, v = .agg cs.toArray ∧ AllSh ss cs := by
  obtain ⟨cs, rfl, hsz⟩ := okWide_struct hs hv
  obtain ⟨fuel, hf⟩ := h
  exact ⟨cs.toList, by simp, cells_of_struct hs hone hC hsh (by simpa [Value.cells] using hf)⟩

def RowsIn (w : World) (k : Nat) (v : Value) (L : List (List Value)) : Prop :=
  ∃ a len cap, v = .slice a len cap ∧ len ≤ cap ∧ cap ≤ maxLen ∧ L.length = len ∧ ((∀ c ∈ L, c.length = k) ∧ (a = none → cap = 0)) ∧
    (0 < len → 0 < k → ∃ b off, a = some ⟨b, off, none⟩ ∧ b < w.heap.size ∧ ∀ i j, i < len → j < k → w.cell? ⟨b, off + (i * k + j), none⟩ = (L.getD i [])[j]?)

theorem addr_add {a : Addr} {n : Nat} (h : a.spot = none) : a.add n = ⟨a.block, a.off + n, none⟩ := by
  obtain ⟨b, o, s⟩ := a
  simp only at h
  subst h
  unfold Addr.add
  split
  · rename_i e; subst e; rfl
  · rfl

theorem open_row_gen {t e : TypeId} {k : Nat} {v : Value} {d : DataW H} {p : List MemPlace} (Q : List Value → Prop) (ht : P.underlying t = some (.slice e)) (hC : P.cellsOf e = k) (hk : 0 < k)
    (hQ : ∀ n cs y, DataW.trod enc P w base spare held n e cs = some y → Q cs ∧ cs.length = k) {r : Reach} {b0 : Nat} (hv : Value.okWide P w r b0 t v) (h : DataW.Trod enc P w base spare held t v d p) :
    ∃ L, RowsIn w k v L ∧ ∀ c ∈ L, Q c := by
  obtain ⟨a, len, cap, rfl⟩ := okWide_slice ht hv
  obtain ⟨fuel, hf⟩ := h
  rcases open_slice ht (by simpa [Value.cells] using hf) with ⟨hcs, _⟩ | ⟨a', len', cap', m, n, D, Pl, hcs, _, hl, hm, hmm, _, hx⟩
  · simp at hcs
    obtain ⟨rfl, rfl, rfl⟩ := hcs
    exact ⟨[], ⟨_, _, _, rfl, Nat.le_refl _, Nat.zero_le _, rfl, ⟨by simp, fun _ => rfl⟩, fun h => absurd h (by omega)⟩, by simp⟩
  · simp at hcs
    obtain ⟨rfl, rfl, rfl⟩ := hcs
    have hlm : len ≤ m := by rw [hmm]; split <;> omega
    obtain ⟨F, hF⟩ := choose_lt (α := List Value) (p := fun i cs' => w.cells? base (a'.add (i * P.cellsOf e)) (P.cellsOf e) = some cs' ∧ Q cs' ∧ cs'.length = k) (n := len) (fun i hi => by
      obtain ⟨cs', h1, h2⟩ := hx i (by omega)
      exact ⟨cs', h1, hQ _ _ _ h2⟩)
    have hget : ∀ i, i < len → ((List.range len).map F).getD i [] = F i := fun i hi => by simp [List.getD, hi]
    refine ⟨(List.range len).map F, ⟨_, _, _, rfl, hl, hm, by simp, ⟨?_, fun h => by cases h⟩, fun h0 _ => ?_⟩, ?_⟩
    · intro c hc
      obtain ⟨i, hi, rfl⟩ := List.mem_map.1 hc
      exact (hF i (List.mem_range.1 hi)).2.2
    · have c0 := (hF 0 h0).1
      rw [hC] at c0
      have hsz := World.cells?_block c0 hk
      have g0 : w.cell? a' = (F 0)[0]? := by
        have := (World.cells?_some c0).2.2 0 hk
        simpa [Addr.add] using this
      have hsp : a'.spot = none := by
        have hlen := (hF 0 h0).2.2
        rw [List.getElem?_eq_getElem (by omega)] at g0
        exact World.cell?_spot g0
      refine ⟨a'.block, a'.off, ?_, by simpa [Addr.add] using hsz, fun i j hi hj => ?_⟩
      · obtain ⟨b, o, s⟩ := a'; simp only at hsp; subst hsp; rfl
      · have ci := (hF i hi).1
        rw [hC] at ci
        have := (World.cells?_some ci).2.2 j hj
        rw [addr_add hsp, addr_add rfl] at this
        rw [hget i hi, ← this]
        simp [Nat.add_assoc]
    · intro c hc
      obtain ⟨i, hi, rfl⟩ := List.mem_map.1 hc
      exact (hF i (List.mem_range.1 hi)).2.1

theorem AllSh.length : ∀ {ss : List Sh} {vs : List Value}, AllSh ss vs → vs.length = ss.length
  | [], vs, h => by have h' : vs = [] := h; rw [h']; rfl
  | s :: ss, vs, h => by obtain ⟨v, vs', rfl, _, h2⟩ := h; simp [AllSh.length h2]

theorem open_row {t e : TypeId} {fs : Array Field} {ss : List Sh} {v : Value} {d : DataW H} {p : List MemPlace} (ht : P.underlying t = some (.slice e)) (hs : P.underlying e = some (.struct fs)) (hone : oneCellFields P fs = true) (hC : P.cellsOf e = fs.size)
    (hsh : fieldsSh P fs ss = true) (hk : 0 < ss.length) {r : Reach} {b0 : Nat} (hv : Value.okWide P w r b0 t v) (h : DataW.Trod enc P w base spare held t v d p) : ∃ L, RowsIn w ss.length v L ∧ ∀ c ∈ L, AllSh ss c :=
  open_row_gen (AllSh ss) ht (hC.trans (fieldsSh.size hsh)) hk (fun n cs y h => by have := cells_of_struct hs hone hC hsh h; exact ⟨this, this.length⟩) hv h

theorem open_row1 {t e : TypeId} {s : Sh} {v : Value} {d : DataW H} {p : List MemPlace} (ht : P.underlying t = some (.slice e)) (he : P.underlying e = some s.desc) (hC : P.cellsOf e = 1)
    {r : Reach} {b0 : Nat} (hv : Value.okWide P w r b0 t v) (h : DataW.Trod enc P w base spare held t v d p) : ∃ L, RowsIn w 1 v L ∧ ∀ c ∈ L, AllSh [s] c :=
  open_row_gen (AllSh [s]) ht hC (by omega) (fun n cs y h => by
    have : ∃ c, cs = [c] := by
      cases s with
      | int k => obtain ⟨m, h1, _, _⟩ := DataW.trod_int he h; exact ⟨_, h1⟩
      | bool => obtain ⟨b, h1, _⟩ := DataW.trod_bool he h; exact ⟨_, h1⟩
      | str => obtain ⟨m, h1, _, _⟩ := DataW.trod_string he h; exact ⟨_, h1⟩
    obtain ⟨c, rfl⟩ := this
    exact ⟨⟨c, [], rfl, sh_of_trod he h, rfl⟩, rfl⟩) hv h
end

theorem decode {α : Type} {Q : List Value → Prop} {R : α → Prop} (enc : α → List Value) (h : ∀ c, Q c → ∃ x, c = enc x ∧ R x) : ∀ L : List (List Value), (∀ c ∈ L, Q c) → ∃ xs : List α, L = xs.map enc ∧ ∀ x ∈ xs, R x
  | [], _ => ⟨[], rfl, by simp⟩
  | c :: L, hL => by
    obtain ⟨x, rfl, hx⟩ := h c (hL c (by simp))
    obtain ⟨xs, rfl, hxs⟩ := decode enc h L fun c hc => hL c (by simp [hc])
    exact ⟨x :: xs, rfl, by simp; exact ⟨hx, hxs⟩⟩
end Go.Proofs.YtenflcaalckdfaaGreatDoor
