/- Rows of routes (three texts each): read, built by the call, appended to. Opening a law's arguments: numbers, truths, texts, structs of these, rows of these. -/
import Derived.Test.YtgjemgilanhdiaaGreatDoorRf23
import Derived.ArgAppend
import Derived.Maps.AppendAt
import Derived.Laws.AppendOwnNone
import Derived.Test.YtgjemgilanhdiaaGreatDoorRf1
import Derived.ProofKit
import Derived.OpenShut
import Derived.ShutString
import Derived.ChangeOld
import Derived.Lib.SmallJoins
namespace Go.Proofs.YtgjemgilanhdiaaGreatDoor
open Go.RowKit
set_option linter.unusedVariables false

abbrev Wrd := List UInt8 × List UInt8 × List UInt8
def wcells (f : Wrd) : List Value := [.string (S f.1), .string (S f.2.1), .string (S f.2.2)]
theorem wflat_len : ∀ L : List Wrd, (L.flatMap wcells).length = L.length * 3
  | [] => rfl
  | f :: L => by rw [List.flatMap_cons, List.length_append, wflat_len L]; simp [wcells]; omega
theorem wflat_at : ∀ (L : List Wrd) (j : Nat) (h : j < L.length), (L.flatMap wcells)[j * 3]? = some (.string (S L[j].1)) ∧ (L.flatMap wcells)[j * 3 + 1]? = some (.string (S L[j].2.1)) ∧ (L.flatMap wcells)[j * 3 + 2]? = some (.string (S L[j].2.2))
  | [], j, h => by simp at h
  | f :: L, 0, h => by simp [wcells]
  | f :: L, j + 1, h => by
    obtain ⟨h1, h2, h3⟩ := wflat_at L j (by simpa using h)
    rw [List.flatMap_cons]
    refine ⟨?_, ?_, ?_⟩
    · rw [List.getElem?_append_right (by simp [wcells]; omega), show (j + 1) * 3 - (wcells f).length = j * 3 by simp [wcells]; omega, h1]; rfl
    · rw [List.getElem?_append_right (by simp [wcells]; omega), show (j + 1) * 3 + 1 - (wcells f).length = j * 3 + 1 by simp [wcells]; omega, h2]; rfl
    · rw [List.getElem?_append_right (by simp [wcells]; omega), show (j + 1) * 3 + 2 - (wcells f).length = j * 3 + 2 by simp [wcells]; omega, h3]; rfl
theorem wflat_one (L : List Wrd) : ∀ u ∈ L.flatMap wcells, u.oneCell' = true := by
  intro u hu
  obtain ⟨f, _, hf⟩ := List.mem_flatMap.1 hu
  simp [wcells] at hf
  rcases hf with rfl | rfl | rfl <;> rfl

theorem infoWrd : (Tryz.prog.info? 43).map (fun i => (i.zero, i.size, i.bytes)) = some (some (.agg #[.string ⟨#[]⟩, .string ⟨#[]⟩, .string ⟨#[]⟩]), 3, 48) := by kernel_rfl

def OwnsW (W : World) (B : Nat) (v : Value) (L : List Wrd) : Prop := W.ownsRow B 43 3 v L.length (L.flatMap wcells)
def ReadsW (W : World) (v : Value) (L : List Wrd) : Prop :=
  ∃ ao cap, v = .slice ao L.length cap ∧ L.length ≤ cap ∧ cap ≤ maxLen ∧ (ao = none → cap = 0) ∧ (0 < L.length → ∃ b off, ao = some ⟨b, off, none⟩ ∧ b < W.heap.size ∧
    ∀ j (h : j < L.length), W.cell? ⟨b, off + j * 3, none⟩ = some (.string (S L[j].1)) ∧ W.cell? ⟨b, off + j * 3 + 1, none⟩ = some (.string (S L[j].2.1)) ∧ W.cell? ⟨b, off + j * 3 + 2, none⟩ = some (.string (S L[j].2.2)))
theorem OwnsW.nil (W : World) (B : Nat) : OwnsW W B (.slice none 0 0) [] := World.ownsRow_nil _ _ _ _
theorem ReadsW.nil (W : World) : ReadsW W (.slice none 0 0) [] := ⟨none, 0, rfl, Nat.le_refl _, by decide, fun _ => rfl, fun h => by simp at h⟩
theorem OwnsW.made (W : World) (B : Nat) (hB : B ≤ W.heap.size) : OwnsW (W.alloc (.cells #[] 43)) B (.slice (some ⟨W.heap.size, 0, none⟩) 0 0) [] :=
  ⟨rfl, .inr ⟨W.heap.size, 0, #[], rfl, hB, by show (W.heap.push _)[W.heap.size]? = _; rw [Array.getElem?_push_size], Nat.le_refl _, by decide, rfl, rfl⟩⟩
theorem OwnsW.below {W W' : World} {B : Nat} {v : Value} {L : List Wrd} (h : OwnsW W B v L) (hb : Below W.heap.size W W') : OwnsW W' B v L := by
  obtain ⟨h1, h2⟩ := h
  refine ⟨h1, ?_⟩
  rcases h2 with h2 | ⟨g, cap, cur, h3, h4, h5, h6⟩
  · exact .inl h2
  · refine .inr ⟨g, cap, cur, h3, h4, ?_, h6⟩
    have hg : g < W.heap.size := by
      rcases Nat.lt_or_ge g W.heap.size with h | h
      · exact h
      · rw [Array.getElem?_eq_none h] at h5; cases h5
    rw [hb.block g hg]
    exact h5
theorem OwnsW.base {W : World} {B B' : Nat} {v : Value} {L : List Wrd} (h : OwnsW W B v L) (hb : B' ≤ B) : OwnsW W B' v L := by
  obtain ⟨h1, h2⟩ := h
  refine ⟨h1, ?_⟩
  rcases h2 with h2 | ⟨g, cap, cur, h3, h4, h5⟩
  · exact .inl h2
  · exact .inr ⟨g, cap, cur, h3, Nat.le_trans hb h4, h5⟩
theorem OwnsW.reads {W : World} {B : Nat} {v : Value} {L : List Wrd} (h : OwnsW W B v L) : ReadsW W v L := by
  obtain ⟨h1, h2⟩ := h
  rcases h2 with ⟨h2, h3⟩ | ⟨g, cap, cur, h3, h4, h5, h6, h7, h8, h9⟩
  · have : L = [] := List.length_eq_zero_iff.1 h3
    subst this; rw [h2]; exact ReadsW.nil W
  · have hg : g < W.heap.size := by
      rcases Nat.lt_or_ge g W.heap.size with h | h
      · exact h
      · rw [Array.getElem?_eq_none h] at h5; cases h5
    refine ⟨_, cap, h3, h6, h7, (fun h => by cases h), fun h0 => ⟨g, 0, rfl, hg, fun j hj => ?_⟩⟩
    have hcell : ∀ q, q < L.length * 3 → W.cell? ⟨g, q, none⟩ = (L.flatMap wcells)[q]? := fun q hq => by
      rw [Joins.cell_of_block h5, ← h9, List.getElem?_take, if_pos hq, Array.getElem?_toList]
    obtain ⟨e1, e2, e3⟩ := wflat_at L j hj
    rw [Nat.zero_add]
    exact ⟨(hcell _ (by omega)).trans e1, (hcell _ (by omega)).trans e2, (hcell _ (by omega)).trans e3⟩
theorem ReadsW.below {W W' : World} {v : Value} {L : List Wrd} (h : ReadsW W v L) (hb : Below W.heap.size W W') : ReadsW W' v L := by
  obtain ⟨ao, cap, h1, h2, h3, h3', h4⟩ := h
  refine ⟨ao, cap, h1, h2, h3, h3', fun h0 => ?_⟩
  obtain ⟨b, off, e1, e2, e3⟩ := h4 h0
  refine ⟨b, off, e1, Nat.lt_of_lt_of_le e2 hb.size, fun j hj => ?_⟩
  rw [hb.cell (p := ⟨b, off + j * 3, none⟩) e2, hb.cell (p := ⟨b, off + j * 3 + 1, none⟩) e2, hb.cell (p := ⟨b, off + j * 3 + 2, none⟩) e2]
  exact e3 j hj

theorem three_cells (W : World) (f : Wrd) : ∀ j u, (wcells f)[j]? = some u → (W.alloc (.cells #[.string (S f.1), .string (S f.2.1), .string (S f.2.2)] 43)).cell? ((⟨W.heap.size, 0, none⟩ : Addr).add j) = some u := by
  intro j u hj
  match j, hj with
  | 0, hj => simp [wcells] at hj; subst hj; simp [Addr.add]
  | 1, hj => simp [wcells] at hj; subst hj; simp [Addr.add]
  | 2, hj => simp [wcells] at hj; subst hj; simp [Addr.add]

theorem wp_append_wrd {ops : Array Oper} {rest : List Oper} {o : Oper} {a : Act} {Q : Exit → Act → World → Prop} (hgd : o.guard = none) (s x : Operand)
    (ho : o.op = .call { callee := .builtin .append, args := #[s, x], argTypes := #[22, 22] })
    (W : World) (B : Nat) (v : Value) (L : List Wrd) (f : Wrd) (hown : OwnsW W B v L) (hs : a.eval s = v) (g : Nat) (hx : a.eval x = .slice (some ⟨g, 0, none⟩) 1 1) (hg : g = W.heap.size)
    (hn : L.length ≤ 1099511627776) (hB : B ≤ W.heap.size)
    (h : ∀ v' w', OwnsW w' B v' (L ++ [f]) → Below B W w' → (∀ k, k < W.heap.size → v.ownBlock ≠ some k → w'.heap[k]? = W.heap[k]? ∧ v'.ownBlock ≠ some k) → wpList Tryz.prog ops Q rest (a.put o.dst v') w') : wpList Tryz.prog ops Q (o :: rest) a (W.alloc (.cells #[.string (S f.1), .string (S f.2.1), .string (S f.2.2)] 43)) := by
  subst hg
  obtain ⟨i0, hi, hz0, hz1, hz2⟩ := info_parts infoWrd
  have hown' : (W.alloc (.cells #[.string (S f.1), .string (S f.2.1), .string (S f.2.2)] 43)).ownsRow B 43 3 v L.length (L.flatMap wcells) := World.ownsRow.alloc hown _
  refine Go.wpList_append_own_at _ hgd s x 22 ho B 43 i0 (.agg #[.string ⟨#[]⟩, .string ⟨#[]⟩, .string ⟨#[]⟩]) 3 48 Tryz.underlying22 hi hz0 hz1 hz2 rfl (by decide) v L.length _ hs hown' ⟨W.heap.size, 0, none⟩ 1 1 (wcells f) hx rfl (three_cells W f) ?_ ?_ ?_ ?_ ?_
  · intro u hu; simp [wcells] at hu; rcases hu with rfl | rfl | rfl <;> rfl
  · unfold maxLen; omega
  · omega
  · simp; omega
  · intro v' w' h1 h2 _ h4
    refine h v' w' (by unfold OwnsW; simpa using h1) ?_ (fun k hk hne => ⟨?_, ?_⟩)
    · refine Below.grown (w := W.alloc (.cells #[.string (S f.1), .string (S f.2.1), .string (S f.2.2)] 43)) ((Below.refl _ _).alloc hB _) h2 (by simp; omega) ?_
      intro k hk
      exact (World.ownsRow.lt hown' k hk).1
    · rw [h2.block k (by simp; omega) (fun e => hne e.symm)]
      show (W.heap.push _)[k]? = _
      rw [Array.getElem?_push_lt hk, Array.getElem?_eq_getElem hk]
    · rcases h4 with h4 | h4
      · rw [h4]; exact hne
      · rw [h4]; simp; omega

theorem wclipCells {W' : World} {ao : Option Addr} {cap : Nat} {L : List Wrd} (hr : ReadsW W' (.slice ao L.length cap) L) : ∀ b, ao = some b → ∀ j u, (L.flatMap wcells)[j]? = some u → W'.cell? (b.add j) = some u := by
  obtain ⟨ao', cap', e1, e2, e3, e4, e5⟩ := hr
  injection e1 with e6 e7 e8
  subst e6
  intro b hb j u hj
  have hlen := wflat_len L
  have hj2 : j < L.length * 3 := by
    rcases Nat.lt_or_ge j (L.length * 3) with h' | h'
    · exact h'
    · rw [List.getElem?_eq_none (by omega)] at hj; cases hj
  obtain ⟨b0, off, e9, e10, e11⟩ := e5 (by omega)
  rw [hb] at e9
  cases e9
  obtain ⟨c1, c2, c3⟩ := e11 (j / 3) (by omega)
  obtain ⟨d1, d2, d3⟩ := wflat_at L (j / 3) (by omega)
  have hadd : ((⟨b0, off, none⟩ : Addr).add j) = ⟨b0, off + j, none⟩ := by
    unfold Addr.add; split
    · rename_i e; subst e; rfl
    · rfl
  rw [hadd]
  rcases (by omega : j % 3 = 0 ∨ j % 3 = 1 ∨ j % 3 = 2) with hm | hm | hm
  · have : j = j / 3 * 3 := by omega
    rw [← this] at c1 d1
    rw [c1, ← d1]; exact hj
  · have : j = j / 3 * 3 + 1 := by omega
    rw [Nat.add_assoc, ← this] at c2
    rw [← this] at d2
    rw [c2, ← d2]; exact hj
  · have : j = j / 3 * 3 + 2 := by omega
    rw [Nat.add_assoc, ← this] at c3
    rw [← this] at d3
    rw [c3, ← d3]; exact hj
theorem wp_append_wrow {ops : Array Oper} {rest : List Oper} {o : Oper} {a : Act} {Q : Exit → Act → World → Prop} (hgd : o.guard = none) (s x : Operand)
    (ho : o.op = .call { callee := .builtin .append, args := #[s, x], argTypes := #[22, 22] })
    (W : World) (B : Nat) (v : Value) (L0 : List Wrd) (hown : OwnsW W B v L0) (hs : a.eval s = v) (ao : Option Addr) (cap : Nat) (L : List Wrd) (hr : ReadsW W (.slice ao L.length cap) L) (hx : a.eval x = .slice ao L.length cap)
    (hn : L0.length + L.length ≤ 1099511627776) (hB : B ≤ W.heap.size)
    (h : ∀ v' w', OwnsW w' B v' (L0 ++ L) → Below B W w' → wpList Tryz.prog ops Q rest (a.put o.dst v') w') : wpList Tryz.prog ops Q (o :: rest) a W := by
  obtain ⟨i0, hi, hz0, hz1, hz2⟩ := info_parts infoWrd
  have hcells := wclipCells hr
  obtain ⟨ao', cap', e1, e2, e3, e4, e5⟩ := hr
  injection e1 with e6 e7 e8
  subst e6
  subst e8
  have hown' : W.ownsRow B 43 3 v L0.length (L0.flatMap wcells) := hown
  cases ao with
  | none =>
    have hc0 := e4 rfl
    have hz : L.length = 0 := by omega
    obtain rfl : L = [] := List.length_eq_zero_iff.1 hz
    subst hc0
    refine wpList_append_own_none hgd s x 22 ho B 43 i0 3 Tryz.underlying22 hi v L0.length _ hs hown' hx ?_
    subst hs
    exact h _ _ (by rw [List.append_nil]; exact hown) (Below.refl _ _)
  | some ad =>
    refine wpList_append_own _ hgd s x 22 ho B 43 i0 (.agg #[.string ⟨#[]⟩, .string ⟨#[]⟩, .string ⟨#[]⟩]) 3 48 Tryz.underlying22 hi hz0 hz1 hz2 rfl (by decide) v L0.length _ hs hown' ad L.length cap (L.flatMap wcells) hx (wflat_len L) (hcells ad rfl) (wflat_one L) ?_ ?_ hB ?_
    · unfold maxLen; omega
    · omega
    · intro v' w' h1 h2 h3
      refine h v' w' (by unfold OwnsW; simpa using h1) ?_
      exact Below.grown (Below.refl _ _) h2 hB (fun k hk => (World.ownsRow.lt hown' k hk).1)
end Go.Proofs.YtgjemgilanhdiaaGreatDoor
namespace Go.Proofs.YtgjemgilanhdiaaGreatDoor
open Go.ChangeShapes Go.WideShapes Go.ChangeAt Go.RowKit Go.Deep
open Go.ChangeMaps (open_string shut_string)
set_option linter.unusedVariables false

inductive Sh where
  | int (k : IntKind)
  | bool
  | str

def Sh.Is : Sh → Value → Prop
  | .int k, v => ∃ n, v = .int k n ∧ (Lit.int k n).wf = true
  | .bool, v => ∃ b, v = .bool b
  | .str, v => ∃ s : ByteArray, v = .string s ∧ s.size ≤ maxLen

def Sh.desc : Sh → TypeDesc
  | .int k => .int k
  | .bool => .bool
  | .str => .string

def Sh.fits : Sh → Option TypeDesc → Bool
  | .int k, some (.int k') => decide (k = k')
  | .bool, some .bool => true
  | .str, some .string => true
  | _, _ => false
theorem Sh.fits_desc {s : Sh} {d : Option TypeDesc} (h : s.fits d = true) : d = some s.desc := by
  unfold Sh.fits at h
  split at h <;> simp_all [Sh.desc]

def AllSh : List Sh → List Value → Prop
  | [], vs => vs = []
  | s :: ss, vs => ∃ v vs', vs = v :: vs' ∧ s.Is v ∧ AllSh ss vs'

theorem AllSh.of_get : ∀ {ss : List Sh} {vs : List Value}, vs.length = ss.length → (∀ (i : Nat) (s : Sh) (v : Value), ss[i]? = some s → vs[i]? = some v → s.Is v) → AllSh ss vs
  | [], [], _, _ => rfl
  | [], _ :: _, h, _ => by simp at h
  | _ :: _, [], h, _ => by simp at h
  | s :: ss, v :: vs, h, hx => ⟨v, vs, rfl, hx 0 s v rfl rfl, AllSh.of_get (by simpa using h) fun i s' v' h1 h2 => hx (i + 1) s' v' (by simpa using h1) (by simpa using h2)⟩

section
variable {H : Type} {enc : TypeId × Value → H} {P : Program} {w : World} {base : Nat} {spare : Nat → Bool} {held : Bool}

theorem sh_of_trod {t : TypeId} {s : Sh} {n : Nat} {v : Value} {y : DataW H × List MemPlace} (ht : P.underlying t = some s.desc) (h : DataW.trod enc P w base spare held n t [v] = some y) : s.Is v := by
  cases s with
  | int k => obtain ⟨m, h1, _, h3⟩ := DataW.trod_int ht h; exact ⟨m, by simpa using h1, h3⟩
  | bool => obtain ⟨b, h1, _⟩ := DataW.trod_bool ht h; exact ⟨b, by simpa using h1⟩
  | str => obtain ⟨m, h1, _, h3⟩ := DataW.trod_string ht h; exact ⟨m, by simpa using h1, h3⟩

def fieldsSh (P : Program) (fs : Array Field) (ss : List Sh) : Bool := fs.size == ss.length && (List.range fs.size).all fun i => match fs[i]?, ss[i]? with
  | some f, some s => s.fits (P.underlying f.type)
  | _, _ => false
theorem fieldsSh.size {P : Program} {fs : Array Field} {ss : List Sh} (h : fieldsSh P fs ss = true) : fs.size = ss.length := by
  simp only [fieldsSh, Bool.and_eq_true, beq_iff_eq] at h; exact h.1
theorem fieldsSh.get {P : Program} {fs : Array Field} {ss : List Sh} (h : fieldsSh P fs ss = true) (i : Nat) (f : Field) (s : Sh) (hf : fs[i]? = some f) (hs : ss[i]? = some s) : P.underlying f.type = some s.desc := by
  simp only [fieldsSh, Bool.and_eq_true, List.all_eq_true, List.mem_range] at h
  have := h.2 i (Array.getElem?_eq_some_iff.1 hf).1
  rw [hf, hs] at this
  exact Sh.fits_desc this

theorem cells_of_struct {t : TypeId} {fs : Array Field} {ss : List Sh} {n : Nat} {cs : List Value} {y : DataW H × List MemPlace} (hs : P.underlying t = some (.struct fs)) (hone : oneCellFields P fs = true) (hC : P.cellsOf t = fs.size)
    (hsh : fieldsSh P fs ss = true) (h : DataW.trod enc P w base spare held n t cs = some y) : AllSh ss cs := by
  obtain ⟨xs, m, _, _, hl, hlen, hf⟩ := DataW.trod_struct hs h
  refine AllSh.of_get (by rw [hl, hC, fieldsSh.size hsh]) fun i s v h1 h2 => ?_
  have hi : i < ss.length := (List.getElem?_eq_some_iff.1 h1).1
  have hi' : i < fs.size := by rw [fieldsSh.size hsh]; exact hi
  have hfi : fs[i]? = some fs[i] := Array.getElem?_eq_getElem hi'
  obtain ⟨o, c⟩ := hone_of hone i _ hfi
  have hx := hf i _ hfi
  rw [o, c] at hx
  have e : (cs.drop i).take 1 = [v] := by
    have hj : i < cs.length := (List.getElem?_eq_some_iff.1 h2).1
    rw [List.drop_eq_getElem_cons hj, List.take_succ_cons, List.take_zero]
    rw [List.getElem?_eq_getElem hj] at h2; simpa using h2
  rw [e, List.getElem?_eq_getElem (by omega)] at hx
  exact sh_of_trod (fieldsSh.get hsh i _ s hfi h1) hx

theorem open_agg {r : Reach} {b0 : Nat} {t : TypeId} {fs : Array Field} {ss : List Sh} {v : Value} {d : DataW H} {p : List MemPlace} (hs : P.underlying t = some (.struct fs)) (hone : oneCellFields P fs = true) (hC : P.cellsOf t = fs.size)
    (hsh : fieldsSh P fs ss = true) (hv : Value.okWide P w r b0 t v) (h : DataW.Trod enc P w base spare held t v d p) : ∃ cs : List Value, v = .agg cs.toArray ∧ AllSh ss cs := by
  obtain ⟨cs, rfl, hsz⟩ := okWide_struct hs hv
  obtain ⟨fuel, hf⟩ := h
  exact ⟨cs.toList, by simp, cells_of_struct hs hone hC hsh (by simpa [Value.cells] using hf)⟩

def RowsIn (w : World) (k : Nat) (v : Value) (L : List (List Value)) : Prop :=
  ∃ a len cap, v = .slice a len cap ∧ len ≤ cap ∧ cap ≤ maxLen ∧ L.length = len ∧ ((∀ c ∈ L, c.length = k) ∧ (a = none → cap = 0)) ∧
    (0 < len → 0 < k → ∃ b off, a = some ⟨b, off, none⟩ ∧ b < w.heap.size ∧ ∀ i j, i < len → j < k → w.cell? ⟨b, off + (i * k + j), none⟩ = (L.getD i [])[j]?)

theorem addr_add {a : Addr} {n : Nat} (h : a.spot = none) : a.add n = ⟨a.block, a.off + n, none⟩ := by
  obtain ⟨b, o, s⟩ := a
  simp only at h
  subst h
  unfold Addr.add
  split
  · rename_i e; subst e; rfl
  · rfl

theorem open_row_gen {t e : TypeId} {k : Nat} {v : Value} {d : DataW H} {p : List MemPlace} (Q : List Value → Prop) (ht : P.underlying t = some (.slice e)) (hC : P.cellsOf e = k) (hk : 0 < k)
    (hQ : ∀ n cs y, DataW.trod enc P w base spare held n e cs = some y → Q cs ∧ cs.length = k) {r : Reach} {b0 : Nat} (hv : Value.okWide P w r b0 t v) (h : DataW.Trod enc P w base spare held t v d p) :
    ∃ L, RowsIn w k v L ∧ ∀ c ∈ L, Q c := by
  obtain ⟨a, len, cap, rfl⟩ := okWide_slice ht hv
  obtain ⟨fuel, hf⟩ := h
  rcases open_slice ht (by simpa [Value.cells] using hf) with ⟨hcs, _⟩ | ⟨a', len', cap', m, n, D, Pl, hcs, _, hl, hm, hmm, _, hx⟩
  · simp at hcs
    obtain ⟨rfl, rfl, rfl⟩ := hcs
    exact ⟨[], ⟨_, _, _, rfl, Nat.le_refl _, Nat.zero_le _, rfl, ⟨by simp, fun _ => rfl⟩, fun h => absurd h (by omega)⟩, by simp⟩
  · simp at hcs
    obtain ⟨rfl, rfl, rfl⟩ := hcs
    have hlm : len ≤ m := by rw [hmm]; split <;> omega
    obtain ⟨F, hF⟩ := choose_lt (α := List Value) (p := fun i cs' => w.cells? base (a'.add (i * P.cellsOf e)) (P.cellsOf e) = some cs' ∧ Q cs' ∧ cs'.length = k) (n := len) (fun i hi => by
      obtain ⟨cs', h1, h2⟩ := hx i (by omega)
      exact ⟨cs', h1, hQ _ _ _ h2⟩)
    have hget : ∀ i, i < len → ((List.range len).map F).getD i [] = F i := fun i hi => by simp [List.getD, hi]
    refine ⟨(List.range len).map F, ⟨_, _, _, rfl, hl, hm, by simp, ⟨?_, fun h => by cases h⟩, fun h0 _ => ?_⟩, ?_⟩
    · intro c hc
      obtain ⟨i, hi, rfl⟩ := List.mem_map.1 hc
      exact (hF i (List.mem_range.1 hi)).2.2
    · have c0 := (hF 0 h0).1
      rw [hC] at c0
      have hsz := World.cells?_block c0 hk
      have g0 : w.cell? a' = (F 0)[0]? := by
        have := (World.cells?_some c0).2.2 0 hk
        simpa [Addr.add] using this
      have hsp : a'.spot = none := by
        have hlen := (hF 0 h0).2.2
        rw [List.getElem?_eq_getElem (by omega)] at g0
        exact World.cell?_spot g0
      refine ⟨a'.block, a'.off, ?_, by simpa [Addr.add] using hsz, fun i j hi hj => ?_⟩
      · obtain ⟨b, o, s⟩ := a'; simp only at hsp; subst hsp; rfl
      · have ci := (hF i hi).1
        rw [hC] at ci
        have := (World.cells?_some ci).2.2 j hj
        rw [addr_add hsp, addr_add rfl] at this
        rw [hget i hi, ← this]
        simp [Nat.add_assoc]
    · intro c hc
      obtain ⟨i, hi, rfl⟩ := List.mem_map.1 hc
      exact (hF i (List.mem_range.1 hi)).2.1

theorem AllSh.length : ∀ {ss : List Sh} {vs : List Value}, AllSh ss vs → vs.length = ss.length
  | [], vs, h => by have h' : vs = [] := h; rw [h']; rfl
  | s :: ss, vs, h => by obtain ⟨v, vs', rfl, _, h2⟩ := h; simp [AllSh.length h2]

theorem open_row {t e : TypeId} {fs : Array Field} {ss : List Sh} {v : Value} {d : DataW H} {p : List MemPlace} (ht : P.underlying t = some (.slice e)) (hs : P.underlying e = some (.struct fs)) (hone : oneCellFields P fs = true) (hC : P.cellsOf e = fs.size)
    (hsh : fieldsSh P fs ss = true) (hk : 0 < ss.length) {r : Reach} {b0 : Nat} (hv : Value.okWide P w r b0 t v) (h : DataW.Trod enc P w base spare held t v d p) : ∃ L, RowsIn w ss.length v L ∧ ∀ c ∈ L, AllSh ss c :=
  open_row_gen (AllSh ss) ht (hC.trans (fieldsSh.size hsh)) hk (fun n cs y h => by have := cells_of_struct hs hone hC hsh h; exact ⟨this, this.length⟩) hv h

theorem open_row1 {t e : TypeId} {s : Sh} {v : Value} {d : DataW H} {p : List MemPlace} (ht : P.underlying t = some (.slice e)) (he : P.underlying e = some s.desc) (hC : P.cellsOf e = 1)
    {r : Reach} {b0 : Nat} (hv : Value.okWide P w r b0 t v) (h : DataW.Trod enc P w base spare held t v d p) : ∃ L, RowsIn w 1 v L ∧ ∀ c ∈ L, AllSh [s] c :=
  open_row_gen (AllSh [s]) ht hC (by omega) (fun n cs y h => by
    have : ∃ c, cs = [c] := by
      cases s with
      | int k => obtain ⟨m, h1, _, _⟩ := DataW.trod_int he h; exact ⟨_, h1⟩
      | bool => obtain ⟨b, h1, _⟩ := DataW.trod_bool he h; exact ⟨_, h1⟩
      | str => obtain ⟨m, h1, _, _⟩ := DataW.trod_string he h; exact ⟨_, h1⟩
    obtain ⟨c, rfl⟩ := this
    exact ⟨⟨c, [], rfl, sh_of_trod he h, rfl⟩, rfl⟩) hv h
end

theorem decode {α : Type} {Q : List Value → Prop} {R : α → Prop} (enc : α → List Value) (h : ∀ c, Q c → ∃ x, c = enc x ∧ R x) : ∀ L : List (List Value), (∀ c ∈ L, Q c) → ∃ xs : List α, L = xs.map enc ∧ ∀ x ∈ xs, R x
  | [], _ => ⟨[], rfl, by simp⟩
  | c :: L, hL => by
    obtain ⟨x, rfl, hx⟩ := h c (hL c (by simp))
    obtain ⟨xs, rfl, hxs⟩ := decode enc h L fun c hc => hL c (by simp [hc])
    exact ⟨x :: xs, rfl, by simp; exact ⟨hx, hxs⟩⟩
end Go.Proofs.YtgjemgilanhdiaaGreatDoor
