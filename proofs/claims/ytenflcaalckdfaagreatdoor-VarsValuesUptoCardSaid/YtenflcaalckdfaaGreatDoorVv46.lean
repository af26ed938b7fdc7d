/- Opening a law's message where the arguments are of a bound bulk. -/
import Derived.Test.YtenflcaalckdfaaGreatDoorVv45
import Derived.Test.YtenflcaalckdfaaGreatDoorRows
namespace Go.Proofs.YtenflcaalckdfaaGreatDoor
open Go.ChangeShapes Go.WideShapes Go.ChangeAt Go.RowKit Go.Deep
set_option linter.unusedVariables false

def Sh.Bk : Sh → Value → Prop
  | .int k, v => ∃ n, v = .int k n ∧ (Lit.int k n).wf = true
  | .bool, v => ∃ b, v = .bool b
  | .str, v => ∃ s : ByteArray, v = .string s ∧ s.size ≤ 1048576
def AllBk : List Sh → List Value → Prop
  | [], vs => vs = []
  | s :: ss, vs => ∃ v vs', vs = v :: vs' ∧ s.Bk v ∧ AllBk ss vs'
theorem AllBk.of_get : ∀ {ss : List Sh} {vs : List Value}, vs.length = ss.length → (∀ (i : Nat) (s : Sh) (v : Value), ss[i]? = some s → vs[i]? = some v → s.Bk v) → AllBk ss vs
  | [], [], _, _ => rfl
  | [], _ :: _, h, _ => by simp at h
  | _ :: _, [], h, _ => by simp at h
  | s :: ss, v :: vs, h, hx => ⟨v, vs, rfl, hx 0 s v rfl rfl, AllBk.of_get (by simpa using h) fun i s' v' h1 h2 => hx (i + 1) s' v' (by simpa using h1) (by simpa using h2)⟩
theorem AllBk.length : ∀ {ss : List Sh} {vs : List Value}, AllBk ss vs → vs.length = ss.length
  | [], vs, h => by have h' : vs = [] := h; rw [h']; rfl
  | s :: ss, vs, h => by obtain ⟨v, vs', rfl, _, h2⟩ := h; simp [AllBk.length h2]

section
variable {H : Type} {enc : TypeId × Value → H} {P : Program} {w : World} {base : Nat} {spare : Nat → Bool} {held : Bool}

theorem bk_of_trod {t : TypeId} {s : Sh} {n : Nat} {v : Value} {y : DataW H × List MemPlace} (ht : P.underlying t = some s.desc) (h : DataW.trod enc P w base spare held n t [v] = some y) (hw : Rows.uptoBulk y.1 ≤ 1048576) : s.Bk v := by
  cases s with
  | int k => obtain ⟨m, h1, _, h3⟩ := DataW.trod_int ht h; exact ⟨m, by simpa using h1, h3⟩
  | bool => obtain ⟨b, h1, _⟩ := DataW.trod_bool ht h; exact ⟨b, by simpa using h1⟩
  | str =>
    obtain ⟨m, h1, h2, h3⟩ := DataW.trod_string ht h
    refine ⟨m, by simpa using h1, ?_⟩
    rw [h2] at hw
    simp only [Rows.uptoBulk] at hw
    have e : m.data.toList.length = m.size := rfl
    rw [e] at hw
    omega
theorem bulk_part {d : DataW H} {l : List (DataW H)} (h : d ∈ l) : Rows.uptoBulk d ≤ Rows.uptoBulkAll l := by
  induction l with
  | nil => cases h
  | cons x r ih =>
    simp only [Rows.uptoBulkAll]
    cases List.mem_cons.1 h with
    | inl e => subst e; omega
    | inr e => have := ih e; omega

theorem cells_bulk {t : TypeId} {fs : Array Field} {ss : List Sh} {n : Nat} {cs : List Value} {y : DataW H × List MemPlace} (hs : P.underlying t = some (.struct fs)) (hone : oneCellFields P fs = true) (hC : P.cellsOf t = fs.size)
    (hsh : fieldsSh P fs ss = true) (h : DataW.trod enc P w base spare held n t cs = some y) (hw : Rows.uptoBulk y.1 ≤ 1048576) : AllBk ss cs := by
  obtain ⟨xs, m, _, hy, hl, hlen, hf⟩ := DataW.trod_struct hs h
  have hwe : Rows.uptoBulkAll (xs.map (·.1)) ≤ 1048576 := by
    rw [hy] at hw
    simp only [Rows.uptoBulk] at hw
    omega
  refine AllBk.of_get (by rw [hl, hC, fieldsSh.size hsh]) fun i s v h1 h2 => ?_
  have hi : i < ss.length := (List.getElem?_eq_some_iff.1 h1).1
  have hi' : i < fs.size := by rw [fieldsSh.size hsh]; exact hi
  have hfi : fs[i]? = some fs[i] := Array.getElem?_eq_getElem hi'
  obtain ⟨o, c⟩ := hone_of hone i _ hfi
  have hx := hf i _ hfi
  rw [o, c] at hx
  have e : (cs.drop i).take 1 = [v] := by
    have hj : i < cs.length := (List.getElem?_eq_some_iff.1 h2).1
    rw [List.drop_eq_getElem_cons hj, List.take_succ_cons, List.take_zero]
    rw [List.getElem?_eq_getElem hj] at h2; simpa using h2
  have hxi : i < xs.length := by omega
  rw [e, List.getElem?_eq_getElem hxi] at hx
  exact bk_of_trod (fieldsSh.get hsh i _ s hfi h1) hx (Nat.le_trans (bulk_part (List.mem_map.2 ⟨xs[i], List.getElem_mem hxi, rfl⟩)) hwe)

theorem rowb_of_trod {t e : TypeId} {k n : Nat} {v : Value} {y : DataW H × List MemPlace} (Q : List Value → Prop) (ht : P.underlying t = some (.slice e)) (hC : P.cellsOf e = k) (hk : 0 < k)
    (hQ : ∀ n cs z, DataW.trod enc P w base spare held n e cs = some z → Rows.uptoBulk z.1 ≤ 1048576 → Q cs ∧ cs.length = k) (h : DataW.trod enc P w base spare held n t [v] = some y) (hw : Rows.uptoBulk y.1 ≤ 1048576) :
    ∃ L, RowsIn w k v L ∧ ∀ c ∈ L, Q c := by
  rcases DataW.trod_slice ht h with ⟨hcs, _⟩ | ⟨a', len, cap, elems, rest, m, _, hcs, hy, _, hl, hm, hel, hx, _, _⟩
  · obtain rfl : v = .slice none 0 0 := by simpa using hcs
    exact ⟨[], ⟨_, _, _, rfl, Nat.le_refl _, Nat.zero_le _, rfl, ⟨by simp, fun _ => rfl⟩, fun h => absurd h (by omega)⟩, by simp⟩
  · obtain rfl : v = .slice (some a') len cap := by simpa using hcs
    have hwe : Rows.uptoBulkAll (elems.map (·.1)) ≤ 1048576 := by
      rw [hy] at hw
      simp only [Rows.uptoBulk] at hw
      omega
    obtain ⟨F, hF⟩ := choose_lt (α := List Value) (p := fun i cs' => w.cells? base (a'.add (i * P.cellsOf e)) (P.cellsOf e) = some cs' ∧ Q cs' ∧ cs'.length = k) (n := len) (fun i hi => by
      have h1 := hx i hi
      have hie : i < elems.length := by omega
      rw [List.getElem?_eq_getElem hie] at h1
      obtain ⟨cs', h2, h3⟩ := Option.bind_eq_some_iff.1 h1
      obtain ⟨q1, q2⟩ := hQ _ _ _ h3 (Nat.le_trans (bulk_part (List.mem_map.2 ⟨elems[i], List.getElem_mem hie, rfl⟩)) hwe)
      exact ⟨cs', h2, q1, q2⟩)
    have hget : ∀ i, i < len → ((List.range len).map F).getD i [] = F i := fun i hi => by simp [List.getD, hi]
    refine ⟨(List.range len).map F, ⟨_, _, _, rfl, hl, hm, by simp, ⟨?_, fun h => by cases h⟩, fun h0 _ => ?_⟩, ?_⟩
    · intro c hc
      obtain ⟨i, hi, rfl⟩ := List.mem_map.1 hc
      exact (hF i (List.mem_range.1 hi)).2.2
    · have c0 := (hF 0 h0).1
      rw [hC] at c0
      have hsz := World.cells?_block c0 hk
      have g0 : w.cell? a' = (F 0)[0]? := by
        have := (World.cells?_some c0).2.2 0 hk
        simpa [Addr.add] using this
      have hsp : a'.spot = none := by
        have hlen := (hF 0 h0).2.2
        rw [List.getElem?_eq_getElem (by omega)] at g0
        exact World.cell?_spot g0
      refine ⟨a'.block, a'.off, ?_, by simpa [Addr.add] using hsz, fun i j hi hj => ?_⟩
      · obtain ⟨b, o, s⟩ := a'; simp only at hsp; subst hsp; rfl
      · have ci := (hF i hi).1
        rw [hC] at ci
        have := (World.cells?_some ci).2.2 j hj
        rw [addr_add hsp, addr_add rfl] at this
        rw [hget i hi, ← this]
        simp [Nat.add_assoc]
    · intro c hc
      obtain ⟨i, hi, rfl⟩ := List.mem_map.1 hc
      exact (hF i (List.mem_range.1 hi)).2.1

theorem open_msgB {r : Reach} {b0 : Nat} {tm ts tf te tb : TypeId} {fm fs fe : Array Field} {f0 f1 f2 : Field} {v : Value} {d : DataW H} {p : List MemPlace}
    (hm : P.underlying tm = some (.struct fm)) (h0 : fm[0]? = some f0) (h1 : fm[1]? = some f1) (h2 : fm[2]? = some f2) (h3 : fm.size = 3)
    (e0 : f0.type = ts ∧ f0.offset = 0) (e1 : f1.type = tf ∧ f1.offset = 5) (e2 : f2.type = tb ∧ f2.offset = 6)
    (hCm : P.cellsOf tm = 7) (hs : P.underlying ts = some (.struct fs)) (hone : oneCellFields P fs = true) (hCs : P.cellsOf ts = fs.size) (hCs5 : P.cellsOf ts = 5) (hsh : fieldsSh P fs [.str, .str, .int .i64, .str, .int .i64] = true)
    (hf : P.underlying tf = some (.slice te)) (hCf : P.cellsOf tf = 1) (he : P.underlying te = some (.struct fe)) (hone2 : oneCellFields P fe = true) (hCe : P.cellsOf te = fe.size) (hsh2 : fieldsSh P fe [.str, .str] = true)
    (hb : P.underlying tb = some .string) (hCb : P.cellsOf tb = 1)
    (hv : Value.okWide P w r b0 tm v) (h : DataW.Trod enc P w base spare held tm v d p) (hw : Rows.uptoBulk d ≤ 1048576) :
    ∃ (a b : ByteArray) (c : Int) (x : ByteArray) (n : Int) (row : Value) (bo : ByteArray) (L : List (List Value)), v = .agg #[.string a, .string b, .int .i64 c, .string x, .int .i64 n, row, .string bo] ∧
      a.size ≤ 1048576 ∧ b.size ≤ 1048576 ∧ (Lit.int .i64 c).wf = true ∧ x.size ≤ 1048576 ∧ (Lit.int .i64 n).wf = true ∧ (RowsIn w 2 row L ∧ ∀ c ∈ L, AllBk [.str, .str] c) ∧ bo.size ≤ 1048576 := by
  obtain ⟨cs, rfl, hsz⟩ := okWide_struct hm hv
  obtain ⟨fuel, hf'⟩ := h
  have h' : DataW.trod enc P w base spare held fuel tm cs.toList = some (d, p) := by simpa [Value.cells] using hf'
  obtain ⟨xs, m, _, hy, hl, hlen, hx⟩ := DataW.trod_struct hm h'
  have hd : d = .agg (xs.map (·.1)) := congrArg Prod.fst hy
  have hwe : Rows.uptoBulkAll (xs.map (·.1)) ≤ 1048576 := by
    rw [hd] at hw
    simp only [Rows.uptoBulk] at hw
    omega
  have key : ∀ (i : Nat) (f : Field) (hi : i < 3), fm[i]? = some f → ∃ z, DataW.trod enc P w base spare held m f.type ((cs.toList.drop f.offset).take (P.cellsOf f.type)) = some z ∧ Rows.uptoBulk z.1 ≤ 1048576 := fun i f hi hfi => by
    have h1 := hx i f hfi
    have hxi : i < xs.length := by omega
    rw [List.getElem?_eq_getElem hxi] at h1
    exact ⟨_, h1, Nat.le_trans (bulk_part (List.mem_map.2 ⟨xs[i], List.getElem_mem hxi, rfl⟩)) hwe⟩
  obtain ⟨z0, t0, w0⟩ := key 0 f0 (by omega) h0
  obtain ⟨z1, t1, w1⟩ := key 1 f1 (by omega) h1
  obtain ⟨z2, t2, w2⟩ := key 2 f2 (by omega) h2
  rw [e0.1] at t0
  rw [e0.2, hCs5] at t0
  rw [e1.1] at t1
  rw [e1.2, hCf] at t1
  rw [e2.1] at t2
  rw [e2.2, hCb] at t2
  rw [hCm] at hl
  obtain ⟨c0, c1, c2, c3, c4, c5, c6, hcs⟩ : ∃ c0 c1 c2 c3 c4 c5 c6, cs.toList = [c0, c1, c2, c3, c4, c5, c6] := by
    match cs.toList, hl with
    | [c0, c1, c2, c3, c4, c5, c6], _ => exact ⟨c0, c1, c2, c3, c4, c5, c6, rfl⟩
  rw [hcs] at t0 t1 t2
  simp only [List.drop_zero, List.take_succ_cons, List.take_zero, List.drop_succ_cons] at t0 t1 t2
  obtain ⟨_, _, g1, ⟨a, rfl, ha⟩, _, _, rfl, ⟨b, rfl, hb'⟩, _, _, rfl, ⟨c, rfl, hc⟩, _, _, rfl, ⟨x, rfl, hx'⟩, _, _, rfl, ⟨n, rfl, hn⟩, rfl⟩ := cells_bulk hs hone hCs hsh t0 w0
  simp only [List.cons.injEq, and_true] at g1
  obtain ⟨rfl, rfl, rfl, rfl, rfl⟩ := g1
  obtain ⟨L, hL⟩ := rowb_of_trod (AllBk [.str, .str]) hf (hCe.trans (fieldsSh.size hsh2)) (by decide) (fun n cs z h hw => by
    have := cells_bulk he hone2 hCe hsh2 h hw
    exact ⟨this, this.length⟩) t1 w1
  obtain ⟨bo, rfl, hbo⟩ := bk_of_trod (s := .str) hb t2 w2
  refine ⟨a, b, c, x, n, c5, bo, L, ?_, ha, hb', hc, hx', hn, hL, hbo⟩
  congr 1
  apply Array.toList_inj.1
  rw [hcs]
end
end Go.Proofs.YtenflcaalckdfaaGreatDoor
