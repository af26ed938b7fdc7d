/- Rows of fields: a field found by its name (table.Get): the walks. Where a request goes, and the address of what it asks: the walk of route.Ask. Printed by tools/rtask.py. route.Ask refuses what may not be asked. Printed by tools/rtask.py. -/
import Derived.Test.YtgjemgilanhdiaaGreatDoorRh41
import Derived.Test.YtgjemgilanhdiaaGreatDoorRh10
import Derived.Test.YtgjemgilanhdiaaGreatDoorRh36
import Derived.Test.YtgjemgilanhdiaaGreatDoorRh4
import Derived.Test.YtgjemgilanhdiaaGreatDoorRh40
import Derived.Test.YtgjemgilanhdiaaGreatDoorRh33
import Derived.Test.YtgjemgilanhdiaaGreatDoorRh22
namespace Go.Proofs.YtgjemgilanhdiaaGreatDoor
open Go.RowKit Go.Sort Go.Shelf
set_option linter.unusedVariables false

def fv (f : Fld) : Value := .agg #[.string (S f.1), .string (S f.2)]
def Small (f : Fld) : Prop := f.1.length ≤ 4611686018427387903 ∧ f.2.length ≤ 4611686018427387903


/-- Where the first one is. -/
def IdxIs (p : Fld → Bool) (L : List Fld) (r : Int) : Prop :=
  (r = -1 ∧ ∀ j (h : j < L.length), p L[j] = false) ∨ ∃ i : Nat, r = i ∧ ∃ h : i < L.length, p L[i] = true ∧ ∀ j (h : j < L.length), j < i → p L[j] = false
theorem IdxIs.any {p : Fld → Bool} {L : List Fld} {r : Int} (h : IdxIs p L r) : decide (0 ≤ r) = L.any p := by
  rcases h with ⟨rfl, h⟩ | ⟨i, rfl, hi, h1, _⟩
  · symm
    simp only [Int.reduceNeg, Int.reduceLE, decide_false]
    rw [List.any_eq_false]
    intro f hf
    obtain ⟨j, hj, rfl⟩ := List.getElem_of_mem hf
    simp [h j hj]
  · rw [List.any_eq_true.2 ⟨_, List.getElem_mem hi, h1⟩]
    simp

set_option maxHeartbeats 1600000 in
theorem idxFld (fn : Nat) (lb : Array Value) (p : Fld → Bool) (eg : ∀ args w, (callFunc fn args).run Tryz.prog w = .ok (.enter fn args) w) (v : Value) (L : List Fld) (W : World) (hr : ReadsF W v L)
    (hcl : ∀ f, f ∈ L → ∀ W', Below W.heap.size W W' → Calls Tryz.prog fn (#[fv f] ++ lb) W' fun e w' => e = .returned (.bool (p f)) ∧ Below W'.heap.size W' w') :
    Calls Tryz.prog 37 #[v, .func (.func fn) #[] lb] W fun e w' => ∃ r, e = .returned (.int .i64 r) ∧ IdxIs p L r ∧ Below W.heap.size W w' := by
  obtain ⟨ao, cap, rfl, hc1, hc2, hc3, hcell⟩ := hr
  have hm : maxLen = 9223372036854775807 := rfl
  rw [hm] at hc2
  have HC := Lib.hid hcell
  have HF := Lib.hid hcl
  clear hm hcell hcl hc3
  go_enter Tryz.func37, Tryz.ntmps37
  go_wp2
  go_loopw [8] (fun iv wr => ∃ i : Nat, iv = .int .i64 i ∧ i ≤ L.length ∧ (∀ j (h : j < L.length), j < i → p L[j] = false) ∧ Below W.heap.size W wr) (fun iv _ => L.length - (intOf iv).toNat)
  case atStart => exact ⟨0, rfl, Nat.zero_le _, fun j _ h => by omega, by (repeat (first | (with_reducible exact Below.refl _ _) | (with_reducible assumption) | (with_reducible refine Below.drew ?_) | (focus ((with_reducible refine Below.setCell ?_ ?_ _); rotate_left; (first | omega | (simp <;> omega)))) | (focus ((with_reducible refine Below.alloc ?_ ?_ _); rotate_left; (first | omega | (simp <;> omega)))) | exact Below.refl _ _ | assumption | refine Below.drew ?_ | refine Below.alloc ?_ (by first | omega | (simp <;> omega)) _ | refine Below.setCell ?_ (by first | omega | (simp <;> omega)) _))⟩
  case round =>
    obtain ⟨i, rfl, hi, hall, hB⟩ := hrel
    have HA := Lib.hid hall
    have hz := hB.size
    clear hall
    by_cases hlt : i < L.length
    · obtain ⟨b, off, rfl, hb, hcl⟩ := HC.out (by omega)
      obtain ⟨e1, e2⟩ := hcl i hlt
      rw [← hB.cell (p := ⟨b, off + i * 2, none⟩) hb] at e1
      rw [← hB.cell (p := ⟨b, off + i * 2 + 1, none⟩) hb] at e2
      have hcall := HF.out L[i] (List.getElem_mem hlt) wr hB
      have HYES := Lib.hid (show p L[i] = true → IdxIs p L i from fun h => .inr ⟨i, rfl, hlt, h, HA.out⟩)
      have HNO := Lib.hid (show p L[i] = false → ∀ j (h : j < L.length), j < i + 1 → p L[j] = false from fun h j hj hji => by
        by_cases e : j = i
        · subst e; exact h
        · exact HA.out j hj (by omega))
      obtain ⟨⟨n, x⟩, hf⟩ : ∃ f, L[i] = f := ⟨_, rfl⟩
      rw [hf] at e1 e2 hcall HYES HNO
      obtain ⟨y, hy⟩ : ∃ y, p (n, x) = y := ⟨_, rfl⟩
      rw [hy] at hcall HYES HNO
      have hcall : Calls Tryz.prog fn (#[.agg #[.string (S n), .string (S x)]] ++ lb) wr fun e w' => e = .returned (.bool y) ∧ Below wr.heap.size wr w' := hcall
      simp only at e1 e2
      clear hcl hf hy
      cases y with
      | true =>
        go_wp2_with (go_at_fn fn; refine hcall.mono ?_; rintro e w' ⟨rfl, hb1⟩)
        go_ret
        exact ⟨_, rfl, HYES.out trivial, hB.trans (hb1.mono hz)⟩
      | false =>
        go_wp2_with (go_at_fn fn; refine hcall.mono ?_; rintro e w' ⟨rfl, hb1⟩)
        go_roundw
        case rel => exact ⟨i + 1, by go_num, by omega, HNO.out trivial, hB.trans (hb1.mono hz)⟩
        case measure => simp [intOf]; omega
    · have H := Lib.hid (show IdxIs p L (-1) from .inl ⟨rfl, fun j hj => HA.out j hj (by omega)⟩)
      go_wp2
      go_ret
      exact ⟨_, rfl, H.out, hB⟩


theorem IdxIs.find {p : Fld → Bool} {L : List Fld} {r : Int} (h : IdxIs p L r) : (r = -1 ∧ L.find? p = none) ∨ ∃ i : Nat, r = i ∧ ∃ h : i < L.length, L.find? p = some L[i] := by
  rcases h with ⟨rfl, h⟩ | ⟨i, rfl, hi, h1, h2⟩
  · refine .inl ⟨rfl, List.find?_eq_none.2 fun f hf => ?_⟩
    obtain ⟨j, hj, rfl⟩ := List.getElem_of_mem hf
    simp [h j hj]
  · refine .inr ⟨i, rfl, hi, ?_⟩
    rw [List.find?_eq_some_iff_getElem]
    exact ⟨h1, i, hi, rfl, fun j hj => by simp [h2 j (by omega) hj]⟩

/-- The closure that tells a name, its variable in block g. -/
def isNamed (g : Nat) : Value := .func (.func 64) #[] #[.pointer (some ⟨g, 0, none⟩)]

theorem named (m : List UInt8) (w : World) : Calls Tryz.prog 38 #[.string (S m)] w fun e w' =>
    e = .returned (isNamed w.heap.size) ∧ w'.cell? ⟨w.heap.size, 0, none⟩ = some (.string (S m)) ∧ w.heap.size < w'.heap.size ∧ Below w.heap.size w w' := by
  unfold isNamed
  go_enter Tryz.func38, Tryz.ntmps38
  go_wp2
  go_ret
  exact ⟨rfl, by simp, by simp, by (repeat (first | (with_reducible exact Below.refl _ _) | (with_reducible assumption) | (with_reducible refine Below.drew ?_) | (focus ((with_reducible refine Below.setCell ?_ ?_ _); rotate_left; (first | omega | (simp <;> omega)))) | (focus ((with_reducible refine Below.alloc ?_ ?_ _); rotate_left; (first | omega | (simp <;> omega)))) | exact Below.refl _ _ | assumption | refine Below.drew ?_ | refine Below.alloc ?_ (by first | omega | (simp <;> omega)) _ | refine Below.setCell ?_ (by first | omega | (simp <;> omega)) _))⟩

theorem named1 (f : Fld) (hf : Small f) (g : Nat) (m : List UInt8) (hm : m.length ≤ 4611686018427387903) (w : World) (hc : w.cell? ⟨g, 0, none⟩ = some (.string (S m))) (hg : g < w.heap.size) :
    Calls Tryz.prog 64 #[fv f, .pointer (some ⟨g, 0, none⟩)] w fun e w' => e = .returned (.bool (sameN f.1 m)) ∧ Below w.heap.size w w' := by
  obtain ⟨n, v⟩ := f
  have C := Lib.hid (fun W => textSame n m (by have := hf.1; simp only at this; omega) (by omega) W)
  unfold fv sameN
  simp only
  have hfar := far hg
  obtain ⟨b, hb⟩ : ∃ b, (lower n == lower m) = b := ⟨_, rfl⟩
  rw [hb] at C ⊢
  clear hb hf hm
  go_enter Tryz.func64, Tryz.ntmps64
  go_wp2_with (go_at_call 39; refine (C.out _).mono ?_; rintro e w1 ⟨rfl, hb⟩; have hbw := Below.trans (show Below w.heap.size w _ by (repeat (first | (with_reducible exact Below.refl _ _) | (with_reducible assumption) | (with_reducible refine Below.drew ?_) | (focus ((with_reducible refine Below.setCell ?_ ?_ _); rotate_left; (first | omega | (simp <;> omega)))) | (focus ((with_reducible refine Below.alloc ?_ ?_ _); rotate_left; (first | omega | (simp <;> omega)))) | exact Below.refl _ _ | assumption | refine Below.drew ?_ | refine Below.alloc ?_ (by first | omega | (simp <;> omega)) _ | refine Below.setCell ?_ (by first | omega | (simp <;> omega)) _))) (hb.mono (by (first | omega | (simp <;> omega)))))
  go_ret
  exact ⟨rfl, hbw⟩

/-- Where a row has a name. -/
theorem idxNamed (v : Value) (L : List Fld) (g : Nat) (m : List UInt8) (hm : m.length ≤ 4611686018427387903) (W : World) (hr : ReadsF W v L) (hs : ∀ f ∈ L, Small f) (hc : W.cell? ⟨g, 0, none⟩ = some (.string (S m))) (hg : g < W.heap.size) :
    Calls Tryz.prog 37 #[v, isNamed g] W fun e w' => ∃ r, e = .returned (.int .i64 r) ∧ IdxIs (fun f => sameN f.1 m) L r ∧ Below W.heap.size W w' :=
  idxFld 64 #[.pointer (some ⟨g, 0, none⟩)] (fun f => sameN f.1 m) (enters_of Tryz.func64 (by kernel_rfl) rfl) v L W hr
    (fun f hf W' hb => named1 f (hs f hf) g m hm W' (by rw [hb.cell (p := ⟨g, 0, none⟩) hg]; exact hc) (Nat.lt_of_lt_of_le hg hb.size))

/-- What getting gives. -/
def getV (L : List Fld) (m : List UInt8) : List UInt8 × Bool := match L.find? (fun f => sameN f.1 m) with
  | some f => (f.2, true)
  | none => ([], false)

set_option maxHeartbeats 1600000 in
set_option maxRecDepth 100000 in
theorem tableGet (v : Value) (L : List Fld) (m : List UInt8) (hm : m.length ≤ 4611686018427387903) (w : World) (hr : ReadsF w v L) (hs : ∀ f ∈ L, Small f) :
    Calls Tryz.prog 21 #[v, .string (S m)] w fun e w' => e = .returned (.tuple #[.string (S (getV L m).1), .bool (getV L m).2]) ∧ Below w.heap.size w w' := by
  have C := Lib.hid (fun W (hb : Below w.heap.size w W) g hc hg => idxNamed v L g m hm W (hr.below hb) hs hc hg)
  have HR := Lib.hid hr
  obtain ⟨ao, cap, rfl, hc1, hc2, _, _⟩ := hr
  have hm' : maxLen = 9223372036854775807 := rfl
  rw [hm'] at hc2
  clear hm' hs hm
  have h0 := Below.refl w.heap.size w
  go_enter Tryz.func21, Tryz.ntmps21
  go_wp2_with fail
  refine (named m w).mono ?_
  rintro e w1 ⟨rfl, hcell, hlt, hb1⟩
  go_wp2_with fail
  refine (C.out w1 hb1 w.heap.size hcell hlt).mono ?_
  rintro e w2 ⟨r, rfl, hr, hb2⟩
  have hb := hb1.trans (hb2.mono (Nat.le_of_lt hlt))
  rcases hr.find with ⟨rfl, hf⟩ | ⟨i, rfl, hi, hf⟩
  · have e : getV L m = ([], false) := by unfold getV; rw [hf]
    have E := Lib.hid e
    clear e hf hr
    go_wp2
    go_ret2
    exact ⟨by rw [E.out]; rfl, hb⟩
  · have e : getV L m = (L[i].2, true) := by unfold getV; rw [hf]
    have E := Lib.hid e
    obtain ⟨ao', cap', e1, _, _, _, hcl⟩ := HR.out.below hb
    injection e1 with e2 e3 e4
    subst e2
    obtain ⟨b, off, rfl, hbb, hcc⟩ := hcl (by omega)
    obtain ⟨f1, f2⟩ := hcc i hi
    clear e hf hr hcc hcl
    go_wp2
    go_ret2
    exact ⟨by rw [E.out]; rfl, hb⟩

end Go.Proofs.YtgjemgilanhdiaaGreatDoor
namespace Go.Proofs.YtgjemgilanhdiaaGreatDoor
open Go.RowKit Go.Sort Go.Shelf
set_option linter.unusedVariables false
set_option linter.unusedSimpArgs false

theorem askR_no {L : List Rt} {s : St} {h : List UInt8} (hn : ¬ (rightRt L = true ∧ startOk s = true ∧ s.c = 0)) : askR L s h = (UU.nil, [], 1) := by unfold askR; rw [if_neg hn]
theorem askR_yes {L : List Rt} {s : St} {h : List UInt8} (hy : rightRt L = true ∧ startOk s = true ∧ s.c = 0) {q : List UInt8} (hq : askT s.t h = q) {u : UU} {e : Int} (hp : parseL q = (u, e)) {o : List UInt8} {g : Int} (hf : findR L u.h u.p = (o, g)) :
    askR L s h = if e ≠ 0 then (UU.nil, [], 20) else if g ≠ 0 then (UU.nil, [], g) else (u, o, 0) := by
  unfold askR
  rw [if_pos hy, hq, hp]
  simp only
  rw [hf]
def askV (x : UU × List UInt8 × Int) : Value := .tuple #[x.1.v, .string (S x.2.1), .int .i64 x.2.2]
theorem getV_len {F : List Fld} {n : List UInt8} {K : Nat} (hfs : ∀ f ∈ F, f.2.length ≤ K) : (getV F n).1.length ≤ K := by
  unfold getV
  cases hf : F.find? (fun f => sameN f.1 n) with
  | none => simp
  | some f => exact hfs f (List.mem_of_find?_eq_some hf)

end Go.Proofs.YtgjemgilanhdiaaGreatDoor
namespace Go.Proofs.YtgjemgilanhdiaaGreatDoor
open Go.RowKit Go.Sort Go.Shelf
set_option linter.unusedVariables false
set_option linter.unusedSimpArgs false

set_option maxHeartbeats 6400000 in
set_option maxRecDepth 100000 in
theorem routeAsk_no (v : Value) (L : List Wrd) (s : St) (fv : Value) (F : List Fld) (bo : List UInt8) (w : World) (hr : ReadsW w v L) (hl : ∀ f ∈ L, f.1.length ≤ 900 ∧ f.2.1.length ≤ 900 ∧ f.2.2.length ≤ 900) (hn : L.length ≤ 1000000)
    (hfr : ReadsF w fv F) (hfs : ∀ f ∈ F, f.1.length ≤ 140737488351232 ∧ f.2.length ≤ 140737488351232) (h1 : s.m.length ≤ 140737488351232) (h2 : s.t.length ≤ 140737488351232) (h3 : s.r.length ≤ 140737488351232) (hLd : Laid w)
    (hSR : ∀ W, Calls Tryz.prog 20 #[.agg #[.string (S s.m), .string (S s.t), .int .i64 s.c, .string (S s.r), .int .i64 s.n]] W fun e w' => e = .returned (.bool (startOk s)) ∧ Below W.heap.size W w') (hno : ¬ (rightRt L = true ∧ startOk s = true ∧ s.c = 0)) :
    Calls Tryz.prog 7 #[v, .agg #[.string (S s.m), .string (S s.t), .int .i64 s.c, .string (S s.r), .int .i64 s.n, fv, .string (S bo)]] w fun e w' => e = .returned (askV (askR L s (getV F [72, 111, 115, 116]).1)) ∧ Below w.heap.size w w' := by
  have hgl := getV_len (F := F) (n := [72, 111, 115, 116]) (fun f hf => (hfs f hf).2)
  have RR := Lib.hid (fun W (hb : Below w.heap.size w W) => routesRight v L W (hr.below hb) hl hn (hLd.on hb))
  have SR := Lib.hid hSR
  clear hSR
  have TG := Lib.hid (fun W (hb : Below w.heap.size w W) => tableGet fv F [72, 111, 115, 116] (by decide) W (hfr.below hb) (fun f hf => by have := hfs f hf; unfold Small; omega))
  have UP := Lib.hid (fun (q : List UInt8) (hq : q.length ≤ 4611686018427387903) W (hb : Below w.heap.size w W) => uriParse q hq W (hLd.on hb))
  have FI := Lib.hid (fun (h p : List UInt8) W (hb : Below w.heap.size w W) => routeFind v L h p W (hr.below hb) hl hn (hLd.on hb))
  obtain ⟨ao, cap, rfl, _⟩ := hr
  obtain ⟨fo, fcap, rfl, _⟩ := hfr
  have HNO := Lib.hid (fun h => askR_no (L := L) (s := s) (h := (getV F [72, 111, 115, 116]).1) h)
  have HYES := Lib.hid (fun hy (q : List UInt8) hq (u : UU) (e : Int) hp (o : List UInt8) (g : Int) hf => askR_yes (L := L) (s := s) (h := (getV F [72, 111, 115, 116]).1) hy (q := q) hq (u := u) (e := e) hp (o := o) (g := g) hf)
  obtain ⟨⟨h, hb⟩, hgv⟩ : ∃ x, getV F [72, 111, 115, 116] = x := ⟨_, rfl⟩
  rw [hgv] at TG HNO HYES hgl ⊢
  simp only at TG HNO HYES hgl ⊢
  obtain ⟨R, hR⟩ : ∃ x, rightRt L = x := ⟨_, rfl⟩
  obtain ⟨K, hK⟩ : ∃ x, startOk s = x := ⟨_, rfl⟩
  obtain ⟨A, hA⟩ : ∃ x, askR L s h = x := ⟨_, rfl⟩
  rw [hR] at RR
  rw [hK] at SR
  rw [hR, hK] at hno
  rw [hR, hK, hA] at HNO HYES
  rw [hA]
  obtain ⟨m, t, c, r, n⟩ := s
  simp only at *
  clear hgv hR hK hA hl hfs hLd h3 h1
  have h2i : (t.length : Int) ≤ 140737488351232 := by omega
  have hgi : (h.length : Int) ≤ 140737488351232 := by omega
  clear HYES TG UP FI
  cases R with
  | false =>
    clear SR
    obtain rfl : A = (UU.nil, [], 1) := HNO.out (by simp)
    go_enter Tryz.func7, Tryz.ntmps7
    go_wp2_with fail
    refine Calls.mono (RR.out _ (by (repeat (first | (with_reducible exact Below.refl _ _) | (with_reducible assumption) | (with_reducible refine Below.drew ?_) | (focus ((with_reducible refine Below.setCell ?_ ?_ _); rotate_left; (first | omega | (simp <;> omega)))) | (focus ((with_reducible refine Below.alloc ?_ ?_ _); rotate_left; (first | omega | (simp <;> omega)))) | exact Below.refl _ _ | assumption | refine Below.drew ?_ | refine Below.alloc ?_ (by first | omega | (simp <;> omega)) _ | refine Below.setCell ?_ (by first | omega | (simp <;> omega)) _)))) ?_
    rintro e w1 ⟨rfl, hb_w1⟩
    have hz_w1 := hb_w1.size
    try simp at hz_w1
    obtain ⟨c_w1_w_0, f_w1_w_0⟩ := bk hb_w1 (w.heap.size) (by first | omega | (simp <;> omega))
    have c_w1_w_0_0 := c_w1_w_0 0
    conv at c_w1_w_0_0 => rhs; simp [go_sem, *]
    have f_w1_w_0_0 := f_w1_w_0 0
    conv at f_w1_w_0_0 => rhs; simp [go_sem, *]
    have c_w1_w_0_1 := c_w1_w_0 1
    conv at c_w1_w_0_1 => rhs; simp [go_sem, *]
    have f_w1_w_0_1 := f_w1_w_0 1
    conv at f_w1_w_0_1 => rhs; simp [go_sem, *]
    have c_w1_w_0_2 := c_w1_w_0 2
    conv at c_w1_w_0_2 => rhs; simp [go_sem, *]
    have f_w1_w_0_2 := f_w1_w_0 2
    conv at f_w1_w_0_2 => rhs; simp [go_sem, *]
    have c_w1_w_0_3 := c_w1_w_0 3
    conv at c_w1_w_0_3 => rhs; simp [go_sem, *]
    have f_w1_w_0_3 := f_w1_w_0 3
    conv at f_w1_w_0_3 => rhs; simp [go_sem, *]
    have c_w1_w_0_4 := c_w1_w_0 4
    conv at c_w1_w_0_4 => rhs; simp [go_sem, *]
    have f_w1_w_0_4 := f_w1_w_0 4
    conv at f_w1_w_0_4 => rhs; simp [go_sem, *]
    have c_w1_w_0_5 := c_w1_w_0 5
    conv at c_w1_w_0_5 => rhs; simp [go_sem, *]
    have f_w1_w_0_5 := f_w1_w_0 5
    conv at f_w1_w_0_5 => rhs; simp [go_sem, *]
    have c_w1_w_0_6 := c_w1_w_0 6
    conv at c_w1_w_0_6 => rhs; simp [go_sem, *]
    have f_w1_w_0_6 := f_w1_w_0 6
    conv at f_w1_w_0_6 => rhs; simp [go_sem, *]
    obtain ⟨c_w1_w_1, f_w1_w_1⟩ := bk hb_w1 (w.heap.size + 1) (by first | omega | (simp <;> omega))
    have c_w1_w_1_0 := c_w1_w_1 0
    conv at c_w1_w_1_0 => rhs; simp [go_sem, *]
    have f_w1_w_1_0 := f_w1_w_1 0
    conv at f_w1_w_1_0 => rhs; simp [go_sem, *]
    have c_w1_w_1_1 := c_w1_w_1 1
    conv at c_w1_w_1_1 => rhs; simp [go_sem, *]
    have f_w1_w_1_1 := f_w1_w_1 1
    conv at f_w1_w_1_1 => rhs; simp [go_sem, *]
    have c_w1_w_1_2 := c_w1_w_1 2
    conv at c_w1_w_1_2 => rhs; simp [go_sem, *]
    have f_w1_w_1_2 := f_w1_w_1 2
    conv at f_w1_w_1_2 => rhs; simp [go_sem, *]
    have c_w1_w_1_3 := c_w1_w_1 3
    conv at c_w1_w_1_3 => rhs; simp [go_sem, *]
    have f_w1_w_1_3 := f_w1_w_1 3
    conv at f_w1_w_1_3 => rhs; simp [go_sem, *]
    have c_w1_w_1_4 := c_w1_w_1 4
    conv at c_w1_w_1_4 => rhs; simp [go_sem, *]
    have f_w1_w_1_4 := f_w1_w_1 4
    conv at f_w1_w_1_4 => rhs; simp [go_sem, *]
    have c_w1_w_1_5 := c_w1_w_1 5
    conv at c_w1_w_1_5 => rhs; simp [go_sem, *]
    have f_w1_w_1_5 := f_w1_w_1 5
    conv at f_w1_w_1_5 => rhs; simp [go_sem, *]
    have HH_w1 := Lib.hid hb_w1
    have hB_w1 : Below w.heap.size w w1 := Below.trans (by (repeat (first | (with_reducible exact Below.refl _ _) | (with_reducible assumption) | (with_reducible refine Below.drew ?_) | (focus ((with_reducible refine Below.setCell ?_ ?_ _); rotate_left; (first | omega | (simp <;> omega)))) | (focus ((with_reducible refine Below.alloc ?_ ?_ _); rotate_left; (first | omega | (simp <;> omega)))) | exact Below.refl _ _ | assumption | refine Below.drew ?_ | refine Below.alloc ?_ (by first | omega | (simp <;> omega)) _ | refine Below.setCell ?_ (by first | omega | (simp <;> omega)) _))) (hb_w1.mono (by first | omega | (simp <;> omega)))
    clear hb_w1 c_w1_w_0 f_w1_w_0 c_w1_w_1 f_w1_w_1
    have far_w1_w_0 := far (show w.heap.size < w1.heap.size by omega)
    have far_w1_w_1 := far (show w.heap.size + 1 < w1.heap.size by omega)
    go_wp2
    refine bodyPost_ret (v := .tuple #[uv false [] 0 [] false [], .string (S []), .int .i64 1]) (by simp [results, Tryz.results7, go_sem, *]) rfl ⟨rfl, ?_⟩
    (repeat (first | (with_reducible exact Below.refl _ _) | (with_reducible assumption) | (with_reducible refine Below.drew ?_) | (focus ((with_reducible refine Below.setCell ?_ ?_ _); rotate_left; (first | omega | (simp <;> omega)))) | (focus ((with_reducible refine Below.alloc ?_ ?_ _); rotate_left; (first | omega | (simp <;> omega)))) | exact Below.refl _ _ | assumption | refine Below.drew ?_ | refine Below.alloc ?_ (by first | omega | (simp <;> omega)) _ | refine Below.setCell ?_ (by first | omega | (simp <;> omega)) _))
  | true =>
    cases K with
    | false =>
      obtain rfl : A = (UU.nil, [], 1) := HNO.out (by simp)
      go_enter Tryz.func7, Tryz.ntmps7
      go_wp2_with fail
      refine Calls.mono (RR.out _ (by (repeat (first | (with_reducible exact Below.refl _ _) | (with_reducible assumption) | (with_reducible refine Below.drew ?_) | (focus ((with_reducible refine Below.setCell ?_ ?_ _); rotate_left; (first | omega | (simp <;> omega)))) | (focus ((with_reducible refine Below.alloc ?_ ?_ _); rotate_left; (first | omega | (simp <;> omega)))) | exact Below.refl _ _ | assumption | refine Below.drew ?_ | refine Below.alloc ?_ (by first | omega | (simp <;> omega)) _ | refine Below.setCell ?_ (by first | omega | (simp <;> omega)) _)))) ?_
      rintro e w1 ⟨rfl, hb_w1⟩
      have hz_w1 := hb_w1.size
      try simp at hz_w1
      obtain ⟨c_w1_w_0, f_w1_w_0⟩ := bk hb_w1 (w.heap.size) (by first | omega | (simp <;> omega))
      have c_w1_w_0_0 := c_w1_w_0 0
      conv at c_w1_w_0_0 => rhs; simp [go_sem, *]
      have f_w1_w_0_0 := f_w1_w_0 0
      conv at f_w1_w_0_0 => rhs; simp [go_sem, *]
      have c_w1_w_0_1 := c_w1_w_0 1
      conv at c_w1_w_0_1 => rhs; simp [go_sem, *]
      have f_w1_w_0_1 := f_w1_w_0 1
      conv at f_w1_w_0_1 => rhs; simp [go_sem, *]
      have c_w1_w_0_2 := c_w1_w_0 2
      conv at c_w1_w_0_2 => rhs; simp [go_sem, *]
      have f_w1_w_0_2 := f_w1_w_0 2
      conv at f_w1_w_0_2 => rhs; simp [go_sem, *]
      have c_w1_w_0_3 := c_w1_w_0 3
      conv at c_w1_w_0_3 => rhs; simp [go_sem, *]
      have f_w1_w_0_3 := f_w1_w_0 3
      conv at f_w1_w_0_3 => rhs; simp [go_sem, *]
      have c_w1_w_0_4 := c_w1_w_0 4
      conv at c_w1_w_0_4 => rhs; simp [go_sem, *]
      have f_w1_w_0_4 := f_w1_w_0 4
      conv at f_w1_w_0_4 => rhs; simp [go_sem, *]
      have c_w1_w_0_5 := c_w1_w_0 5
      conv at c_w1_w_0_5 => rhs; simp [go_sem, *]
      have f_w1_w_0_5 := f_w1_w_0 5
      conv at f_w1_w_0_5 => rhs; simp [go_sem, *]
      have c_w1_w_0_6 := c_w1_w_0 6
      conv at c_w1_w_0_6 => rhs; simp [go_sem, *]
      have f_w1_w_0_6 := f_w1_w_0 6
      conv at f_w1_w_0_6 => rhs; simp [go_sem, *]
      obtain ⟨c_w1_w_1, f_w1_w_1⟩ := bk hb_w1 (w.heap.size + 1) (by first | omega | (simp <;> omega))
      have c_w1_w_1_0 := c_w1_w_1 0
      conv at c_w1_w_1_0 => rhs; simp [go_sem, *]
      have f_w1_w_1_0 := f_w1_w_1 0
      conv at f_w1_w_1_0 => rhs; simp [go_sem, *]
      have c_w1_w_1_1 := c_w1_w_1 1
      conv at c_w1_w_1_1 => rhs; simp [go_sem, *]
      have f_w1_w_1_1 := f_w1_w_1 1
      conv at f_w1_w_1_1 => rhs; simp [go_sem, *]
      have c_w1_w_1_2 := c_w1_w_1 2
      conv at c_w1_w_1_2 => rhs; simp [go_sem, *]
      have f_w1_w_1_2 := f_w1_w_1 2
      conv at f_w1_w_1_2 => rhs; simp [go_sem, *]
      have c_w1_w_1_3 := c_w1_w_1 3
      conv at c_w1_w_1_3 => rhs; simp [go_sem, *]
      have f_w1_w_1_3 := f_w1_w_1 3
      conv at f_w1_w_1_3 => rhs; simp [go_sem, *]
      have c_w1_w_1_4 := c_w1_w_1 4
      conv at c_w1_w_1_4 => rhs; simp [go_sem, *]
      have f_w1_w_1_4 := f_w1_w_1 4
      conv at f_w1_w_1_4 => rhs; simp [go_sem, *]
      have c_w1_w_1_5 := c_w1_w_1 5
      conv at c_w1_w_1_5 => rhs; simp [go_sem, *]
      have f_w1_w_1_5 := f_w1_w_1 5
      conv at f_w1_w_1_5 => rhs; simp [go_sem, *]
      have HH_w1 := Lib.hid hb_w1
      have hB_w1 : Below w.heap.size w w1 := Below.trans (by (repeat (first | (with_reducible exact Below.refl _ _) | (with_reducible assumption) | (with_reducible refine Below.drew ?_) | (focus ((with_reducible refine Below.setCell ?_ ?_ _); rotate_left; (first | omega | (simp <;> omega)))) | (focus ((with_reducible refine Below.alloc ?_ ?_ _); rotate_left; (first | omega | (simp <;> omega)))) | exact Below.refl _ _ | assumption | refine Below.drew ?_ | refine Below.alloc ?_ (by first | omega | (simp <;> omega)) _ | refine Below.setCell ?_ (by first | omega | (simp <;> omega)) _))) (hb_w1.mono (by first | omega | (simp <;> omega)))
      clear hb_w1 c_w1_w_0 f_w1_w_0 c_w1_w_1 f_w1_w_1
      have far_w1_w_0 := far (show w.heap.size < w1.heap.size by omega)
      have far_w1_w_1 := far (show w.heap.size + 1 < w1.heap.size by omega)
      go_wp2_with fail
      refine Calls.mono (SR.out _) ?_
      rintro e w2 ⟨rfl, hb_w2⟩
      have hz_w2 := hb_w2.size
      try simp at hz_w2
      obtain ⟨c_w2_w_0, f_w2_w_0⟩ := bk hb_w2 (w.heap.size) (by first | omega | (simp <;> omega))
      have c_w2_w_0_0 := c_w2_w_0 0
      conv at c_w2_w_0_0 => rhs; simp [go_sem, *]
      have f_w2_w_0_0 := f_w2_w_0 0
      conv at f_w2_w_0_0 => rhs; simp [go_sem, *]
      have c_w2_w_0_1 := c_w2_w_0 1
      conv at c_w2_w_0_1 => rhs; simp [go_sem, *]
      have f_w2_w_0_1 := f_w2_w_0 1
      conv at f_w2_w_0_1 => rhs; simp [go_sem, *]
      have c_w2_w_0_2 := c_w2_w_0 2
      conv at c_w2_w_0_2 => rhs; simp [go_sem, *]
      have f_w2_w_0_2 := f_w2_w_0 2
      conv at f_w2_w_0_2 => rhs; simp [go_sem, *]
      have c_w2_w_0_3 := c_w2_w_0 3
      conv at c_w2_w_0_3 => rhs; simp [go_sem, *]
      have f_w2_w_0_3 := f_w2_w_0 3
      conv at f_w2_w_0_3 => rhs; simp [go_sem, *]
      have c_w2_w_0_4 := c_w2_w_0 4
      conv at c_w2_w_0_4 => rhs; simp [go_sem, *]
      have f_w2_w_0_4 := f_w2_w_0 4
      conv at f_w2_w_0_4 => rhs; simp [go_sem, *]
      have c_w2_w_0_5 := c_w2_w_0 5
      conv at c_w2_w_0_5 => rhs; simp [go_sem, *]
      have f_w2_w_0_5 := f_w2_w_0 5
      conv at f_w2_w_0_5 => rhs; simp [go_sem, *]
      have c_w2_w_0_6 := c_w2_w_0 6
      conv at c_w2_w_0_6 => rhs; simp [go_sem, *]
      have f_w2_w_0_6 := f_w2_w_0 6
      conv at f_w2_w_0_6 => rhs; simp [go_sem, *]
      obtain ⟨c_w2_w_1, f_w2_w_1⟩ := bk hb_w2 (w.heap.size + 1) (by first | omega | (simp <;> omega))
      have c_w2_w_1_0 := c_w2_w_1 0
      conv at c_w2_w_1_0 => rhs; simp [go_sem, *]
      have f_w2_w_1_0 := f_w2_w_1 0
      conv at f_w2_w_1_0 => rhs; simp [go_sem, *]
      have c_w2_w_1_1 := c_w2_w_1 1
      conv at c_w2_w_1_1 => rhs; simp [go_sem, *]
      have f_w2_w_1_1 := f_w2_w_1 1
      conv at f_w2_w_1_1 => rhs; simp [go_sem, *]
      have c_w2_w_1_2 := c_w2_w_1 2
      conv at c_w2_w_1_2 => rhs; simp [go_sem, *]
      have f_w2_w_1_2 := f_w2_w_1 2
      conv at f_w2_w_1_2 => rhs; simp [go_sem, *]
      have c_w2_w_1_3 := c_w2_w_1 3
      conv at c_w2_w_1_3 => rhs; simp [go_sem, *]
      have f_w2_w_1_3 := f_w2_w_1 3
      conv at f_w2_w_1_3 => rhs; simp [go_sem, *]
      have c_w2_w_1_4 := c_w2_w_1 4
      conv at c_w2_w_1_4 => rhs; simp [go_sem, *]
      have f_w2_w_1_4 := f_w2_w_1 4
      conv at f_w2_w_1_4 => rhs; simp [go_sem, *]
      have c_w2_w_1_5 := c_w2_w_1 5
      conv at c_w2_w_1_5 => rhs; simp [go_sem, *]
      have f_w2_w_1_5 := f_w2_w_1 5
      conv at f_w2_w_1_5 => rhs; simp [go_sem, *]
      have HH_w2 := Lib.hid hb_w2
      have hB_w2 : Below w.heap.size w w2 := Below.trans (by (repeat (first | (with_reducible exact Below.refl _ _) | (with_reducible assumption) | (with_reducible refine Below.drew ?_) | (focus ((with_reducible refine Below.setCell ?_ ?_ _); rotate_left; (first | omega | (simp <;> omega)))) | (focus ((with_reducible refine Below.alloc ?_ ?_ _); rotate_left; (first | omega | (simp <;> omega)))) | exact Below.refl _ _ | assumption | refine Below.drew ?_ | refine Below.alloc ?_ (by first | omega | (simp <;> omega)) _ | refine Below.setCell ?_ (by first | omega | (simp <;> omega)) _))) (hb_w2.mono (by first | omega | (simp <;> omega)))
      clear hb_w2 c_w2_w_0 f_w2_w_0 c_w2_w_1 f_w2_w_1
      try clear c_w1_w_0_0
      try clear f_w1_w_0_0
      try clear c_w1_w_0_1
      try clear f_w1_w_0_1
      try clear c_w1_w_0_2
      try clear f_w1_w_0_2
      try clear c_w1_w_0_3
      try clear f_w1_w_0_3
      try clear c_w1_w_0_4
      try clear f_w1_w_0_4
      try clear c_w1_w_0_5
      try clear f_w1_w_0_5
      try clear c_w1_w_0_6
      try clear f_w1_w_0_6
      try clear c_w1_w_1_0
      try clear f_w1_w_1_0
      try clear c_w1_w_1_1
      try clear f_w1_w_1_1
      try clear c_w1_w_1_2
      try clear f_w1_w_1_2
      try clear c_w1_w_1_3
      try clear f_w1_w_1_3
      try clear c_w1_w_1_4
      try clear f_w1_w_1_4
      try clear c_w1_w_1_5
      try clear f_w1_w_1_5
      try clear far_w1_w_0
      try clear far_w1_w_1
      try clear hB_w1
      have far_w2_w_0 := far (show w.heap.size < w2.heap.size by omega)
      have far_w2_w_1 := far (show w.heap.size + 1 < w2.heap.size by omega)
      go_wp2
      refine bodyPost_ret (v := .tuple #[uv false [] 0 [] false [], .string (S []), .int .i64 1]) (by simp [results, Tryz.results7, go_sem, *]) rfl ⟨rfl, ?_⟩
      (repeat (first | (with_reducible exact Below.refl _ _) | (with_reducible assumption) | (with_reducible refine Below.drew ?_) | (focus ((with_reducible refine Below.setCell ?_ ?_ _); rotate_left; (first | omega | (simp <;> omega)))) | (focus ((with_reducible refine Below.alloc ?_ ?_ _); rotate_left; (first | omega | (simp <;> omega)))) | exact Below.refl _ _ | assumption | refine Below.drew ?_ | refine Below.alloc ?_ (by first | omega | (simp <;> omega)) _ | refine Below.setCell ?_ (by first | omega | (simp <;> omega)) _))
    | true =>
      have hc : c ≠ 0 := fun h => hno ⟨rfl, rfl, h⟩
      have hc1 : (c == 0) = false := by simpa using hc
      have hc2 : (c != 0) = true := by unfold bne; rw [hc1]; rfl
      clear hno
      obtain rfl : A = (UU.nil, [], 1) := HNO.out (by simp [hc])
      go_enter Tryz.func7, Tryz.ntmps7
      go_wp2_with fail
      refine Calls.mono (RR.out _ (by (repeat (first | (with_reducible exact Below.refl _ _) | (with_reducible assumption) | (with_reducible refine Below.drew ?_) | (focus ((with_reducible refine Below.setCell ?_ ?_ _); rotate_left; (first | omega | (simp <;> omega)))) | (focus ((with_reducible refine Below.alloc ?_ ?_ _); rotate_left; (first | omega | (simp <;> omega)))) | exact Below.refl _ _ | assumption | refine Below.drew ?_ | refine Below.alloc ?_ (by first | omega | (simp <;> omega)) _ | refine Below.setCell ?_ (by first | omega | (simp <;> omega)) _)))) ?_
      rintro e w1 ⟨rfl, hb_w1⟩
      have hz_w1 := hb_w1.size
      try simp at hz_w1
      obtain ⟨c_w1_w_0, f_w1_w_0⟩ := bk hb_w1 (w.heap.size) (by first | omega | (simp <;> omega))
      have c_w1_w_0_0 := c_w1_w_0 0
      conv at c_w1_w_0_0 => rhs; simp [go_sem, *]
      have f_w1_w_0_0 := f_w1_w_0 0
      conv at f_w1_w_0_0 => rhs; simp [go_sem, *]
      have c_w1_w_0_1 := c_w1_w_0 1
      conv at c_w1_w_0_1 => rhs; simp [go_sem, *]
      have f_w1_w_0_1 := f_w1_w_0 1
      conv at f_w1_w_0_1 => rhs; simp [go_sem, *]
      have c_w1_w_0_2 := c_w1_w_0 2
      conv at c_w1_w_0_2 => rhs; simp [go_sem, *]
      have f_w1_w_0_2 := f_w1_w_0 2
      conv at f_w1_w_0_2 => rhs; simp [go_sem, *]
      have c_w1_w_0_3 := c_w1_w_0 3
      conv at c_w1_w_0_3 => rhs; simp [go_sem, *]
      have f_w1_w_0_3 := f_w1_w_0 3
      conv at f_w1_w_0_3 => rhs; simp [go_sem, *]
      have c_w1_w_0_4 := c_w1_w_0 4
      conv at c_w1_w_0_4 => rhs; simp [go_sem, *]
      have f_w1_w_0_4 := f_w1_w_0 4
      conv at f_w1_w_0_4 => rhs; simp [go_sem, *]
      have c_w1_w_0_5 := c_w1_w_0 5
      conv at c_w1_w_0_5 => rhs; simp [go_sem, *]
      have f_w1_w_0_5 := f_w1_w_0 5
      conv at f_w1_w_0_5 => rhs; simp [go_sem, *]
      have c_w1_w_0_6 := c_w1_w_0 6
      conv at c_w1_w_0_6 => rhs; simp [go_sem, *]
      have f_w1_w_0_6 := f_w1_w_0 6
      conv at f_w1_w_0_6 => rhs; simp [go_sem, *]
      obtain ⟨c_w1_w_1, f_w1_w_1⟩ := bk hb_w1 (w.heap.size + 1) (by first | omega | (simp <;> omega))
      have c_w1_w_1_0 := c_w1_w_1 0
      conv at c_w1_w_1_0 => rhs; simp [go_sem, *]
      have f_w1_w_1_0 := f_w1_w_1 0
      conv at f_w1_w_1_0 => rhs; simp [go_sem, *]
      have c_w1_w_1_1 := c_w1_w_1 1
      conv at c_w1_w_1_1 => rhs; simp [go_sem, *]
      have f_w1_w_1_1 := f_w1_w_1 1
      conv at f_w1_w_1_1 => rhs; simp [go_sem, *]
      have c_w1_w_1_2 := c_w1_w_1 2
      conv at c_w1_w_1_2 => rhs; simp [go_sem, *]
      have f_w1_w_1_2 := f_w1_w_1 2
      conv at f_w1_w_1_2 => rhs; simp [go_sem, *]
      have c_w1_w_1_3 := c_w1_w_1 3
      conv at c_w1_w_1_3 => rhs; simp [go_sem, *]
      have f_w1_w_1_3 := f_w1_w_1 3
      conv at f_w1_w_1_3 => rhs; simp [go_sem, *]
      have c_w1_w_1_4 := c_w1_w_1 4
      conv at c_w1_w_1_4 => rhs; simp [go_sem, *]
      have f_w1_w_1_4 := f_w1_w_1 4
      conv at f_w1_w_1_4 => rhs; simp [go_sem, *]
      have c_w1_w_1_5 := c_w1_w_1 5
      conv at c_w1_w_1_5 => rhs; simp [go_sem, *]
      have f_w1_w_1_5 := f_w1_w_1 5
      conv at f_w1_w_1_5 => rhs; simp [go_sem, *]
      have HH_w1 := Lib.hid hb_w1
      have hB_w1 : Below w.heap.size w w1 := Below.trans (by (repeat (first | (with_reducible exact Below.refl _ _) | (with_reducible assumption) | (with_reducible refine Below.drew ?_) | (focus ((with_reducible refine Below.setCell ?_ ?_ _); rotate_left; (first | omega | (simp <;> omega)))) | (focus ((with_reducible refine Below.alloc ?_ ?_ _); rotate_left; (first | omega | (simp <;> omega)))) | exact Below.refl _ _ | assumption | refine Below.drew ?_ | refine Below.alloc ?_ (by first | omega | (simp <;> omega)) _ | refine Below.setCell ?_ (by first | omega | (simp <;> omega)) _))) (hb_w1.mono (by first | omega | (simp <;> omega)))
      clear hb_w1 c_w1_w_0 f_w1_w_0 c_w1_w_1 f_w1_w_1
      try clear c_w2_w_0_0
      try clear f_w2_w_0_0
      try clear c_w2_w_0_1
      try clear f_w2_w_0_1
      try clear c_w2_w_0_2
      try clear f_w2_w_0_2
      try clear c_w2_w_0_3
      try clear f_w2_w_0_3
      try clear c_w2_w_0_4
      try clear f_w2_w_0_4
      try clear c_w2_w_0_5
      try clear f_w2_w_0_5
      try clear c_w2_w_0_6
      try clear f_w2_w_0_6
      try clear c_w2_w_1_0
      try clear f_w2_w_1_0
      try clear c_w2_w_1_1
      try clear f_w2_w_1_1
      try clear c_w2_w_1_2
      try clear f_w2_w_1_2
      try clear c_w2_w_1_3
      try clear f_w2_w_1_3
      try clear c_w2_w_1_4
      try clear f_w2_w_1_4
      try clear c_w2_w_1_5
      try clear f_w2_w_1_5
      try clear far_w2_w_0
      try clear far_w2_w_1
      try clear hB_w2
      have far_w1_w_0 := far (show w.heap.size < w1.heap.size by omega)
      have far_w1_w_1 := far (show w.heap.size + 1 < w1.heap.size by omega)
      go_wp2_with fail
      refine Calls.mono (SR.out _) ?_
      rintro e w2 ⟨rfl, hb_w2⟩
      have hz_w2 := hb_w2.size
      try simp at hz_w2
      obtain ⟨c_w2_w_0, f_w2_w_0⟩ := bk hb_w2 (w.heap.size) (by first | omega | (simp <;> omega))
      have c_w2_w_0_0 := c_w2_w_0 0
      conv at c_w2_w_0_0 => rhs; simp [go_sem, *]
      have f_w2_w_0_0 := f_w2_w_0 0
      conv at f_w2_w_0_0 => rhs; simp [go_sem, *]
      have c_w2_w_0_1 := c_w2_w_0 1
      conv at c_w2_w_0_1 => rhs; simp [go_sem, *]
      have f_w2_w_0_1 := f_w2_w_0 1
      conv at f_w2_w_0_1 => rhs; simp [go_sem, *]
      have c_w2_w_0_2 := c_w2_w_0 2
      conv at c_w2_w_0_2 => rhs; simp [go_sem, *]
      have f_w2_w_0_2 := f_w2_w_0 2
      conv at f_w2_w_0_2 => rhs; simp [go_sem, *]
      have c_w2_w_0_3 := c_w2_w_0 3
      conv at c_w2_w_0_3 => rhs; simp [go_sem, *]
      have f_w2_w_0_3 := f_w2_w_0 3
      conv at f_w2_w_0_3 => rhs; simp [go_sem, *]
      have c_w2_w_0_4 := c_w2_w_0 4
      conv at c_w2_w_0_4 => rhs; simp [go_sem, *]
      have f_w2_w_0_4 := f_w2_w_0 4
      conv at f_w2_w_0_4 => rhs; simp [go_sem, *]
      have c_w2_w_0_5 := c_w2_w_0 5
      conv at c_w2_w_0_5 => rhs; simp [go_sem, *]
      have f_w2_w_0_5 := f_w2_w_0 5
      conv at f_w2_w_0_5 => rhs; simp [go_sem, *]
      have c_w2_w_0_6 := c_w2_w_0 6
      conv at c_w2_w_0_6 => rhs; simp [go_sem, *]
      have f_w2_w_0_6 := f_w2_w_0 6
      conv at f_w2_w_0_6 => rhs; simp [go_sem, *]
      obtain ⟨c_w2_w_1, f_w2_w_1⟩ := bk hb_w2 (w.heap.size + 1) (by first | omega | (simp <;> omega))
      have c_w2_w_1_0 := c_w2_w_1 0
      conv at c_w2_w_1_0 => rhs; simp [go_sem, *]
      have f_w2_w_1_0 := f_w2_w_1 0
      conv at f_w2_w_1_0 => rhs; simp [go_sem, *]
      have c_w2_w_1_1 := c_w2_w_1 1
      conv at c_w2_w_1_1 => rhs; simp [go_sem, *]
      have f_w2_w_1_1 := f_w2_w_1 1
      conv at f_w2_w_1_1 => rhs; simp [go_sem, *]
      have c_w2_w_1_2 := c_w2_w_1 2
      conv at c_w2_w_1_2 => rhs; simp [go_sem, *]
      have f_w2_w_1_2 := f_w2_w_1 2
      conv at f_w2_w_1_2 => rhs; simp [go_sem, *]
      have c_w2_w_1_3 := c_w2_w_1 3
      conv at c_w2_w_1_3 => rhs; simp [go_sem, *]
      have f_w2_w_1_3 := f_w2_w_1 3
      conv at f_w2_w_1_3 => rhs; simp [go_sem, *]
      have c_w2_w_1_4 := c_w2_w_1 4
      conv at c_w2_w_1_4 => rhs; simp [go_sem, *]
      have f_w2_w_1_4 := f_w2_w_1 4
      conv at f_w2_w_1_4 => rhs; simp [go_sem, *]
      have c_w2_w_1_5 := c_w2_w_1 5
      conv at c_w2_w_1_5 => rhs; simp [go_sem, *]
      have f_w2_w_1_5 := f_w2_w_1 5
      conv at f_w2_w_1_5 => rhs; simp [go_sem, *]
      have HH_w2 := Lib.hid hb_w2
      have hB_w2 : Below w.heap.size w w2 := Below.trans (by (repeat (first | (with_reducible exact Below.refl _ _) | (with_reducible assumption) | (with_reducible refine Below.drew ?_) | (focus ((with_reducible refine Below.setCell ?_ ?_ _); rotate_left; (first | omega | (simp <;> omega)))) | (focus ((with_reducible refine Below.alloc ?_ ?_ _); rotate_left; (first | omega | (simp <;> omega)))) | exact Below.refl _ _ | assumption | refine Below.drew ?_ | refine Below.alloc ?_ (by first | omega | (simp <;> omega)) _ | refine Below.setCell ?_ (by first | omega | (simp <;> omega)) _))) (hb_w2.mono (by first | omega | (simp <;> omega)))
      clear hb_w2 c_w2_w_0 f_w2_w_0 c_w2_w_1 f_w2_w_1
      try clear c_w1_w_0_0
      try clear f_w1_w_0_0
      try clear c_w1_w_0_1
      try clear f_w1_w_0_1
      try clear c_w1_w_0_2
      try clear f_w1_w_0_2
      try clear c_w1_w_0_3
      try clear f_w1_w_0_3
      try clear c_w1_w_0_4
      try clear f_w1_w_0_4
      try clear c_w1_w_0_5
      try clear f_w1_w_0_5
      try clear c_w1_w_0_6
      try clear f_w1_w_0_6
      try clear c_w1_w_1_0
      try clear f_w1_w_1_0
      try clear c_w1_w_1_1
      try clear f_w1_w_1_1
      try clear c_w1_w_1_2
      try clear f_w1_w_1_2
      try clear c_w1_w_1_3
      try clear f_w1_w_1_3
      try clear c_w1_w_1_4
      try clear f_w1_w_1_4
      try clear c_w1_w_1_5
      try clear f_w1_w_1_5
      try clear far_w1_w_0
      try clear far_w1_w_1
      try clear hB_w1
      have far_w2_w_0 := far (show w.heap.size < w2.heap.size by omega)
      have far_w2_w_1 := far (show w.heap.size + 1 < w2.heap.size by omega)
      go_wp2
      refine bodyPost_ret (v := .tuple #[uv false [] 0 [] false [], .string (S []), .int .i64 1]) (by simp [results, Tryz.results7, go_sem, *]) rfl ⟨rfl, ?_⟩
      (repeat (first | (with_reducible exact Below.refl _ _) | (with_reducible assumption) | (with_reducible refine Below.drew ?_) | (focus ((with_reducible refine Below.setCell ?_ ?_ _); rotate_left; (first | omega | (simp <;> omega)))) | (focus ((with_reducible refine Below.alloc ?_ ?_ _); rotate_left; (first | omega | (simp <;> omega)))) | exact Below.refl _ _ | assumption | refine Below.drew ?_ | refine Below.alloc ?_ (by first | omega | (simp <;> omega)) _ | refine Below.setCell ?_ (by first | omega | (simp <;> omega)) _))
end Go.Proofs.YtgjemgilanhdiaaGreatDoor
