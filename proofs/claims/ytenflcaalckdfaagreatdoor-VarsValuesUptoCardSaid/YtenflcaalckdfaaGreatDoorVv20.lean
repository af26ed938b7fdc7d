/- All variables as a map of closures: the walks of vars.bare, vars.of, vars.known, vars.Value. All variables as a map of closures: the literal's region; the walks of vars.known and vars.Value. -/
import Derived.Test.YtenflcaalckdfaaGreatDoorVv19
namespace Go.Proofs.YtenflcaalckdfaaGreatDoor
open Go Go.RowKit Go.Sort Go.Shelf
set_option linter.unusedVariables false
set_option linter.unusedSimpArgs false

def ML (W : World) : Prop := ∃ m, W.cell? ⟨0, 0, none⟩ = some (.int .i64 m)
theorem ML.later {W W' : World} (h : ML W) (hb : GG W W') : ML W' := by
  obtain ⟨m, hm⟩ := h
  exact ⟨m, hb.cell hm⟩
def CloOK (W : World) (v : Value) (val : List UInt8 → List UInt8 × Bool) : Prop :=
  ∃ fn lb, v = .func (.func fn) #[] lb ∧ (∀ args w, (callFunc fn args).run Tryz.prog w = .ok (.enter fn args) w) ∧ ∀ (key : List UInt8) (W' : World), key.length ≤ 1000000 → GG W W' → ML W' →
    Calls Tryz.prog fn (#[.string (S key)] ++ lb) W' fun e w' => e = .returned (pairV (val key)) ∧ Below W'.heap.size W' w'
theorem CloOK.later {W W' : World} {v : Value} {val : List UInt8 → List UInt8 × Bool} (h : CloOK W v val) (hb : GG W W') : CloOK W' v val := by
  obtain ⟨fn, lb, h1, h2, h3⟩ := h
  exact ⟨fn, lb, h1, h2, fun key W'' hk hg hm => h3 key W'' hk (hb.trans hg) hm⟩
theorem EnvAt.later {W W' : World} {b : Nat} {e : En} (h : EnvAt W b e) (hb : GG W W') : EnvAt W' b e :=
  ⟨Nat.lt_of_lt_of_le h.lt hb.1, hb.cell h.c0, hb.cell h.c1, hb.cell h.c2, hb.cell h.c3, hb.cell h.c4, hb.cell h.c5⟩
theorem agentOK (W : World) (b : Nat) (e : En) (hf : e.few) (he : EnvAt W b e) : CloOK W (.func (.func 56) #[] #[.pointer (some ⟨b, 0, none⟩)]) (fun key => someV (agentK e.agent key)) :=
  ⟨_, _, rfl, enters_of Tryz.func56 (by kernel_rfl) rfl, fun key W' hk hg hm => agentClo b e hf key (by omega) W' (he.later hg) hm⟩
theorem cookieOK (W : World) (b : Nat) (e : En) (hf : e.few) (he : EnvAt W b e) : CloOK W (.func (.func 61) #[] #[.pointer (some ⟨b, 0, none⟩)]) (fun key => findV (cookiesL e.cookie) key) :=
  ⟨_, _, rfl, enters_of Tryz.func61 (by kernel_rfl) rfl, fun key W' hk hg hm => cookieClo2 b e hf key W' (he.later hg) hm⟩
theorem queryOK (W : World) (b : Nat) (e : En) (hf : e.few) (he : EnvAt W b e) : CloOK W (.func (.func 64) #[] #[.pointer (some ⟨b, 0, none⟩)]) (fun key => findV (queryL e.query) key) :=
  ⟨_, _, rfl, enters_of Tryz.func64 (by kernel_rfl) rfl, fun key W' hk hg hm => queryClo2 b e hf key W' (he.later hg) hm⟩
theorem langOK (W : World) (b : Nat) (e : En) (hf : e.few) (he : EnvAt W b e) : CloOK W (.func (.func 66) #[] #[.pointer (some ⟨b, 0, none⟩)]) (fun key => langV e.lang key) :=
  ⟨_, _, rfl, enters_of Tryz.func66 (by kernel_rfl) rfl, fun key W' hk hg hm => langClo2 b e hf key hk W' (he.later hg) hm⟩

set_option maxHeartbeats 1600000 in
theorem bareC (s : List UInt8) (W : World) : Calls Tryz.prog 59 #[.string (S s)] W fun e w' => ∃ v, e = .returned v ∧ CloOK w' v (fun key => onlyV s key) ∧ Below W.heap.size W w' := by
  have hc : (W.alloc (.cells #[.string (S s)] 9)).cell? ⟨W.heap.size, 0, none⟩ = some (.string (S s)) := by simp
  have HK := Lib.hid (show CloOK (W.alloc (.cells #[.string (S s)] 9)) (.func (.func 94) #[] #[.pointer (some ⟨W.heap.size, 0, none⟩)]) (fun key => onlyV s key) from
    ⟨_, _, rfl, enters_of Tryz.func94 (by kernel_rfl) rfl, fun key W' hk hg hm => (bareClo W.heap.size s key W' (hg.cell hc) (block_lt_of_cell (hg.cell hc))).mono fun e w' ⟨h1, h2⟩ => ⟨h1, h2 ▸ Below.refl _ _⟩⟩)
  clear hc
  go_enter Tryz.func59, Tryz.ntmps59
  go_wp2
  go_ret
  exact ⟨_, rfl, HK.out, by (repeat (first | with_reducible exact Below.refl _ _ | with_reducible assumption | with_reducible refine Below.drew ?_ | (with_reducible refine Below.setCell ?_ ?_ _; rotate_left; (first | omega | (simp <;> omega))) | (with_reducible refine Below.alloc ?_ ?_ _; rotate_left; (first | omega | (simp <;> omega))) | exact Below.refl _ _ | assumption))⟩
set_option maxHeartbeats 1600000 in
theorem ofC (s : List UInt8) (fv : Value) (val : List UInt8 → List UInt8 × Bool) (W : World) (hf : CloOK W fv val) : Calls Tryz.prog 60 #[.string (S s), fv] W fun e w' => ∃ v, e = .returned v ∧ CloOK w' v (fun key => keyedV s key (val key)) ∧ Below W.heap.size W w' := by
  obtain ⟨fn, lb, rfl, h2, h3⟩ := hf
  have hc1 : ((W.alloc (.cells #[.string (S s)] 9)).alloc (.cells #[.func (.func fn) #[] lb] 60)).cell? ⟨W.heap.size, 0, none⟩ = some (.string (S s)) := by simp
  have hc2 : ((W.alloc (.cells #[.string (S s)] 9)).alloc (.cells #[.func (.func fn) #[] lb] 60)).cell? ⟨W.heap.size + 1, 0, none⟩ = some (.func (.func fn) #[] lb) := by simp
  have hg0 : GG W ((W.alloc (.cells #[.string (S s)] 9)).alloc (.cells #[.func (.func fn) #[] lb] 60)) := GG.of_below (by (repeat (first | with_reducible exact Below.refl _ _ | with_reducible assumption | with_reducible refine Below.drew ?_ | (with_reducible refine Below.setCell ?_ ?_ _; rotate_left; (first | omega | (simp <;> omega))) | (with_reducible refine Below.alloc ?_ ?_ _; rotate_left; (first | omega | (simp <;> omega))) | exact Below.refl _ _ | assumption)))
  have HK := Lib.hid (show CloOK ((W.alloc (.cells #[.string (S s)] 9)).alloc (.cells #[.func (.func fn) #[] lb] 60)) (.func (.func 95) #[] #[.pointer (some ⟨W.heap.size, 0, none⟩), .pointer (some ⟨W.heap.size + 1, 0, none⟩)]) (fun key => keyedV s key (val key)) from
    ⟨_, _, rfl, enters_of Tryz.func95 (by kernel_rfl) rfl, fun key W' hk hg hm => ofClo W.heap.size (W.heap.size + 1) s key fn lb (val key) h2 W' (hg.cell hc1) (block_lt_of_cell (hg.cell hc1)) (hg.cell hc2) (block_lt_of_cell (hg.cell hc2)) (h3 key W' hk (hg0.trans hg) hm)⟩)
  clear hc1 hc2 hg0 h2 h3
  go_enter Tryz.func60, Tryz.ntmps60
  go_wp2
  go_ret
  exact ⟨_, rfl, HK.out, by (repeat (first | with_reducible exact Below.refl _ _ | with_reducible assumption | with_reducible refine Below.drew ?_ | (with_reducible refine Below.setCell ?_ ?_ _; rotate_left; (first | omega | (simp <;> omega))) | (with_reducible refine Below.alloc ?_ ?_ _; rotate_left; (first | omega | (simp <;> omega))) | exact Below.refl _ _ | assumption))⟩
end Go.Proofs.YtenflcaalckdfaaGreatDoor
namespace Go.Proofs.YtenflcaalckdfaaGreatDoor
open Go Go.RowKit Go.Sort Go.Shelf
set_option linter.unusedVariables false
set_option linter.unusedSimpArgs false

def cloV (fn b : Nat) : Value := .func (.func fn) #[] #[.pointer (some ⟨b, 0, none⟩)]
def FK (b : Nat) (e : En) (i : Nat) (v : Value) (w : World) : Prop :=
  match i with
  | 1 => v = .pointer (some ⟨b, 0, none⟩) | 2 => v = .string (S e.host) | 3 => CloOK w v (fun key => onlyV e.host key)
  | 5 => v = .pointer (some ⟨b, 1, none⟩) | 6 => v = .string (S e.ref) | 7 => CloOK w v (fun key => onlyV e.ref key)
  | 9 => v = .pointer (some ⟨b, 2, none⟩) | 10 => v = .string (S e.agent) | 11 => v = cloV 56 b | 12 => CloOK w v (fun key => keyedV e.agent key (someV (agentK e.agent key)))
  | 14 => v = .pointer (some ⟨b, 3, none⟩) | 15 => v = .string (S e.cookie) | 16 => v = cloV 61 b | 17 => CloOK w v (fun key => keyedV e.cookie key (findV (cookiesL e.cookie) key))
  | 19 => v = .pointer (some ⟨b, 5, none⟩) | 20 => v = .string (S e.query) | 21 => v = cloV 64 b | 22 => CloOK w v (fun key => keyedV e.query key (findV (queryL e.query) key))
  | 24 => v = .pointer (some ⟨b, 4, none⟩) | 25 => v = .string (S e.lang) | 26 => v = cloV 66 b | 27 => CloOK w v (fun key => keyedV e.lang key (langV e.lang key))
  | _ => True
theorem FK_later (b : Nat) (e : En) : ∀ i v W W', GG W W' → FK b e i v W → FK b e i v W' := by
  intro i v W W' hg h
  unfold FK at h ⊢
  split at h <;> first | exact h | exact h.later hg
abbrev tabK : List (Nat × Nat) := [(1, 6), (2, 7), (3, 8), (5, 9), (6, 10), (7, 11), (9, 12), (10, 13), (11, 14), (12, 15), (14, 16), (15, 17), (16, 18), (17, 19), (19, 20), (20, 21), (21, 22), (22, 23), (24, 24), (25, 25), (26, 26), (27, 27)]
abbrev entK : List Ent := [⟨4, 3, 8, hostN⟩, ⟨8, 7, 11, refN⟩, ⟨13, 12, 15, agentN⟩, ⟨18, 17, 19, cookieN⟩, ⟨23, 22, 23, queryN⟩, ⟨28, 27, 27, langN'⟩]
abbrev fixK (b : Nat) : List (Nat × Value) := [(1, .pointer (some ⟨b, 0, none⟩)), (3, cloV 56 b)]
def IK (w0 : World) (b : Nat) (e : En) (d : Done) (a : Act) (w : World) : Prop :=
  KI w0 (fixK b) tabK entK (FK b e) 5 29 d a w ∧ (d 29 = true → (∀ j, j < 29 → d j = true) ∧ a.tmps[28]? = a.tmps[5]?) ∧ (d 30 = true → d 29 = true ∧ a.tmps[2]? = a.tmps[5]?)
theorem IK.early {w0 : World} {b : Nat} {e : En} {d : Done} {a a' : Act} {w w' : World} {i : Nat} (h : IK w0 b e d a w) (hi : i < 29) (hd : d i = false) (hk : KI w0 (fixK b) tabK entK (FK b e) 5 29 (d.add i) a' w') : IK w0 b e (d.add i) a' w' := by
  have h29 : d 29 = false := by
    cases hx : d 29 with
    | false => rfl
    | true => have := (h.2.1 hx).1 i hi; rw [hd] at this; cases this
  have h30 : d 30 = false := by
    cases hx : d 30 with
    | false => rfl
    | true => have := (h.2.2 hx).1; rw [h29] at this; cases this
  refine ⟨hk, fun hx => ?_, fun hx => ?_⟩
  · rw [Done.add_ne (by omega), h29] at hx; cases hx
  · rw [Done.add_ne (by omega), h30] at hx; cases hx
theorem IK.slot {w0 : World} {b : Nat} {e : En} {d : Done} {a : Act} {w : World} (h : IK w0 b e d a w) (i t : Nat) (hm : (i, t) ∈ tabK) (hd : d i = true) : ∃ v, a.tmps[t]? = some v ∧ FK b e i v w := h.1.slots (i, t) hm hd
theorem step_val {w0 : World} {b : Nat} {e : En} {Q : Exit → Act → World → Prop} (i t : Nat) (o : Oper) (hdst : o.dst = some t) (hi : i < 29) (ht : t < 29)
    (hst : (i != 0 && t != 5 && ((fixK b).all fun p => p.1 != t) && (tabK.all fun p => (p.1 == i || p.2 != t) && (p.1 != i || p.2 == t)) && entK.all fun x => x.ins != i && (x.slot != t || x.call == i)) = true)
    (hrun : ∀ d a w, (∀ e' ∈ o.after, Region.binds .any e' = true → d e'.on = true) → IK w0 b e d a w → ∃ v, (execOp a.eval o).run Tryz.prog w = .ok (.value v) w ∧ FK b e i v w) : StepOK Tryz.prog Q (IK w0 b e) i o := by
  intro d a w hd haft hI K hK
  obtain ⟨v, hr, hF⟩ := hrun d a w haft hI
  unfold Oper.wp
  rw [hr, Oper.upon_value, hdst]
  exact hK _ _ (hI.early hi hd (hI.1.val (FK_later b e) i t hd ht hst v w (Below.refl _ _) hF))
theorem step_call {w0 : World} {b : Nat} {e : En} {Q : Exit → Act → World → Prop} (i t : Nat) (o : Oper) (hdst : o.dst = some t) (hi : i < 29) (ht : t < 29)
    (hst : (i != 0 && t != 5 && ((fixK b).all fun p => p.1 != t) && (tabK.all fun p => (p.1 == i || p.2 != t) && (p.1 != i || p.2 == t)) && entK.all fun x => x.ins != i && (x.slot != t || x.call == i)) = true)
    (hrun : ∀ d a w, (∀ e' ∈ o.after, Region.binds .any e' = true → d e'.on = true) → IK w0 b e d a w → ∃ f args, (execOp a.eval o).run Tryz.prog w = .ok (.enter f args) w ∧ Calls Tryz.prog f args w fun x w' => ∃ v, x = .returned v ∧ FK b e i v w' ∧ Below w.heap.size w w') : StepOK Tryz.prog Q (IK w0 b e) i o := by
  intro d a w hd haft hI K hK
  obtain ⟨f, args, hr, hc⟩ := hrun d a w haft hI
  unfold Oper.wp
  rw [hr]
  simp only [Oper.upon]
  refine hc.mono ?_
  rintro x w' ⟨v, rfl, hF, hb⟩
  simp only
  rw [hdst]
  exact hK _ _ (hI.early hi hd (hI.1.val (FK_later b e) i t hd ht hst v w' hb hF))
theorem step_put {w0 : World} {b : Nat} {e : En} {Q : Exit → Act → World → Prop} (x : Ent) (hx : x ∈ entK) (o : Oper) (m v : Operand) (hop : o.op = Op.insert 62 m (.const (.string (S x.name))) v) (hdst : o.dst = none) (hm : m = .tmp 5) (hv : v = .tmp x.slot) (hi : x.ins < 29)
    (hst : ((x.ins != 0) && (tabK.all fun p => p.1 != x.ins) && (tabK.any fun p => p.1 == x.call && p.2 == x.slot) && (entK.all fun y => y.ins != x.ins || y.name == x.name && y.slot == x.slot && y.call == x.call) && (entK.all fun y => y.name != x.name || y.ins == x.ins) && (entK.all fun y => y.call != x.ins) && decide (x.name.length ≤ 100)) = true)
    (haft : ∀ d : Done, (∀ e' ∈ o.after, Region.binds .any e' = true → d e'.on = true) → d 0 = true ∧ d x.call = true) : StepOK Tryz.prog Q (IK w0 b e) x.ins o := by
  intro d a w hd ha hI K hK
  obtain ⟨h0, hc⟩ := haft d ha
  exact hI.1.put (FK_later b e) (by decide) x hx hd hc h0 hst o m v hop hdst hm hv Q K fun a' w' hk => hK _ _ (hI.early hi hd hk)

def isN (name : List UInt8) : Bool := entK.any fun x => x.name == name
def KnowOK (W : World) (v : Value) (e : En) : Prop :=
  ∀ name : List UInt8, name.length ≤ 9223372036854775807 → ∃ r c, (Instr.lookup 62 v (.string (S name)) true).run Tryz.prog W = .ok (.tuple #[r, .bool c]) W ∧ (c = true → CloOK W r (fun key => valV e name key)) ∧ (c = false → ∀ key, valV e name key = ([], false)) ∧ c = isN name
theorem val_none {e : En} {name : List UInt8} (h : ∀ x ∈ entK, name ≠ x.name) (key : List UInt8) : valV e name key = ([], false) := by
  unfold valV
  rw [if_neg (h ⟨4, 3, 8, hostN⟩ (by simp)), if_neg (h ⟨8, 7, 11, refN⟩ (by simp)), if_neg (h ⟨13, 12, 15, agentN⟩ (by simp)), if_neg (h ⟨18, 17, 19, cookieN⟩ (by simp)), if_neg (h ⟨23, 22, 23, queryN⟩ (by simp)), if_neg (h ⟨28, 27, 27, langN'⟩ (by simp))]
theorem IK.know {w0 : World} {b : Nat} {e : En} {d : Done} {a : Act} {w : World} (h : IK w0 b e d a w) (hall : ∀ i, i < 31 → d i = true) : ∃ v, a.tmps[2]? = some v ∧ KnowOK w v e ∧ Below w0.heap.size w0 w := by
  obtain ⟨bm, D, n, e1, e2, e3, e4, e5, e6, e7⟩ := h.1.maps (hall 0 (by omega))
  refine ⟨_, ((h.2.2 (hall 30 (by omega))).2).trans e1, ?_, h.1.below⟩
  intro name hn
  obtain ⟨r, ps, hrun, hR⟩ := e3.look_ok strKeyed Tryz.underlying62 (z := .nilFunc) (by kernel_rfl) (show heldR .nilFunc = some (.held .nilFunc, []) from rfl) (strKey name hn)
  refine ⟨r, _, hrun, fun hc => ?_, fun hc key => ?_, ?_⟩
  · obtain ⟨x, hx, hdx, rfl⟩ := e6 name hc
    obtain ⟨v, hv, _, hat⟩ := e7 x hx hdx
    rw [hat] at hR
    have hrv : r = v := by
      simp only [heldR, Option.some.injEq, Prod.mk.injEq, DataW.held.injEq] at hR
      exact hR.1
    have hslot : ∀ i t, (i, t) ∈ tabK → i < 31 → x.slot = t → FK b e i r w := fun i t hm hi hs => by
      obtain ⟨u, hu, hF⟩ := h.1.slots (i, t) hm (hall i hi)
      simp only at hu
      rw [hs, hu] at hv
      rw [hrv, ← Option.some.inj hv]; exact hF
    simp only [entK, List.mem_cons, List.mem_singleton, List.not_mem_nil, or_false] at hx
    rcases hx with rfl | rfl | rfl | rfl | rfl | rfl
    · exact hslot 3 8 (by simp) (by omega) rfl
    · exact hslot 7 11 (by simp) (by omega) rfl
    · exact hslot 12 15 (by simp) (by omega) rfl
    · exact hslot 17 19 (by simp) (by omega) rfl
    · exact hslot 22 23 (by simp) (by omega) rfl
    · exact hslot 27 27 (by simp) (by omega) rfl
  · refine val_none (fun x hx hnx => ?_) key
    have hins : x.ins < 31 := by
      simp only [entK, List.mem_cons, List.mem_singleton, List.not_mem_nil, or_false] at hx
      rcases hx with rfl | rfl | rfl | rfl | rfl | rfl <;> (simp only; omega)
    obtain ⟨v, _, hh, _⟩ := e7 x hx (hall _ hins)
    rw [← hnx, hc] at hh; cases hh
  · rw [Bool.eq_iff_iff]
    unfold isN
    rw [List.any_eq_true]
    constructor
    · intro hc
      obtain ⟨x, hx, hdx, rfl⟩ := e6 name hc
      exact ⟨x, hx, by simp⟩
    · rintro ⟨x, hx, he⟩
      have hins : x.ins < 31 := by
        simp only [entK, List.mem_cons, List.mem_singleton, List.not_mem_nil, or_false] at hx
        rcases hx with rfl | rfl | rfl | rfl | rfl | rfl <;> (simp only; omega)
      obtain ⟨v, _, hh, _⟩ := e7 x hx (hall _ hins)
      rw [← beq_iff_eq.1 he]; exact hh
end Go.Proofs.YtenflcaalckdfaaGreatDoor
