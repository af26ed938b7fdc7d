/- A set of routes' keys, kept as a map keyed by a struct of two texts that the call has made. Whether a row of routes may be: the walk of route.Right. -/
import Derived.Test.YtgjemgilanhdiaaGreatDoorRf27
import Derived.Maps.OwnOps
import Derived.Maps.OwnSet
import Derived.Maps.Views
import Derived.DeepKeys3
namespace Go.Proofs.YtgjemgilanhdiaaGreatDoor
open Go Go.RowKit
set_option maxRecDepth 100000
set_option linter.unusedVariables false
set_option linter.unusedSimpArgs false

abbrev Ky := List UInt8 × List UInt8
def kyv (k : Ky) : Value := .agg #[.string (S k.1), .string (S k.2)]
def kyl (k : Ky) : Lit := .string (keyBytes [.string k.1, .string k.2])
def KySmall (k : Ky) : Prop := k.1.length ≤ 9223372036854775807 ∧ k.2.length ≤ 9223372036854775807
theorem kyKeyed : Maps.Keyed Tryz.prog 59 := Maps.Keyed.of_law (deep_law (m := 3) (by omega) (by kernel_rfl) (by kernel_rfl) (by kernel_rfl))
theorem kyType : Tryz.prog.keyType 59 = true := by kernel_rfl
theorem kyOff : (match Tryz.prog.underlying 59 with | some (.struct fs) => fs.toList.map (fun f => (f.type, f.offset)) | _ => []) = [(9, 0), (9, 1)] := by kernel_rfl
theorem kyName : (match Tryz.prog.underlying 59 with | some (.struct fs) => fs.all (·.name != "_") | _ => false) = true := by kernel_rfl
theorem kyCells : Tryz.prog.cellsOf 59 = 2 := by kernel_rfl
theorem kyCellsS : Tryz.prog.cellsOf 9 = 1 := by kernel_rfl
theorem kyStruct : ∃ fs, Tryz.prog.underlying 59 = some (.struct fs) := ⟨_, Tryz.underlying59⟩
theorem kyOf (k : Ky) (h : KySmall k) : keyOf Tryz.prog 59 (kyv k) = some (kyl k) := by
  obtain ⟨fs, hu⟩ := kyStruct
  have ho := kyOff
  have hn := kyName
  rw [hu] at ho hn
  simp only at ho hn
  have hm1 : (S k.1).size ≤ maxLen := by rw [S_size]; exact h.1
  have hm2 : (S k.2).size ≤ maxLen := by rw [S_size]; exact h.2
  have hstr : ∀ (d : Nat) (s : List UInt8), (S s).size ≤ maxLen → Tryz.prog.keyLits (d + 1) 9 [.string (S s)] = some [.string s] := fun d s hs => by
    unfold Program.keyLits
    simp [Tryz.underlying9, hs, S_data]
  unfold keyOf
  rw [hu]
  simp only [kyType, Bool.true_and]
  have hf : (kyv k).formed Tryz.prog 59 = true := by simp [kyv, Value.formed, hu, kyCells]
  rw [if_pos hf]
  obtain ⟨d, hd⟩ : ∃ d, Tryz.prog.types.size = d + 1 := ⟨Tryz.prog.types.size - 1, by have : 0 < Tryz.prog.types.size := of_decide_eq_true (by kernel_rfl); omega⟩
  have hl : Tryz.prog.keyLits (Tryz.prog.types.size + 1) 59 (kyv k).cells.toList = some [.string k.1, .string k.2] := by
    rw [hd]
    have hcs : (kyv k).cells.toList = [.string (S k.1), .string (S k.2)] := rfl
    rw [hcs]
    unfold Program.keyLits
    rw [hu]
    simp only
    rw [if_pos ⟨by rw [kyCells]; rfl, hn⟩]
    obtain ⟨f1, fs', e1⟩ : ∃ f1 fs', fs.toList = f1 :: fs' := by
      cases hfs : fs.toList with
      | nil => rw [hfs] at ho; have := congrArg List.length ho; simp at this
      | cons a b => exact ⟨a, b, rfl⟩
    rw [e1] at ho ⊢
    obtain ⟨f2, fs'', e2⟩ : ∃ f2 fs'', fs' = f2 :: fs'' := by
      cases hfs : fs' with
      | nil => rw [hfs] at ho; have := congrArg List.length ho; simp at this
      | cons a b => exact ⟨a, b, rfl⟩
    subst e2
    rw [List.map_cons, List.map_cons] at ho
    injection ho with ho1 ho2
    injection ho2 with ho2 hnil
    have t1 : f1.type = 9 := congrArg Prod.fst ho1
    have o1 : f1.offset = 0 := congrArg Prod.snd ho1
    have t2 : f2.type = 9 := congrArg Prod.fst ho2
    have o2 : f2.offset = 1 := congrArg Prod.snd ho2
    obtain rfl : fs'' = [] := List.map_eq_nil_iff.1 hnil
    simp only [List.mapM_cons, List.mapM_nil, t1, o1, t2, o2, kyCellsS, List.drop_zero, List.drop_succ_cons, List.take_succ_cons, List.take_zero, hstr d _ hm1, hstr d _ hm2]
    rfl
  rw [hl]
  rfl
theorem kyv_inj {a b : Ky} (h : kyv a = kyv b) : a = b := by
  obtain ⟨a1, a2⟩ := a
  obtain ⟨b1, b2⟩ := b
  simp only [kyv, Value.agg.injEq, Array.mk.injEq, List.cons.injEq, Value.string.injEq, and_true] at h
  have e1 := congrArg (fun s => s.data.toList) h.1
  have e2 := congrArg (fun s => s.data.toList) h.2
  simp only [S_data] at e1 e2
  rw [e1, e2]
theorem kyl_inj {a b : Ky} (ha : KySmall a) (hb : KySmall b) (h : kyl a = kyl b) : a = b :=
  kyv_inj (kyKeyed.inj (kyOf a ha) (by rw [kyOf b hb, h]))
def KeysIs (W : World) (b n : Nat) (K : List Ky) : Prop :=
  ∃ D : DataW Unit, W.ownsMap Tryz.prog 59 (plainElem Tryz.prog 4) b n D ∧ Maps.Tidy D ∧ (∀ k ∈ K, KySmall k) ∧ Maps.size D ≤ K.length ∧ (Maps.size D = K.length ↔ K.Nodup) ∧ ∀ k, KySmall k → Maps.has D (kyl k) = decide (k ∈ K)
theorem KeysIs.made (W : World) : KeysIs (W.alloc (.map #[] 0)) W.heap.size 0 [] :=
  ⟨_, World.ownsMap_made W _ _ _, Maps.tidy_empty, (fun k h => by simp at h), Nat.le_refl _, by simp [Maps.size], fun k _ => by simp [Maps.has]⟩
theorem KeysIs.lt {W : World} {b n : Nat} {K : List Ky} (h : KeysIs W b n K) : b < W.heap.size := by
  obtain ⟨D, h1, _⟩ := h
  exact h1.lt
theorem KeysIs.below {W w' : World} {b n : Nat} {K : List Ky} (h : KeysIs W b n K) (hb : Below W.heap.size W w') : KeysIs w' b n K := by
  have hlt := h.lt
  obtain ⟨D, ⟨es, clock, h0, h1⟩, h2⟩ := h
  exact ⟨D, ⟨es, clock, by rw [hb.block b hlt]; exact h0, h1⟩, h2⟩
theorem KeysIs.same {W w' : World} {b n : Nat} {K : List Ky} (h : KeysIs W b n K) (hb : w'.heap[b]? = W.heap[b]?) : KeysIs w' b n K := by
  obtain ⟨D, ⟨es, clock, h0, h1⟩, h2⟩ := h
  exact ⟨D, ⟨es, clock, by rw [hb]; exact h0, h1⟩, h2⟩
theorem Below.keys_grown {W w' : World} {b B : Nat} (hg : W.grownBy w' (some b)) (hb : B ≤ b) (hB : B ≤ W.heap.size) : Below B W w' :=
  Below.grown (Below.refl _ _) hg hB (fun k hk => by cases hk; exact hb)
set_option maxRecDepth 100000 in
theorem wp_keys_add {ops : Array Oper} {rest : List Oper} {o : Oper} {a : Act} {Q : Exit → Act → World → Prop} (hg : o.guard = none) (m x v : Operand) (hop : o.op = Op.mapUpdate 57 m x v)
    (W : World) (b n : Nat) (K : List Ky) (h : KeysIs W b n K) (hn : n < 1099511627776) (l : Ky) (hl : KySmall l) (hm : a.eval m = .map (some b)) (hx : a.eval x = kyv l) (hv : a.eval v = .bool true)
    (hK : ∀ w', KeysIs w' b (n + 1) (K ++ [l]) → W.grownBy w' (some b) → wpList Tryz.prog ops Q rest (a.put o.dst undef) w') : wpList Tryz.prog ops Q (o :: rest) a W := by
  obtain ⟨D, h1, h2, h3, h4, h5, h6⟩ := h
  refine wpList_mapUpdate_own W hg m x v 57 hop 59 4 kyKeyed Tryz.underlying57 _ b n D hm h1 (by unfold maxLen; omega) _ _ (kyl l) hx hv (kyOf l hl) (.lit (.bool true)) [] (plainElem_bool Tryz.underlying4 true) ?_
  intro w' h7 h8
  have hkey : WideAt.IsKeyLit (kyl l) := by simp [WideAt.IsKeyLit, kyl]
  have hsz := Maps.size_put (k := kyl l) h2 (.lit (.bool true) : DataW Unit)
  rw [h6 l hl] at hsz
  refine hK w' ⟨_, h7, h2.put hkey _, ?_, ?_, ?_, fun k hk => ?_⟩ h8
  · intro k hk
    rcases List.mem_append.1 hk with hk | hk
    · exact h3 k hk
    · obtain rfl : k = l := by simpa using hk
      exact hl
  · rw [hsz, List.length_append]
    split
    · omega
    · simp; omega
  · rw [hsz, List.length_append, List.nodup_append]
    by_cases e : l ∈ K
    · simp only [e, decide_true, if_true]
      constructor
      · intro h'; simp at h'; omega
      · rintro ⟨_, _, h'⟩; exact absurd rfl (h' l e l (by simp))
    · simp only [e, decide_false, Bool.false_eq_true, if_false]
      constructor
      · intro h'
        have : Maps.size D = K.length := by simp at h'; omega
        refine ⟨h5.1 this, by simp, fun x hxK y hy => ?_⟩
        obtain rfl : y = l := by simpa using hy
        rintro rfl
        exact e hxK
      · rintro ⟨h', _, _⟩
        have := h5.2 h'
        simp; omega
  · by_cases e : k = l
    · subst e
      rw [Maps.has_put_same h2.isMap hkey]
      simp
    · rw [Maps.has_put_other (fun h' => e (kyl_inj hk hl h')), h6 k hk]
      congr 1
      simp [e]
theorem KeysIs.len {W : World} {b n : Nat} {K : List Ky} (h : KeysIs W b n K) : ∃ s : Nat, s ≤ K.length ∧ (s = K.length ↔ K.Nodup) ∧ ∀ ty, (Builtin.len_ #[57] ty #[.map (some b)]).run Tryz.prog W = .ok (.int .i64 s) W := by
  obtain ⟨D, h1, _, _, h4, h5, _⟩ := h
  exact ⟨_, h4, h5, fun ty => h1.len Tryz.underlying57 ty⟩
end Go.Proofs.YtgjemgilanhdiaaGreatDoor
namespace Go.Proofs.YtgjemgilanhdiaaGreatDoor
open Go.RowKit Go.Sort Go.Shelf
set_option linter.unusedVariables false
set_option linter.unusedSimpArgs false

theorem rightRt_all {L : List Wrd} (h : ∀ r ∈ L, routeOk r = true) : rightRt L = (decide ((L.length : Int) ≤ 16) && decide ((L.map keyR).Nodup)) := by
  unfold rightRt
  rw [List.all_eq_true.2 h, Bool.true_and]
  congr 1
  exact decide_eq_decide.2 (by omega)
theorem rightRt_not {L : List Wrd} {r : Wrd} (hr : r ∈ L) (h : routeOk r = false) : rightRt L = false := by
  unfold rightRt
  have : L.all routeOk = false := by
    rw [List.all_eq_false]
    exact ⟨r, hr, by simp [h]⟩
  rw [this]; rfl

set_option maxHeartbeats 3200000 in
set_option maxRecDepth 100000 in
theorem routesRight (v : Value) (L : List Wrd) (w : World) (hr : ReadsW w v L) (hl : ∀ f ∈ L, f.1.length ≤ 900 ∧ f.2.1.length ≤ 900 ∧ f.2.2.length ≤ 900) (hn : L.length ≤ 1000000) (hLd : Laid w) :
    Calls Tryz.prog 9 #[v] w fun e w' => e = .returned (.bool (rightRt L)) ∧ Below w.heap.size w w' := by
  obtain ⟨R, hR⟩ : ∃ R, rightRt L = R := ⟨_, rfl⟩
  have hYes := Lib.hid (@rightRt_all L)
  have hNo := Lib.hid (fun r => @rightRt_not L r)
  rw [hR] at hYes hNo ⊢
  have HR := Lib.hid hr
  have HL := Lib.hid hl
  have RR := Lib.hid (fun (f : Wrd) h W hb => routeRight f (hl f h).1 (hl f h).2.1 (hl f h).2.2 W (hLd.on hb))
  obtain ⟨ao, cap, rfl, hc1, hc2, hc3, hcell⟩ := hr
  have HCELL := Lib.hid hcell
  have hm : maxLen = 9223372036854775807 := rfl
  rw [hm] at hc2
  have S0 := Lib.hid (KeysIs.made w)
  have hb0 := Lib.hid (show Below w.heap.size w (w.alloc (.map #[] 0)) from (Below.refl _ _).alloc (Nat.le_refl _) _)
  have hmm := @run_makeMap Tryz.prog
  clear hR hl hLd hcell hm hc3
  go_enter Tryz.func9, Tryz.ntmps9
  go_wp2
  go_loopw [9] (fun iv wr => ∃ i : Nat, iv = .int .i64 i ∧ i ≤ L.length ∧ (∀ r ∈ L.take i, routeOk r = true) ∧ KeysIs wr w.heap.size i ((L.take i).map keyR) ∧ Below w.heap.size w wr) (fun iv _ => L.length - (intOf iv).toNat)
  case atStart => exact ⟨0, rfl, Nat.zero_le _, by simp, S0.out, hb0.out⟩
  case round =>
    obtain ⟨i, rfl, hi, hall, hset, hB⟩ := hrel
    have HA := Lib.hid hall
    have HS := Lib.hid hset
    have HB := Lib.hid hB
    have hz := hB.size
    have hlt0 := hset.lt
    clear hall hset hB
    by_cases hil : i < L.length
    · obtain ⟨b, off, rfl, hb, hcl⟩ := HCELL.out (by omega)
      obtain ⟨e1, e2, e3⟩ := hcl i hil
      rw [← HB.out.cell (p := ⟨b, off + i * 3, none⟩) hb] at e1
      rw [← HB.out.cell (p := ⟨b, off + i * 3 + 1, none⟩) hb] at e2
      rw [← HB.out.cell (p := ⟨b, off + i * 3 + 2, none⟩) hb] at e3
      have HM := Lib.hid (List.getElem_mem hil)
      have RI := Lib.hid (fun W hb => RR.out _ HM.out W hb)
      have HN := Lib.hid (fun h => hNo.out _ HM.out h)
      have HT := Lib.hid (List.take_succ_eq_append_getElem hil)
      have HLi := Lib.hid (HL.out _ HM.out)
      obtain ⟨⟨x1, x2, x3⟩, hx⟩ : ∃ f, L[i] = f := ⟨_, rfl⟩
      rw [hx] at e1 e2 e3 HM RI HN HT HLi
      obtain ⟨B, hBk⟩ : ∃ B, routeOk (x1, x2, x3) = B := ⟨_, rfl⟩
      rw [hBk] at RI HN
      have HBk := Lib.hid hBk
      simp only at e1 e2 e3
      have hfar := far (show b < wr.heap.size by omega)
      clear hcl hx hBk
      cases B with
      | false =>
        have hRf := HN.out rfl
        subst hRf
        go_wp2_with (go_at_call 26; (with_reducible refine Calls.mono (RI.out _ ?_) ?_); (focus (have := HB.out; (repeat (first | with_reducible exact Below.refl _ _ | with_reducible assumption | with_reducible refine Below.drew ?_ | (with_reducible refine Below.setCell ?_ ?_ _; rotate_left; (first | omega | (simp <;> omega))) | (with_reducible refine Below.alloc ?_ ?_ _; rotate_left; (first | omega | (simp <;> omega))) | exact Below.refl _ _ | assumption)))); rintro e w1 ⟨rfl, hb1⟩; have HB1 := Lib.hid (Below.trans (show Below w.heap.size w _ by (have := HB.out; (repeat (first | with_reducible exact Below.refl _ _ | with_reducible assumption | with_reducible refine Below.drew ?_ | (with_reducible refine Below.setCell ?_ ?_ _; rotate_left; (first | omega | (simp <;> omega))) | (with_reducible refine Below.alloc ?_ ?_ _; rotate_left; (first | omega | (simp <;> omega))) | exact Below.refl _ _ | assumption)))) (hb1.mono (by simp <;> omega))); clear hb1)
        go_ret
        exact ⟨rfl, HB1.out⟩
      | true =>
        go_wp2_with (first
          | (go_at_call 26; (with_reducible refine Calls.mono (RI.out _ ?_) ?_); (focus (have := HB.out; (repeat (first | with_reducible exact Below.refl _ _ | with_reducible assumption | with_reducible refine Below.drew ?_ | (with_reducible refine Below.setCell ?_ ?_ _; rotate_left; (first | omega | (simp <;> omega))) | (with_reducible refine Below.alloc ?_ ?_ _; rotate_left; (first | omega | (simp <;> omega))) | exact Below.refl _ _ | assumption)))); rintro e w1 ⟨rfl, hb1⟩; have HS1 := Lib.hid (HS.out.below (Below.trans (show Below wr.heap.size wr _ by (repeat (first | with_reducible exact Below.refl _ _ | with_reducible assumption | with_reducible refine Below.drew ?_ | (with_reducible refine Below.setCell ?_ ?_ _; rotate_left; (first | omega | (simp <;> omega))) | (with_reducible refine Below.alloc ?_ ?_ _; rotate_left; (first | omega | (simp <;> omega))) | exact Below.refl _ _ | assumption))) (hb1.mono (by simp)))); have HB1 := Lib.hid (Below.trans (show Below w.heap.size w _ by (have := HB.out; (repeat (first | with_reducible exact Below.refl _ _ | with_reducible assumption | with_reducible refine Below.drew ?_ | (with_reducible refine Below.setCell ?_ ?_ _; rotate_left; (first | omega | (simp <;> omega))) | (with_reducible refine Below.alloc ?_ ?_ _; rotate_left; (first | omega | (simp <;> omega))) | exact Below.refl _ _ | assumption)))) (hb1.mono (by simp <;> omega))); obtain ⟨hcc1, hff1⟩ := bk hb1 wr.heap.size (by simp); have hz1 := hb1.size; (try simp only [World.size_alloc, World.size_setCell] at hz1); clear hb1)
          | (at_mapUpdate; refine wp_keys_add rfl _ _ _ rfl _ w.heap.size i ((L.take i).map keyR) (HS1.out) (by omega) (x1, x2) ⟨by have := HLi.out; simp only at this ⊢; omega, by have := HLi.out; simp only at this ⊢; omega⟩ rfl rfl rfl ?_; intro w5 hs5 hg5; have HS5 := Lib.hid hs5; have HB5 := Lib.hid (Below.keys_grown (B := w.heap.size) hg5 (Nat.le_refl _) (by omega)); clear hs5 hg5)
          | fail)
        go_roundw
        case rel =>
          refine ⟨i + 1, by go_num, by omega, ?_, ?_, HB1.out.trans HB5.out⟩
          · rw [HT.out]
            intro r hr
            rcases List.mem_append.1 hr with h | h
            · exact HA.out r h
            · obtain rfl : r = (x1, x2, x3) := by simpa using h
              exact HBk.out
          · rw [HT.out, List.map_append]; exact HS5.out
        case measure => simp [intOf]; omega
    · obtain rfl : i = L.length := by omega
      have hall := HA.out
      have hs := HS.out
      rw [List.take_length] at hall hs
      have hY := hYes.out hall
      obtain ⟨s, hs1, hs2, hs3⟩ := hs.len
      rw [List.length_map] at hs1 hs2
      have hq : decide ((L.map keyR).Nodup) = ((s : Int) == (L.length : Int)) := by
        rw [Bool.eq_iff_iff, decide_eq_true_eq, beq_iff_eq, ← hs2]; omega
      rw [hq] at hY
      have HBB := HB.out
      have HBX := Lib.hid HBB
      clear hall hs hs2 hq HBB
      by_cases h16 : (L.length : Int) ≤ 16
      · have h16' : decide ((L.length : Int) ≤ 16) = true := by simpa using h16
        rw [h16'] at hY
        obtain ⟨q, hq⟩ : ∃ q, ((s : Int) == (L.length : Int)) = q := ⟨_, rfl⟩
        rw [hq] at hY
        cases q with
        | true =>
          have hR2 : R = true := by simpa using hY
          subst hR2
          clear hY
          go_wp2
          go_ret
          exact ⟨rfl, HBX.out⟩
        | false =>
          have hR2 : R = false := by simpa using hY
          subst hR2
          clear hY
          go_wp2
          go_ret
          exact ⟨rfl, HBX.out⟩
      · have h16' : decide ((L.length : Int) ≤ 16) = false := by simpa using h16
        rw [h16'] at hY
        have hR2 := hY
        subst hR2
        go_wp2
        go_ret
        exact ⟨rfl, HBX.out⟩
end Go.Proofs.YtgjemgilanhdiaaGreatDoor
