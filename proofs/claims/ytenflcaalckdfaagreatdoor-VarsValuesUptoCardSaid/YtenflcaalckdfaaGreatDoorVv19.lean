/- Maps that a call makes by a literal: a text's text; the browser's closure. A map's literal whose entries are made by calls, in a region that draws its order: what holds between its operations. -/
import Derived.Test.YtenflcaalckdfaaGreatDoorVv18
import Derived.Test.YtenflcaalckdfaaGreatDoorVv2
namespace Go.Proofs.YtenflcaalckdfaaGreatDoor
open Go Go.RowKit Go.Sort Go.Shelf
set_option linter.unusedVariables false
set_option linter.unusedSimpArgs false

section
variable {H : Type} {P : Program} (w : World) {ops : Array Oper} {rest : List Oper} {o : Oper} {a : Act} {Q : Exit → Act → World → Prop}
theorem wpList_insert_in (hg : o.guard = none) (m x v : Operand) (t : TypeId) (hop : o.op = Op.insert t m x v)
    (k e : TypeId) (K : Maps.Keyed P k) (ht : P.underlying t = some (.map k e)) (R : Value → Option (DataW H × List MemPlace)) (b n : Nat) (D : DataW H)
    (hm : a.eval m = .map (some b)) (hown : w.ownsMap P k R b n D) (hn : n < maxLen) (key val : Value) (kl : Lit) (hx : a.eval x = key) (hv : a.eval v = val) (hkey : keyOf P k key = some kl)
    (d : DataW H) (ps : List MemPlace) (hval : R val = some (d, ps))
    (hK : ∀ w', w'.ownsMap P k R b (n + 1) (D.put kl d) → w.mapTurned w' b → wpList P ops Q rest (a.put o.dst undef) w') :
    wpList P ops Q (o :: rest) a w := by
  refine wpList_plain hg fun K' hK' => ?_
  obtain ⟨w', hrun, r1, r2⟩ := hown.store K ht hn hkey hval
  unfold Oper.wp
  simp [execOp, hop, hm, hx, hv, hrun, Result.andThen]
  exact hK' _ _ (hK w' r1 r2)
end
theorem strKeyed : Maps.Keyed Tryz.prog 9 := Maps.string_keyed Tryz.underlying9
theorem strKey (l : List UInt8) (hl : l.length ≤ 9223372036854775807) : keyOf Tryz.prog 9 (.string (S l)) = some (.string l) := by
  rw [WideMaps.keyOf_string_mk Tryz.underlying9 (s := S l) (by rw [S_size]; exact hl), S_data]
def StrMap (W : World) (b n : Nat) (f : List UInt8 → List UInt8) : Prop :=
  ∃ D : DataW Unit, W.ownsMap Tryz.prog 9 (plainElem Tryz.prog 9) b n D ∧ Maps.IsMap D ∧ ∀ k, D.atKey (.string k) (.lit (.string [])) = .lit (.string (f k))
theorem StrMap.made (W : World) : StrMap (W.alloc (.map #[] 0)) W.heap.size 0 (fun _ => []) :=
  ⟨_, World.ownsMap_made W _ _ _, Maps.isMap_empty, fun k => by simp [DataW.atKey]⟩
theorem plain_str_inv {P : Program} {e : TypeId} (he : P.underlying e = some .string) {v : Value} {z : DataW Unit × List MemPlace} (h : plainElem (H := Unit) P e v = some z) : ∃ s, v = .string (S s) ∧ z = (.lit (.string s), []) := by
  unfold plainElem at h
  rw [he] at h
  cases v <;> simp at h
  rename_i s
  obtain ⟨l, rfl⟩ := S_of s
  refine ⟨l, rfl, ?_⟩
  rw [← h.2, S_data]
set_option maxRecDepth 100000 in
theorem StrMap.look {W : World} {b n : Nat} {f : List UInt8 → List UInt8} (h : StrMap W b n f) (x : List UInt8) (hx : x.length ≤ 9223372036854775807) :
    (Instr.lookup 82 (.map (some b)) (.string (S x)) false).run Tryz.prog W = .ok (.string (S (f x))) W := by
  obtain ⟨D, h1, h2, h3⟩ := h
  obtain ⟨v, ps, hrun, hv⟩ := h1.lookup (t := 82) (e := 9) strKeyed Tryz.underlying82 (z := .string (S [])) (by kernel_rfl) (plainElem_string Tryz.underlying9 (s := S []) (by rw [S_size]; exact Nat.zero_le _)) (strKey x hx)
  rw [S_data, h3] at hv
  obtain ⟨y, rfl, hz⟩ := plain_str_inv Tryz.underlying9 hv
  injection hz with hz1 hz2
  injection hz1 with hz3
  injection hz3 with hz4
  exact hz4 ▸ hrun
theorem StrMap.look_to {W : World} {b n : Nat} {f : List UInt8 → List UInt8} (h : StrMap W b n f) (x : List UInt8) (hx : x.length ≤ 9223372036854775807) {t : List UInt8} (ht : f x = t) :
    (Instr.lookup 82 (.map (some b)) (.string (S x)) false).run Tryz.prog W = .ok (.string (S t)) W := by rw [← ht]; exact h.look x hx
set_option maxRecDepth 100000 in
theorem wp_str_put {ops : Array Oper} {rest : List Oper} {o : Oper} {a : Act} {Q : Exit → Act → World → Prop} (hg : o.guard = none) (m x v : Operand) (hop : o.op = Op.insert 82 m x v)
    (W : World) (b n : Nat) (f : List UInt8 → List UInt8) (h : StrMap W b n f) (hn : n < 1099511627776) (l t : List UInt8) (hl : l.length ≤ 9223372036854775807) (ht : t.length ≤ 9223372036854775807) (hm : a.eval m = .map (some b)) (hx : a.eval x = .string (S l)) (hv : a.eval v = .string (S t))
    (hK : ∀ w', StrMap w' b (n + 1) (fun y => if y = l then t else f y) → W.grownBy w' (some b) → wpList Tryz.prog ops Q rest (a.put o.dst undef) w') : wpList Tryz.prog ops Q (o :: rest) a W := by
  obtain ⟨D, h1, h2, h3⟩ := h
  refine wpList_insert_in W hg m x v 82 hop 9 9 strKeyed Tryz.underlying82 _ b n D hm h1 (by unfold maxLen; omega) _ _ (.string l) hx hv (strKey l hl) (.lit (.string t)) [] (by rw [plainElem_string Tryz.underlying9 (s := S t) (by rw [S_size]; exact ht), S_data]) ?_
  intro w' h4 h5
  refine hK w' ⟨_, h4, h2.put _ _, fun k => ?_⟩ h5.grown
  by_cases e : k = l
  · subst e
    rw [Maps.atKey_put_same h2 (by simp [WideAt.IsKeyLit])]; simp
  · rw [Maps.atKey_put_other (by simpa using e), h3]; simp [e]
theorem Below.map_grown {W w' : World} {b B : Nat} (hg : W.grownBy w' (some b)) (hb : B ≤ b) (hB : B ≤ W.heap.size) : Below B W w' :=
  Below.grown (Below.refl _ _) hg hB (fun k hk => by cases hk; exact hb)

theorem agentK_map (s key : List UInt8) : (if key = [111, 115] then agentS s else if key = [118, 101, 114, 115, 105, 111, 110] then (agentB s).2 else if key = [98, 114, 111, 119, 115, 101, 114] then (agentB s).1 else []) = agentK s key := by
  unfold agentK
  by_cases h1 : key = [98, 114, 111, 119, 115, 101, 114]
  · subst h1; simp
  · by_cases h2 : key = [118, 101, 114, 115, 105, 111, 110]
    · subst h2; simp
    · simp [h1, h2]
set_option maxHeartbeats 1600000 in
set_option maxRecDepth 100000 in
theorem agentClo (b : Nat) (e : En) (hf : e.few) (key : List UInt8) (hk : key.length ≤ 9223372036854775807) (w : World) (he : EnvAt w b e) (hM : ∃ m, w.cell? ⟨0, 0, none⟩ = some (.int .i64 m)) :
    Calls Tryz.prog 56 #[.string (S key), .pointer (some ⟨b, 0, none⟩)] w fun x w' => x = .returned (pairV (someV (agentK e.agent key))) ∧ Below w.heap.size w w' := by
  have h300 : e.agent.length ≤ 300 := hf.2.2.1
  have C := Lib.hid (pairsAgent e.agent (by omega) w hM)
  have v1 := verL_len e.agent [77, 83, 73, 69, 32]
  have v2 := verL_len e.agent [77, 111, 122, 105, 108, 108, 97, 47]
  have l1 : (agentB e.agent).1.length ≤ 300 := by unfold agentB; split <;> (try split) <;> simp
  have l2 : (agentB e.agent).2.length ≤ 300 := by unfold agentB; split <;> (try split) <;> simp <;> omega
  have l3 : (agentS e.agent).length ≤ 300 := by unfold agentS; split <;> (try split) <;> (try split) <;> simp
  have hK := Lib.hid (agentK_map e.agent key)
  have SO := Lib.hid (fun s W => varsSome s W)
  have hc := he.c2
  have hfar := far he.lt
  obtain ⟨⟨x1, x2⟩, hx⟩ : ∃ x, agentB e.agent = x := ⟨_, rfl⟩
  obtain ⟨x3, hx3⟩ : ∃ x, agentS e.agent = x := ⟨_, rfl⟩
  rw [hx] at C l1 l2 hK
  rw [hx3] at C l3 hK
  simp only at C l1 l2 hK
  have hmm := @run_makeMap Tryz.prog
  clear hx hx3 hf he hM v1 v2
  go_enter Tryz.func56, Tryz.ntmps56
  go_wp2_with (first
    | (go_at_call 57; (with_reducible refine Calls.mono C.out ?_); rintro e1 w1 ⟨rfl, hb1⟩; have HB1 := Lib.hid hb1; have S0 := Lib.hid (StrMap.made w1); have HB2 := Lib.hid (HB1.out.trans (show Below w.heap.size w1 (w1.alloc (.map #[] 0)) from (Below.refl _ _).alloc hb1.size _)); have hz1 := hb1.size; clear hb1)
    | (refine wp_str_put rfl _ _ _ rfl _ w1.heap.size 0 (fun _ => []) S0.out (by omega) [98, 114, 111, 119, 115, 101, 114] x1 (by decide) (by omega) rfl rfl rfl ?_; intro w2 hs2 hg2; have S2 := Lib.hid hs2; have HB3 := Lib.hid (HB2.out.trans (Below.map_grown hg2 hz1 (by simp; omega))); clear hs2 hg2)
    | (refine wp_str_put rfl _ _ _ rfl _ w1.heap.size 1 _ S2.out (by omega) [118, 101, 114, 115, 105, 111, 110] x2 (by decide) (by omega) rfl rfl rfl ?_; intro w3 hs3 hg3; have S3 := Lib.hid hs3; have HB4 := Lib.hid (HB3.out.trans (Below.map_grown hg3 hz1 HB3.out.size)); clear hs3 hg3)
    | (refine wp_str_put rfl _ _ _ rfl _ w1.heap.size 2 _ S3.out (by omega) [111, 115] x3 (by decide) (by omega) rfl rfl rfl ?_; intro w4 hs4 hg4; have HB5 := Lib.hid (HB4.out.trans (Below.map_grown hg4 hz1 HB4.out.size)); have hlk := hs4.look_to key hk hK.out; clear hs4 hg4)
    | (go_at_call 58; (with_reducible refine Calls.mono (SO.out _ _) ?_); rintro e5 w5 ⟨rfl, hw5⟩; obtain rfl := hw5.symm)
    | fail)
  go_ret2
  exact ⟨rfl, HB5.out⟩
end Go.Proofs.YtenflcaalckdfaaGreatDoor
namespace Go.Proofs.YtenflcaalckdfaaGreatDoor
open Go Go.RowKit Go.Sort Go.Shelf
set_option linter.unusedVariables false
set_option linter.unusedSimpArgs false

def GG (W W' : World) : Prop := W.heap.size ≤ W'.heap.size ∧ ∀ k, k < W.heap.size → (∀ es cl, W.heap[k]? ≠ some (.map es cl)) → W'.heap[k]? = W.heap[k]?
theorem GG.refl (W : World) : GG W W := ⟨Nat.le_refl _, fun _ _ _ => rfl⟩
theorem GG.trans {W W' W'' : World} (h : GG W W') (h' : GG W' W'') : GG W W'' :=
  ⟨Nat.le_trans h.1 h'.1, fun k hk hm => (h'.2 k (Nat.lt_of_lt_of_le hk h.1) (fun es cl e => hm es cl (by rw [← h.2 k hk hm]; exact e))).trans (h.2 k hk hm)⟩
theorem GG.of_below {W W' : World} (h : Below W.heap.size W W') : GG W W' := ⟨h.size, fun k hk _ => h.block k hk⟩
theorem GG.of_turned {W W' : World} {b : Nat} (h : W.mapTurned W' b) : GG W W' := by
  obtain ⟨es, clock, es', clock', hb, rfl⟩ := h
  refine ⟨by simp [ChangeMaps.setBlock], fun k hk hm => ?_⟩
  have hne : k ≠ b := fun e => hm es clock (by rw [e]; exact hb)
  simp only [ChangeMaps.setBlock]
  rw [Array.getElem?_setIfInBounds_ne (Ne.symm hne)]
theorem no_map {W : World} {b o : Nat} {v : Value} (h : W.cell? ⟨b, o, none⟩ = some v) : ∀ es cl, W.heap[b]? ≠ some (.map es cl) := by
  intro es cl e
  unfold World.cell? at h
  simp only [e] at h
  cases h
theorem GG.cell {W W' : World} (h : GG W W') {b o : Nat} {v : Value} (hc : W.cell? ⟨b, o, none⟩ = some v) : W'.cell? ⟨b, o, none⟩ = some v := by
  have hlt := block_lt_of_cell hc
  rw [World.cell?_of_block (a := ⟨b, o, none⟩) (h.2 b hlt (no_map hc))]
  exact hc
theorem act_tmp {a : Act} {t : Nat} {v : Value} (h : a.tmps[t]? = some v) : a.eval (.tmp t) = v := by
  simp [Act.eval, Array.getD_eq_getD_getElem?, h]
theorem put_same {a : Act} {t : Nat} (h : t < a.tmps.size) (v : Value) : (a.put (some t) v).tmps[t]? = some v := by simp [Act.put, h]
theorem put_ne {a : Act} {t u : Nat} (h : u ≠ t) (v : Value) : (a.put (some t) v).tmps[u]? = a.tmps[u]? := by
  simp only [Act.put]
  rw [Array.getElem?_setIfInBounds_ne (Ne.symm h)]

def heldR (v : Value) : Option (DataW Value × List MemPlace) := some (.held v, [])
structure Ent where
  ins : Nat
  call : Nat
  slot : Nat
  name : List UInt8
def cntE (d : Done) (L : List Ent) : Nat := (L.map fun x => (d x.ins).toNat).sum
theorem cnt_le (d : Done) : ∀ L : List Ent, cntE d L ≤ L.length
  | [] => Nat.le_refl _
  | x :: L => by
    have := cnt_le d L
    unfold cntE at this ⊢
    simp only [List.map_cons, List.sum_cons, List.length_cons]
    have : (d x.ins).toNat ≤ 1 := by cases d x.ins <;> simp
    omega
theorem cnt_mono (d : Done) (i : Nat) : ∀ L : List Ent, cntE d L ≤ cntE (d.add i) L
  | [] => Nat.le_refl _
  | x :: L => by
    have := cnt_mono d i L
    unfold cntE at this ⊢
    simp only [List.map_cons, List.sum_cons]
    have : (d x.ins).toNat ≤ (d.add i x.ins).toNat := by unfold Done.add; cases d x.ins <;> simp
    omega
theorem cnt_up {d : Done} {i : Nat} (hd : d i = false) : ∀ {L : List Ent} {x : Ent}, x ∈ L → x.ins = i → cntE d L + 1 ≤ cntE (d.add i) L
  | y :: L, x, hx, hi => by
    unfold cntE
    simp only [List.map_cons, List.sum_cons]
    rcases List.mem_cons.1 hx with rfl | hx
    · have := cnt_mono d i L
      unfold cntE at this
      rw [hi, hd, Done.add_self]
      simp; omega
    · have := cnt_up hd hx hi
      unfold cntE at this
      have : (d y.ins).toNat ≤ (d.add i y.ins).toNat := by unfold Done.add; cases d y.ins <;> simp
      omega

structure KI (w0 : World) (fix : List (Nat × Value)) (TS : List (Nat × Nat)) (ent : List Ent) (F : Nat → Value → World → Prop) (ms N : Nat) (d : Done) (a : Act) (w : World) : Prop where
  size : a.tmps.size = N
  defers : a.defers = []
  fixed : ∀ p ∈ fix, a.tmps[p.1]? = some p.2
  below : Below w0.heap.size w0 w
  slots : ∀ p ∈ TS, d p.1 = true → ∃ v, a.tmps[p.2]? = some v ∧ F p.1 v w
  shut : ∀ x ∈ ent, d x.ins = true → d x.call = true ∧ d 0 = true
  maps : d 0 = true → ∃ bm D n, a.tmps[ms]? = some (.map (some bm)) ∧ w0.heap.size ≤ bm ∧ w.ownsMap Tryz.prog 9 heldR bm n D ∧ Maps.IsMap D ∧ n ≤ cntE d ent ∧
    (∀ nm, Maps.has D (.string nm) = true → ∃ x ∈ ent, d x.ins = true ∧ nm = x.name) ∧ ∀ x ∈ ent, d x.ins = true → ∃ v, a.tmps[x.slot]? = some v ∧ Maps.has D (.string x.name) = true ∧ ∀ z, D.atKey (.string x.name) z = .held v

section
variable {w0 : World} {fix : List (Nat × Value)} {TS : List (Nat × Nat)} {ent : List Ent} {F : Nat → Value → World → Prop} {ms N : Nat} {d : Done} {a : Act} {w : World}
theorem owns_later {P : Program} {k : TypeId} {R : Value → Option (DataW Value × List MemPlace)} {b n : Nat} {D : DataW Value} {W W' : World} (h : W.ownsMap P k R b n D) (hb : Below W.heap.size W W') : W'.ownsMap P k R b n D := by
  have hlt := h.lt
  obtain ⟨es, clock, h0, h1⟩ := h
  exact ⟨es, clock, by rw [hb.block b hlt]; exact h0, h1⟩

theorem KI.val (h : KI w0 fix TS ent F ms N d a w) (hF : ∀ i v W W', GG W W' → F i v W → F i v W') (i t : Nat) (hdi : d i = false) (ht : t < N) (hst : (i != 0 && t != ms && (fix.all fun p => p.1 != t) && (TS.all fun p => (p.1 == i || p.2 != t) && (p.1 != i || p.2 == t)) && ent.all fun x => x.ins != i && (x.slot != t || x.call == i)) = true)
    (v : Value) (w' : World) (hb : Below w.heap.size w w') (hv : F i v w') : KI w0 fix TS ent F ms N (d.add i) (a.put (some t) v) w' := by
  simp only [Bool.and_eq_true, bne_iff_ne, ne_eq, List.all_eq_true, Bool.or_eq_true, beq_iff_eq] at hst
  obtain ⟨⟨⟨⟨hi0, hms⟩, hfx⟩, hTS⟩, hent⟩ := hst
  refine ⟨by simp [Act.put, h.size], h.defers, fun p hp => ?_, h.below.trans (hb.mono h.below.size), fun p hp hd => ?_, fun x hx hd => ?_, fun hd => ?_⟩
  · rw [put_ne (hfx p hp)]; exact h.fixed p hp
  · by_cases hpt : p.2 = t
    · have hpi : p.1 = i := (hTS p hp).1.resolve_right (fun hn => hn hpt)
      rw [hpt, hpi]
      exact ⟨v, put_same (by rw [h.size]; exact ht) v, hv⟩
    · by_cases hpi : p.1 = i
      · exact absurd ((hTS p hp).2.resolve_left (fun hn => hn hpi)) hpt
      · rw [Done.add_ne hpi] at hd
        obtain ⟨u, hu, hFu⟩ := h.slots p hp hd
        exact ⟨u, by rw [put_ne hpt]; exact hu, hF _ _ _ _ (GG.of_below hb) hFu⟩
  · have hxi : x.ins ≠ i := (hent x hx).1
    rw [Done.add_ne hxi] at hd
    obtain ⟨h1, h2⟩ := h.shut x hx hd
    refine ⟨?_, ?_⟩
    · unfold Done.add; rw [h1]; simp
    · unfold Done.add; rw [h2]; simp
  · rw [Done.add_ne (Ne.symm hi0)] at hd
    obtain ⟨bm, D, n, e1, e2, e3, e4, e5, e6, e7⟩ := h.maps hd
    refine ⟨bm, D, n, by rw [put_ne (Ne.symm hms)]; exact e1, e2, owns_later e3 hb, e4, Nat.le_trans e5 (cnt_mono d i ent), fun nm hnm => ?_, fun x hx hdx => ?_⟩
    · obtain ⟨x, hx, hdx, e⟩ := e6 nm hnm
      exact ⟨x, hx, by unfold Done.add; rw [hdx]; simp, e⟩
    · rw [Done.add_ne (hent x hx).1] at hdx
      obtain ⟨u, hu, h8, h9⟩ := e7 x hx hdx
      refine ⟨u, ?_, h8, h9⟩
      have hst2 : x.slot ≠ t := by
        rcases (hent x hx).2 with h' | h'
        · exact h'
        · have := (h.shut x hx hdx).1
          rw [h', hdi] at this; cases this
      rw [put_ne hst2]; exact hu
theorem KI.made (h : KI w0 fix TS ent F ms N d a w) (hF : ∀ i v W W', GG W W' → F i v W → F i v W') (hd0 : d 0 = false) (ht : ms < N) (hst : ((fix.all fun p => p.1 != ms) && (TS.all fun p => p.1 != 0 && p.2 != ms) && ent.all fun x => x.ins != 0 && x.slot != ms) = true) :
    KI w0 fix TS ent F ms N (d.add 0) (a.put (some ms) (.map (some w.heap.size))) (w.alloc (.map #[] 0)) := by
  simp only [Bool.and_eq_true, bne_iff_ne, ne_eq, List.all_eq_true] at hst
  obtain ⟨⟨hfx, hTS⟩, hent⟩ := hst
  have hb : Below w.heap.size w (w.alloc (.map #[] 0)) := (Below.refl _ _).alloc (Nat.le_refl _) _
  have hno : ∀ x ∈ ent, d x.ins = false := fun x hx => by
    cases hd : d x.ins with
    | false => rfl
    | true => have := (h.shut x hx hd).2; rw [hd0] at this; cases this
  refine ⟨by simp [Act.put, h.size], h.defers, fun p hp => ?_, h.below.trans (hb.mono h.below.size), fun p hp hd => ?_, fun x hx hd => ?_, fun _ => ?_⟩
  · rw [put_ne (hfx p hp)]; exact h.fixed p hp
  · rw [Done.add_ne (hTS p hp).1] at hd
    obtain ⟨u, hu, hFu⟩ := h.slots p hp hd
    exact ⟨u, by rw [put_ne (hTS p hp).2]; exact hu, hF _ _ _ _ (GG.of_below hb) hFu⟩
  · rw [Done.add_ne (hent x hx).1, hno x hx] at hd; cases hd
  · refine ⟨w.heap.size, .map [], 0, put_same (by rw [h.size]; exact ht) _, h.below.size, World.ownsMap_made w _ _ _, Maps.isMap_empty, Nat.zero_le _, fun nm hnm => by simp [Maps.has] at hnm, fun x hx hd => ?_⟩
    rw [Done.add_ne (hent x hx).1, hno x hx] at hd; cases hd
theorem KI.put (h : KI w0 fix TS ent F ms N d a w) (hF : ∀ i v W W', GG W W' → F i v W → F i v W') (hlen : ent.length ≤ 1000) (x : Ent) (hx : x ∈ ent) (hdi : d x.ins = false) (hdc : d x.call = true) (hd0 : d 0 = true)
    (hst : ((x.ins != 0) && (TS.all fun p => p.1 != x.ins) && (TS.any fun p => p.1 == x.call && p.2 == x.slot) && (ent.all fun y => y.ins != x.ins || y.name == x.name && y.slot == x.slot && y.call == x.call) && (ent.all fun y => y.name != x.name || y.ins == x.ins) && (ent.all fun y => y.call != x.ins) && decide (x.name.length ≤ 100)) = true) (o : Oper) (m : Operand) (v : Operand) (hop : o.op = Op.insert 62 m (.const (.string (S x.name))) v) (hdst : o.dst = none) (hm : m = .tmp ms) (hvv : v = .tmp x.slot)
    (Q : Exit → Act → World → Prop) (K : Act → World → Prop) (hK : ∀ a' w', KI w0 fix TS ent F ms N (d.add x.ins) a' w' → K a' w') : Oper.wp Tryz.prog o a w K Q := by
  simp only [Bool.and_eq_true, bne_iff_ne, ne_eq, List.all_eq_true, List.any_eq_true, Bool.or_eq_true, beq_iff_eq, decide_eq_true_eq] at hst
  obtain ⟨⟨⟨⟨⟨⟨hi0, hTS⟩, p, hp, hp1, hp2⟩, hsame⟩, hname⟩, hcall⟩, hnl⟩ := hst
  obtain ⟨u, hu, hFu⟩ := h.slots p hp (by rw [hp1]; exact hdc)
  rw [hp2] at hu
  obtain ⟨bm, D, n, e1, e2, e3, e4, e5, e6, e7⟩ := h.maps hd0
  have hcl := cnt_le d ent
  obtain ⟨w', hrun, r1, r2⟩ := e3.store strKeyed Tryz.underlying62 (by unfold maxLen; omega) (strKey x.name (by omega)) (show heldR u = some (.held u, []) from rfl)
  have hbl : Below w0.heap.size w w' := Below.map_grown r2.grown e2 h.below.size
  have hKI : KI w0 fix TS ent F ms N (d.add x.ins) a w' := by
    refine ⟨h.size, h.defers, h.fixed, h.below.trans hbl, fun q hq hd => ?_, fun y hy hd => ?_, fun _ => ?_⟩
    · rw [Done.add_ne (hTS q hq)] at hd
      obtain ⟨z, hz, hFz⟩ := h.slots q hq hd
      exact ⟨z, hz, hF _ _ _ _ (GG.of_turned r2) hFz⟩
    · by_cases hyi : y.ins = x.ins
      · refine ⟨?_, by rw [Done.add_ne (Ne.symm hi0)]; exact hd0⟩
        rcases hsame y hy with h' | ⟨_, h'⟩
        · exact absurd hyi h'
        · rw [Done.add_ne (hcall y hy), h']; exact hdc
      · rw [Done.add_ne hyi] at hd
        obtain ⟨h1, h2⟩ := h.shut y hy hd
        refine ⟨?_, ?_⟩
        · unfold Done.add; rw [h1]; simp
        · unfold Done.add; rw [h2]; simp
    · have hkey : WideAt.IsKeyLit (.string x.name) := by simp [WideAt.IsKeyLit]
      refine ⟨bm, _, _, e1, e2, r1, e4.put _ _, Nat.le_trans (Nat.add_le_add_right e5 1) (cnt_up hdi hx rfl), fun nm hnm => ?_, fun y hy hdy => ?_⟩
      · by_cases e : nm = x.name
        · exact ⟨x, hx, Done.add_self _ _, e⟩
        · rw [Maps.has_put_other (by simpa using e)] at hnm
          obtain ⟨y, hy, hdy, e'⟩ := e6 nm hnm
          exact ⟨y, hy, by unfold Done.add; rw [hdy]; simp, e'⟩
      · by_cases hyi : y.ins = x.ins
        · rcases hsame y hy with h' | ⟨⟨h1, h2⟩, _⟩
          · exact absurd hyi h'
          · rw [h1, h2]
            exact ⟨u, hu, Maps.has_put_same e4 hkey _, fun z => Maps.atKey_put_same e4 hkey _ z⟩
        · rw [Done.add_ne hyi] at hdy
          obtain ⟨z, hz, h8, h9⟩ := e7 y hy hdy
          have hne : y.name ≠ x.name := fun e => by
            rcases hname y hy with h' | h'
            · exact h' e
            · exact hyi h'
          exact ⟨z, hz, by rw [Maps.has_put_other (by simpa using hne)]; exact h8, fun z' => by rw [Maps.atKey_put_other (by simpa using hne)]; exact h9 z'⟩
  have ev1 : a.eval m = .map (some bm) := by rw [hm]; exact act_tmp e1
  have ev2 : a.eval v = u := by rw [hvv]; exact act_tmp hu
  have ev3 : a.eval (.const (.string (S x.name))) = .string (S x.name) := rfl
  have hput : a.put o.dst undef = a := by rw [hdst]; rfl
  unfold Oper.wp
  simp [execOp, hop, ev1, ev2, ev3, hrun, Result.andThen]
  rw [Oper.upon_skip, hput]
  exact hK _ _ hKI
end
end Go.Proofs.YtenflcaalckdfaaGreatDoor
