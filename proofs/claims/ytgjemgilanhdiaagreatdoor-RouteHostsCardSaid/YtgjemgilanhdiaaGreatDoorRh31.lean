/- A set of routes' keys, kept as a map keyed by a struct of two texts that the call has made. -/
import Derived.Test.YtgjemgilanhdiaaGreatDoorRh30
import Derived.Maps.OwnOps
import Derived.Maps.OwnSet
import Derived.Maps.Views
import Derived.DeepKeys3
namespace Go.Proofs.YtgjemgilanhdiaaGreatDoor
open Go Go.RowKit
set_option maxRecDepth 100000
set_option linter.unusedVariables false
set_option linter.unusedSimpArgs false

abbrev Ky := List UInt8 × List UInt8
def kyv (k : Ky) : Value := .agg #[.string (S k.1), .string (S k.2)]
def kyl (k : Ky) : Lit := .string (keyBytes [.string k.1, .string k.2])
def KySmall (k : Ky) : Prop := k.1.length ≤ 9223372036854775807 ∧ k.2.length ≤ 9223372036854775807
theorem kyKeyed : Maps.Keyed Tryz.prog 59 := Maps.Keyed.of_law (deep_law (m := 3) (by omega) (by kernel_rfl) (by kernel_rfl) (by kernel_rfl))
theorem kyType : Tryz.prog.keyType 59 = true := by kernel_rfl
theorem kyOff : (match Tryz.prog.underlying 59 with | some (.struct fs) => fs.toList.map (fun f => (f.type, f.offset)) | _ => []) = [(9, 0), (9, 1)] := by kernel_rfl
theorem kyName : (match Tryz.prog.underlying 59 with | some (.struct fs) => fs.all (·.name != "_") | _ => false) = true := by kernel_rfl
theorem kyCells : Tryz.prog.cellsOf 59 = 2 := by kernel_rfl
theorem kyCellsS : Tryz.prog.cellsOf 9 = 1 := by kernel_rfl
theorem kyStruct : ∃ fs, Tryz.prog.underlying 59 = some (.struct fs) := ⟨_, Tryz.underlying59⟩
theorem kyOf (k : Ky) (h : KySmall k) : keyOf Tryz.prog 59 (kyv k) = some (kyl k) := by
  obtain ⟨fs, hu⟩ := kyStruct
  have ho := kyOff
  have hn := kyName
  rw [hu] at ho hn
  simp only at ho hn
  have hm1 : (S k.1).size ≤ maxLen := by rw [S_size]; exact h.1
  have hm2 : (S k.2).size ≤ maxLen := by rw [S_size]; exact h.2
  have hstr : ∀ (d : Nat) (s : List UInt8), (S s).size ≤ maxLen → Tryz.prog.keyLits (d + 1) 9 [.string (S s)] = some [.string s] := fun d s hs => by
    unfold Program.keyLits
    simp [Tryz.underlying9, hs, S_data]
  unfold keyOf
  rw [hu]
  simp only [kyType, Bool.true_and]
  have hf : (kyv k).formed Tryz.prog 59 = true := by simp [kyv, Value.formed, hu, kyCells]
  rw [if_pos hf]
  obtain ⟨d, hd⟩ : ∃ d, Tryz.prog.types.size = d + 1 := ⟨Tryz.prog.types.size - 1, by have : 0 < Tryz.prog.types.size := of_decide_eq_true (by kernel_rfl); omega⟩
  have hl : Tryz.prog.keyLits (Tryz.prog.types.size + 1) 59 (kyv k).cells.toList = some [.string k.1, .string k.2] := by
    rw [hd]
    have hcs : (kyv k).cells.toList = [.string (S k.1), .string (S k.2)] := rfl
    rw [hcs]
    unfold Program.keyLits
    rw [hu]
    simp only
    rw [if_pos ⟨by rw [kyCells]; rfl, hn⟩]
    obtain ⟨f1, fs', e1⟩ : ∃ f1 fs', fs.toList = f1 :: fs' := by
      cases hfs : fs.toList with
      | nil => rw [hfs] at ho; have := congrArg List.length ho; simp at this
      | cons a b => exact ⟨a, b, rfl⟩
    rw [e1] at ho ⊢
    obtain ⟨f2, fs'', e2⟩ : ∃ f2 fs'', fs' = f2 :: fs'' := by
      cases hfs : fs' with
      | nil => rw [hfs] at ho; have := congrArg List.length ho; simp at this
      | cons a b => exact ⟨a, b, rfl⟩
    subst e2
    rw [List.map_cons, List.map_cons] at ho
    injection ho with ho1 ho2
    injection ho2 with ho2 hnil
    have t1 : f1.type = 9 := congrArg Prod.fst ho1
    have o1 : f1.offset = 0 := congrArg Prod.snd ho1
    have t2 : f2.type = 9 := congrArg Prod.fst ho2
    have o2 : f2.offset = 1 := congrArg Prod.snd ho2
    obtain rfl : fs'' = [] := List.map_eq_nil_iff.1 hnil
    simp only [List.mapM_cons, List.mapM_nil, t1, o1, t2, o2, kyCellsS, List.drop_zero, List.drop_succ_cons, List.take_succ_cons, List.take_zero, hstr d _ hm1, hstr d _ hm2]
    rfl
  rw [hl]
  rfl
theorem kyv_inj {a b : Ky} (h : kyv a = kyv b) : a = b := by
  obtain ⟨a1, a2⟩ := a
  obtain ⟨b1, b2⟩ := b
  simp only [kyv, Value.agg.injEq, Array.mk.injEq, List.cons.injEq, Value.string.injEq, and_true] at h
  have e1 := congrArg (fun s => s.data.toList) h.1
  have e2 := congrArg (fun s => s.data.toList) h.2
  simp only [S_data] at e1 e2
  rw [e1, e2]
theorem kyl_inj {a b : Ky} (ha : KySmall a) (hb : KySmall b) (h : kyl a = kyl b) : a = b :=
  kyv_inj (kyKeyed.inj (kyOf a ha) (by rw [kyOf b hb, h]))
/-- Block b is a map of at most n entries, keyed by the keys of K. -/
def KeysIs (W : World) (b n : Nat) (K : List Ky) : Prop :=
  ∃ D : DataW Unit, W.ownsMap Tryz.prog 59 (plainElem Tryz.prog 4) b n D ∧ Maps.Tidy D ∧ (∀ k ∈ K, KySmall k) ∧ Maps.size D ≤ K.length ∧ (Maps.size D = K.length ↔ K.Nodup) ∧ ∀ k, KySmall k → Maps.has D (kyl k) = decide (k ∈ K)
theorem KeysIs.made (W : World) : KeysIs (W.alloc (.map #[] 0)) W.heap.size 0 [] :=
  ⟨_, World.ownsMap_made W _ _ _, Maps.tidy_empty, (fun k h => by simp at h), Nat.le_refl _, by simp [Maps.size], fun k _ => by simp [Maps.has]⟩
theorem KeysIs.lt {W : World} {b n : Nat} {K : List Ky} (h : KeysIs W b n K) : b < W.heap.size := by
  obtain ⟨D, h1, _⟩ := h
  exact h1.lt
theorem KeysIs.below {W w' : World} {b n : Nat} {K : List Ky} (h : KeysIs W b n K) (hb : Below W.heap.size W w') : KeysIs w' b n K := by
  have hlt := h.lt
  obtain ⟨D, ⟨es, clock, h0, h1⟩, h2⟩ := h
  exact ⟨D, ⟨es, clock, by rw [hb.block b hlt]; exact h0, h1⟩, h2⟩
theorem KeysIs.same {W w' : World} {b n : Nat} {K : List Ky} (h : KeysIs W b n K) (hb : w'.heap[b]? = W.heap[b]?) : KeysIs w' b n K := by
  obtain ⟨D, ⟨es, clock, h0, h1⟩, h2⟩ := h
  exact ⟨D, ⟨es, clock, by rw [hb]; exact h0, h1⟩, h2⟩
theorem Below.keys_grown {W w' : World} {b B : Nat} (hg : W.grownBy w' (some b)) (hb : B ≤ b) (hB : B ≤ W.heap.size) : Below B W w' :=
  Below.grown (Below.refl _ _) hg hB (fun k hk => by cases hk; exact hb)
set_option maxRecDepth 100000 in
/-- 'm[k] = true' at the operation. -/
theorem wp_keys_add {ops : Array Oper} {rest : List Oper} {o : Oper} {a : Act} {Q : Exit → Act → World → Prop} (hg : o.guard = none) (m x v : Operand) (hop : o.op = Op.mapUpdate 57 m x v)
    (W : World) (b n : Nat) (K : List Ky) (h : KeysIs W b n K) (hn : n < 1099511627776) (l : Ky) (hl : KySmall l) (hm : a.eval m = .map (some b)) (hx : a.eval x = kyv l) (hv : a.eval v = .bool true)
    (hK : ∀ w', KeysIs w' b (n + 1) (K ++ [l]) → W.grownBy w' (some b) → wpList Tryz.prog ops Q rest (a.put o.dst undef) w') : wpList Tryz.prog ops Q (o :: rest) a W := by
  obtain ⟨D, h1, h2, h3, h4, h5, h6⟩ := h
  refine wpList_mapUpdate_own W hg m x v 57 hop 59 4 kyKeyed Tryz.underlying57 _ b n D hm h1 (by unfold maxLen; omega) _ _ (kyl l) hx hv (kyOf l hl) (.lit (.bool true)) [] (plainElem_bool Tryz.underlying4 true) ?_
  intro w' h7 h8
  have hkey : WideAt.IsKeyLit (kyl l) := by simp [WideAt.IsKeyLit, kyl]
  have hsz := Maps.size_put (k := kyl l) h2 (.lit (.bool true) : DataW Unit)
  rw [h6 l hl] at hsz
  refine hK w' ⟨_, h7, h2.put hkey _, ?_, ?_, ?_, fun k hk => ?_⟩ h8
  · intro k hk
    rcases List.mem_append.1 hk with hk | hk
    · exact h3 k hk
    · obtain rfl : k = l := by simpa using hk
      exact hl
  · rw [hsz, List.length_append]
    split
    · omega
    · simp; omega
  · rw [hsz, List.length_append, List.nodup_append]
    by_cases e : l ∈ K
    · simp only [e, decide_true, if_true]
      constructor
      · intro h'; simp at h'; omega
      · rintro ⟨_, _, h'⟩; exact absurd rfl (h' l e l (by simp))
    · simp only [e, decide_false, Bool.false_eq_true, if_false]
      constructor
      · intro h'
        have : Maps.size D = K.length := by simp at h'; omega
        refine ⟨h5.1 this, by simp, fun x hxK y hy => ?_⟩
        obtain rfl : y = l := by simpa using hy
        rintro rfl
        exact e hxK
      · rintro ⟨h', _, _⟩
        have := h5.2 h'
        simp; omega
  · by_cases e : k = l
    · subst e
      rw [Maps.has_put_same h2.isMap hkey]
      simp
    · rw [Maps.has_put_other (fun h' => e (kyl_inj hk hl h')), h6 k hk]
      congr 1
      simp [e]
/-- 'len(m)'. -/
theorem KeysIs.len {W : World} {b n : Nat} {K : List Ky} (h : KeysIs W b n K) : ∃ s : Nat, s ≤ K.length ∧ (s = K.length ↔ K.Nodup) ∧ ∀ ty, (Builtin.len_ #[57] ty #[.map (some b)]).run Tryz.prog W = .ok (.int .i64 s) W := by
  obtain ⟨D, h1, _, _, h4, h5, _⟩ := h
  exact ⟨_, h4, h5, fun ty => h1.len Tryz.underlying57 ty⟩
end Go.Proofs.YtgjemgilanhdiaaGreatDoor
