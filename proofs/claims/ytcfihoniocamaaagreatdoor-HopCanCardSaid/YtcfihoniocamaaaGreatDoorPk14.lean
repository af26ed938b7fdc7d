/- The law's few: a row cut, its fields cut: the walk. table.Joined; the document's Remove: the walks. -/
import Derived.Test.YtcfihoniocamaaaGreatDoorPk11
import Derived.Test.YtcfihoniocamaaaGreatDoorPk13
import Derived.Laws.AppendOwnNone
import Derived.Test.YtcfihoniocamaaaGreatDoorPk12
namespace Go.Proofs.YtcfihoniocamaaaGreatDoor
open Go.RowKit Go.Sort Go.Shelf
set_option linter.unusedVariables false

/-- A row of fields that came in. -/
theorem reads_inF {w : World} {v : Value} {L : List (List Value)} (hv : RowsIn w 2 v L ∧ ∀ c ∈ L, AllSh [.str, .str] c) : ∃ xs, ReadsF w v xs ∧ ∀ f ∈ xs, f.1.length ≤ 9223372036854775807 ∧ f.2.length ≤ 9223372036854775807 := by
  obtain ⟨hrow, hsh⟩ := hv
  obtain ⟨xs, rfl, hxs⟩ := decode fcells (R := fun f => f.1.length ≤ 9223372036854775807 ∧ f.2.length ≤ 9223372036854775807) (fun c h => by
    obtain ⟨_, _, rfl, ⟨s, rfl, hs⟩, _, _, rfl, ⟨t, rfl, ht⟩, rfl⟩ := h
    obtain ⟨l, rfl⟩ := S_of s
    obtain ⟨m, rfl⟩ := S_of t
    exact ⟨(l, m), rfl, by rw [S_size] at hs; exact hs, by rw [S_size] at ht; exact ht⟩) L hsh
  obtain ⟨a, len, cap, rfl, hl, hm, hlen, ⟨_, hno⟩, hcell⟩ := hrow
  rw [List.length_map] at hlen
  subst hlen
  refine ⟨xs, ⟨a, cap, rfl, hl, hm, hno, fun h0 => ?_⟩, hxs⟩
  obtain ⟨b, off, e1, e2, e3⟩ := hcell h0 (by omega)
  refine ⟨b, off, e1, e2, fun j hj => ?_⟩
  have h0 := e3 j 0 hj (by omega)
  have h1 := e3 j 1 hj (by omega)
  rw [Nat.add_zero] at h0
  rw [h0, Nat.add_assoc, h1]
  simp [List.getD, hj, fcells]

def cutF (f : Fld) : Fld := (f.1.take 60, f.2.take 1010)
def fewL (L : List Fld) : List Fld := (L.take 45).map cutF
theorem cutF_small (f : Fld) : Small (cutF f) := ⟨by simp [cutF]; omega, by simp [cutF]; omega⟩
theorem fewL_small (L : List Fld) : ∀ f ∈ fewL L, Small f := fun f hf => by
  obtain ⟨g, _, rfl⟩ := List.mem_map.1 hf
  exact cutF_small g
theorem fewL_len (L : List Fld) : (fewL L).length ≤ 45 := by simp [fewL]; omega

/-- An own row that is not empty: its cells, not frozen. -/
theorem OwnsF.open {W : World} {B : Nat} {v : Value} {L : List Fld} (h : OwnsF W B v L) (h0 : 0 < L.length) : ∃ g cap, v = .slice (some ⟨g, 0, none⟩) L.length cap ∧ L.length ≤ cap ∧ cap ≤ maxLen ∧ B ≤ g ∧ g < W.heap.size ∧
    ∀ j (hj : j < L.length), (W.cell? ⟨g, j * 2, none⟩ = some (.string (S L[j].1)) ∧ W.cell? ⟨g, j * 2 + 1, none⟩ = some (.string (S L[j].2))) ∧ W.frozen? ⟨g, j * 2, none⟩ = false ∧ W.frozen? ⟨g, j * 2 + 1, none⟩ = false := by
  obtain ⟨h1, h2⟩ := h
  rcases h2 with ⟨h2, h3⟩ | ⟨g, cap, cur, h3, h4, h5, h6, h7, h8, h9⟩
  · omega
  · have hg : g < W.heap.size := by
      rcases Nat.lt_or_ge g W.heap.size with h | h
      · exact h
      · rw [Array.getElem?_eq_none h] at h5; cases h5
    refine ⟨g, cap, h3, h6, h7, h4, hg, fun j hj => ?_⟩
    have hcell : ∀ q, q < L.length * 2 → W.cell? ⟨g, q, none⟩ = (L.flatMap fcells)[q]? := fun q hq => by
      rw [Joins.cell_of_block h5, ← h9, List.getElem?_take, if_pos hq, Array.getElem?_toList]
    obtain ⟨e1, e2⟩ := flat_at L j hj
    exact ⟨⟨(hcell _ (by omega)).trans e1, (hcell _ (by omega)).trans e2⟩, Joins.unfrozen_of_block h5 _, Joins.unfrozen_of_block h5 _⟩

/-- 'append([]api.Field{}, l[:n]...)'. -/
theorem wp_append_row {ops : Array Oper} {rest : List Oper} {o : Oper} {a : Act} {Q : Exit → Act → World → Prop} (hgd : o.guard = none) (s x : Operand)
    (ho : o.op = .call { callee := .builtin .append, args := #[s, x], argTypes := #[22, 22] })
    (W : World) (B : Nat) (v : Value) (L0 : List Fld) (hown : OwnsF W B v L0) (hs : a.eval s = v) (ao : Option Addr) (cap : Nat) (L : List Fld) (hr : ReadsF W (.slice ao L.length cap) L) (hx : a.eval x = .slice ao L.length cap)
    (hn : L0.length + L.length ≤ 2199023255552) (hB : B ≤ W.heap.size)
    (h : ∀ v' w', OwnsF w' B v' (L0 ++ L) → Below B W w' → wpList Tryz.prog ops Q rest (a.put o.dst v') w') : wpList Tryz.prog ops Q (o :: rest) a W := by
  obtain ⟨i0, hi, hz0, hz1, hz2⟩ := info_parts infoFld
  have hcells := clipCells hr
  obtain ⟨ao', cap', e1, e2, e3, e4, e5⟩ := hr
  injection e1 with e6 e7 e8
  subst e6
  subst e8
  have hown' : W.ownsRow B 54 2 v L0.length (L0.flatMap fcells) := hown
  cases ao with
  | none =>
    have hc0 := e4 rfl
    have hz : L.length = 0 := by omega
    obtain rfl : L = [] := List.length_eq_zero_iff.1 hz
    subst hc0
    refine wpList_append_own_none hgd s x 22 ho B 54 i0 2 Tryz.underlying22 hi v L0.length _ hs hown' hx ?_
    subst hs
    exact h _ _ (by rw [List.append_nil]; exact hown) (Below.refl _ _)
  | some ad =>
    refine wpList_append_own _ hgd s x 22 ho B 54 i0 (.agg #[.string ⟨#[]⟩, .string ⟨#[]⟩]) 2 32 Tryz.underlying22 hi hz0 hz1 hz2 rfl (by decide) v L0.length _ hs hown' ad L.length cap (L.flatMap fcells) hx (flat_len L) (hcells ad rfl) (flat_one L) ?_ ?_ hB ?_
    · unfold maxLen; omega
    · omega
    · intro v' w' h1 h2 h3
      refine h v' w' (by unfold OwnsF; simpa using h1) ?_
      exact Below.grown (Below.refl _ _) h2 hB (fun k hk => (World.ownsRow.lt hown' k hk).1)

theorem ReadsF.take {W : World} {ao : Option Addr} {cap : Nat} {L : List Fld} (h : ReadsF W (.slice ao L.length cap) L) {q : Nat} (hq : q ≤ L.length) : ReadsF W (.slice ao (L.take q).length cap) (L.take q) := by
  obtain ⟨ao', cap', e1, e2, e3, e4, e5⟩ := h
  injection e1 with e6 e7 e8
  subst e6
  subst e8
  refine ⟨ao, cap, rfl, by simp; omega, e3, e4, fun h0 => ?_⟩
  have hl : (L.take q).length = q := by simp; omega
  obtain ⟨b, off, f1, f2, f3⟩ := e5 (by omega)
  refine ⟨b, off, f1, f2, fun j hj => ?_⟩
  have := f3 j (by omega)
  simpa using this

set_option maxHeartbeats 3200000 in
set_option maxRecDepth 100000 in
theorem few (v : Value) (L : List Fld) (w : World) (hr : ReadsF w v L) (hl : ∀ f ∈ L, f.1.length ≤ 9223372036854775807 ∧ f.2.length ≤ 9223372036854775807) :
    Calls Tryz.prog 7 #[v] w fun e w' => ∃ v', e = .returned v' ∧ ReadsF w' v' (fewL L) ∧ Below w.heap.size w w' := by
  have HR := Lib.hid hr
  obtain ⟨ao, cap, rfl, hc1, hc2, hc3, _⟩ := hr
  have hm : maxLen = 9223372036854775807 := rfl
  rw [hm] at hc2
  obtain ⟨T, hT, hTl, hTm⟩ : ∃ T, L.take 45 = T ∧ T.length ≤ L.length ∧ min (L.length : Int) 45 = (T.length : Int) := ⟨_, rfl, by simp; omega, by simp; omega⟩
  have hTR : ReadsF w (.slice ao T.length cap) T := by
    have e : L.take T.length = T := by
      rw [← hT, List.length_take]
      by_cases h : L.length ≤ 45
      · rw [Nat.min_eq_right h, List.take_length, List.take_of_length_le h]
      · rw [Nat.min_eq_left (by omega)]
    have := HR.out.take hTl
    rw [e] at this
    exact this
  have hfew : fewL L = T.map cutF := by unfold fewL; rw [hT]
  have hl2 : ∀ f ∈ T, f.1.length ≤ 9223372036854775807 ∧ f.2.length ≤ 9223372036854775807 := fun f hf => hl f (by rw [← hT] at hf; exact List.mem_of_mem_take hf)
  rw [hfew]
  have hT45 : T.length ≤ 45 := by rw [← hT]; simp; omega
  have HTR := Lib.hid hTR
  have HL := Lib.hid hl2
  clear hm hT hTR hfew hl hl2 HR hc3
  go_enter Tryz.func7, Tryz.ntmps7
  go_wp2_with (at_builtin; refine wp_append_row rfl _ _ rfl _ w.heap.size _ [] (OwnsF.made w w.heap.size (Nat.le_refl _)) rfl ao cap T (HTR.out.below (by (repeat (first | (with_reducible exact Below.refl _ _) | (with_reducible assumption) | (with_reducible refine Below.drew ?_) | (focus ((with_reducible refine Below.setCell ?_ ?_ _); rotate_left; (first | omega | (simp <;> omega)))) | (focus ((with_reducible refine Below.alloc ?_ ?_ _); rotate_left; (first | omega | (simp <;> omega)))) | exact Below.refl _ _ | assumption | refine Below.drew ?_ | refine Below.alloc ?_ (by first | omega | (simp <;> omega)) _ | refine Below.setCell ?_ (by first | omega | (simp <;> omega)) _)))) rfl (by simp; omega) (by simp) ?_; intro v' w1 hown hb; have HO := Lib.hid hown; have hbw := Below.trans (show Below w.heap.size w _ by (repeat (first | (with_reducible exact Below.refl _ _) | (with_reducible assumption) | (with_reducible refine Below.drew ?_) | (focus ((with_reducible refine Below.setCell ?_ ?_ _); rotate_left; (first | omega | (simp <;> omega)))) | (focus ((with_reducible refine Below.alloc ?_ ?_ _); rotate_left; (first | omega | (simp <;> omega)))) | exact Below.refl _ _ | assumption | refine Below.drew ?_ | refine Below.alloc ?_ (by first | omega | (simp <;> omega)) _ | refine Below.setCell ?_ (by first | omega | (simp <;> omega)) _))) hb; obtain ⟨bo, cap', rfl, k1, k2, k3, k4⟩ := hown.reads; clear hown k3 k4)
  have HO2 := Lib.hid (show OwnsF w1 w.heap.size (.slice bo T.length cap') T from by simpa using HO.out)
  clear HO hb
  rcases Nat.eq_zero_or_pos T.length with h0 | h0
  · obtain rfl : T = [] := List.length_eq_zero_iff.1 h0
    clear h0 hTm k1
    go_wp2
    refine wp_loop_rounds 1 ?_
    rw [rounds_succ]
    go_wp2
    go_ret
    exact ⟨_, rfl, HO2.out.reads, hbw⟩
  · obtain ⟨g, cap2, e1, e2, e3, e4, e5, e6⟩ := HO2.out.open h0
    injection e1 with e7 e8 e9
    subst e7
    subst e9
    have E6 := Lib.hid e6
    clear e6 e2 e3
    go_loopw [14] (fun iv wr => ∃ i : Nat, iv = .int .i64 i ∧ i ≤ T.length ∧ (∀ j (hj : j < T.length), (wr.cell? ⟨g, j * 2, none⟩ = some (.string (S (if j < i then cutF T[j] else T[j]).1)) ∧ wr.cell? ⟨g, j * 2 + 1, none⟩ = some (.string (S (if j < i then cutF T[j] else T[j]).2))) ∧
        wr.frozen? ⟨g, j * 2, none⟩ = false ∧ wr.frozen? ⟨g, j * 2 + 1, none⟩ = false) ∧ g < wr.heap.size ∧ Below w.heap.size w wr) (fun iv _ => T.length - (intOf iv).toNat)
    case atStart => exact ⟨0, rfl, Nat.zero_le _, by simpa using E6.out, e5, hbw⟩
    case round =>
      obtain ⟨i, rfl, hi, hcs, hlt, hB⟩ := hrel
      have HC := Lib.hid hcs
      clear hcs
      by_cases hil : i < T.length
      · obtain ⟨⟨f1, f2⟩, f3, f4⟩ := HC.out i hil
        rw [if_neg (Nat.lt_irrefl i)] at f1 f2
        obtain ⟨la, lb⟩ := HL.out _ (List.getElem_mem hil)
        have HN := Lib.hid (show ∀ wr' : World, (∀ j, j ≠ i → wr'.cell? ⟨g, j * 2, none⟩ = wr.cell? ⟨g, j * 2, none⟩ ∧ wr'.cell? ⟨g, j * 2 + 1, none⟩ = wr.cell? ⟨g, j * 2 + 1, none⟩) → (∀ j, wr'.frozen? ⟨g, j, none⟩ = wr.frozen? ⟨g, j, none⟩) →
            wr'.cell? ⟨g, i * 2, none⟩ = some (.string (S (cutF T[i]).1)) → wr'.cell? ⟨g, i * 2 + 1, none⟩ = some (.string (S (cutF T[i]).2)) →
            ∀ j (hj : j < T.length), (wr'.cell? ⟨g, j * 2, none⟩ = some (.string (S (if j < i + 1 then cutF T[j] else T[j]).1)) ∧ wr'.cell? ⟨g, j * 2 + 1, none⟩ = some (.string (S (if j < i + 1 then cutF T[j] else T[j]).2))) ∧
              wr'.frozen? ⟨g, j * 2, none⟩ = false ∧ wr'.frozen? ⟨g, j * 2 + 1, none⟩ = false from fun wr' a b c d j hj => by
          obtain ⟨⟨u1, u2⟩, u3, u4⟩ := HC.out j hj
          rw [b, b]
          refine ⟨?_, u3, u4⟩
          by_cases e : j = i
          · subst e; rw [if_pos (by omega)]; exact ⟨c, d⟩
          · rw [(a j e).1, (a j e).2, u1, u2]
            by_cases hji : j < i
            · rw [if_pos hji, if_pos (by omega)]; exact ⟨rfl, rfl⟩
            · rw [if_neg hji, if_neg (by omega)]; exact ⟨rfl, rfl⟩)
        have hcut : cutF T[i] = (T[i].1.take 60, T[i].2.take 1010) := rfl
        rw [hcut] at HN
        obtain ⟨⟨a, b⟩, hab⟩ : ∃ f, T[i] = f := ⟨_, rfl⟩
        rw [hab] at f1 f2 la lb HN
        simp only at f1 f2 la lb HN
        obtain ⟨p, hp, hp1, hp2⟩ : ∃ p : Nat, min (a.length : Int) 60 = p ∧ p ≤ a.length ∧ a.take 60 = a.take p := ⟨min a.length 60, by omega, by omega, by
          by_cases h : a.length ≤ 60
          · rw [Nat.min_eq_left h, List.take_length, List.take_of_length_le h]
          · rw [Nat.min_eq_right (by omega)]⟩
        obtain ⟨q, hq, hq1, hq2⟩ : ∃ q : Nat, min (b.length : Int) 1010 = q ∧ q ≤ b.length ∧ b.take 1010 = b.take q := ⟨min b.length 1010, by omega, by omega, by
          by_cases h : b.length ≤ 1010
          · rw [Nat.min_eq_left h, List.take_length, List.take_of_length_le h]
          · rw [Nat.min_eq_right (by omega)]⟩
        rw [hp2, hq2] at HN
        clear hcut hab hp2 hq2
        have hfar := far hlt
        go_wp2_with fail
        refine wp_region_later_tail (wr.heap.size + 1) 18 (by kernel_rfl) (by kernel_rfl) ?_
        simp only [List.take_succ_cons, List.take_zero, List.drop_succ_cons, List.drop_zero]
        have l_w2_wr_0 := @Later.at (wr.heap.size + 1) (wr.heap.size) (by omega)
        repeat (go_big_quiet_step (fail))
        refine wpQuiet_nil ?_
        rintro w2 ⟨⟨_, hb_w2⟩, rfl⟩
        clear l_w2_wr_0
        try simp only [] at hb_w2 ⊢
        have hz_w2 := hb_w2.size
        try simp at hz_w2
        have c_w2_wr_0 := fun o => hb_w2.cell (p := ⟨wr.heap.size, o, none⟩) (by first | omega | (simp <;> omega))
        have f_w2_wr_0 := fun o => hb_w2.frozen (p := ⟨wr.heap.size, o, none⟩) (by first | omega | (simp <;> omega))
        have c_w2_wr_0_0 := c_w2_wr_0 0
        conv at c_w2_wr_0_0 => rhs; simp [go_sem, *]
        have f_w2_wr_0_0 := f_w2_wr_0 0
        conv at f_w2_wr_0_0 => rhs; simp [go_sem, *]
        have c_w2_wr_0_1 := c_w2_wr_0 1
        conv at c_w2_wr_0_1 => rhs; simp [go_sem, *]
        have f_w2_wr_0_1 := f_w2_wr_0 1
        conv at f_w2_wr_0_1 => rhs; simp [go_sem, *]
        have HH_w2 := Lib.hid hb_w2
        have hB_w2 : Below wr.heap.size wr w2 := Below.trans (by (repeat (first | (with_reducible exact Below.refl _ _) | (with_reducible assumption) | (with_reducible refine Below.drew ?_) | (focus ((with_reducible refine Below.setCell ?_ ?_ _); rotate_left; (first | omega | (simp <;> omega)))) | (focus ((with_reducible refine Below.alloc ?_ ?_ _); rotate_left; (first | omega | (simp <;> omega)))) | exact Below.refl _ _ | assumption | refine Below.drew ?_ | refine Below.alloc ?_ (by first | omega | (simp <;> omega)) _ | refine Below.setCell ?_ (by first | omega | (simp <;> omega)) _))) (hb_w2.mono (by first | omega | (simp <;> omega)))
        clear hb_w2 c_w2_wr_0 f_w2_wr_0
        have far_w2_wr_0 := far (show wr.heap.size < w2.heap.size by omega)
        have c1 := (hB_w2.cell (p := ⟨g, i * 2, none⟩) hlt).trans f1
        have c2 := (hB_w2.cell (p := ⟨g, i * 2 + 1, none⟩) hlt).trans f2
        have c3 := (hB_w2.frozen (p := ⟨g, i * 2, none⟩) hlt).trans f3
        have c4 := (hB_w2.frozen (p := ⟨g, i * 2 + 1, none⟩) hlt).trans f4
        clear f1 f2 f3 f4 c_w2_wr_0_0 c_w2_wr_0_1 f_w2_wr_0_0 f_w2_wr_0_1
        go_wp2
        go_roundw
        case rel =>
          refine ⟨i + 1, by go_num, by omega, HN.out _ (fun j hj => ⟨?_, ?_⟩) (fun j => ?_) ?_ ?_, ?_, ?_⟩
          · rw [World.cell?_setCell_other _ _ _ _ (by simp <;> omega), World.cell?_setCell_other _ _ _ _ (by simp <;> omega)]; exact hB_w2.cell (p := ⟨g, _, none⟩) hlt
          · rw [World.cell?_setCell_other _ _ _ _ (by simp <;> omega), World.cell?_setCell_other _ _ _ _ (by simp <;> omega)]; exact hB_w2.cell (p := ⟨g, _, none⟩) hlt
          · simp only [World.frozen?_setCell]; exact hB_w2.frozen (p := ⟨g, _, none⟩) hlt
          · rw [World.cell?_setCell_other _ _ _ _ (by simp <;> omega)]; exact World.cell?_setCell_same _ _ _ c1
          · exact World.cell?_setCell_same _ _ _ (by rw [World.cell?_setCell_other _ _ _ _ (by simp <;> omega)]; exact c2)
          · simp; omega
          · have := Below.trans hB (hB_w2.mono hB.size)
            (repeat (first | (with_reducible exact Below.refl _ _) | (with_reducible assumption) | (with_reducible refine Below.drew ?_) | (focus ((with_reducible refine Below.setCell ?_ ?_ _); rotate_left; (first | omega | (simp <;> omega)))) | (focus ((with_reducible refine Below.alloc ?_ ?_ _); rotate_left; (first | omega | (simp <;> omega)))) | exact Below.refl _ _ | assumption | refine Below.drew ?_ | refine Below.alloc ?_ (by first | omega | (simp <;> omega)) _ | refine Below.setCell ?_ (by first | omega | (simp <;> omega)) _))
        case measure => simp [intOf]; omega
      · obtain rfl : i = T.length := by omega
        go_wp2
        go_ret
        refine ⟨_, rfl, ⟨some ⟨g, 0, none⟩, cap', by simp, by simpa using k1, k2, (fun h => by cases h), fun h => ⟨g, 0, rfl, hlt, fun j hj => ?_⟩⟩, hB⟩
        have hj' : j < T.length := by simpa using hj
        obtain ⟨⟨u1, u2⟩, _, _⟩ := HC.out j hj'
        rw [if_pos hj'] at u1 u2
        rw [Nat.zero_add, u1, u2]
        simp
end Go.Proofs.YtcfihoniocamaaaGreatDoor
namespace Go.Proofs.YtcfihoniocamaaaGreatDoor
open Go.RowKit Go.Sort Go.Shelf
set_option linter.unusedVariables false

theorem lens_le {K : Nat} : ∀ xs : List (List UInt8), (∀ x ∈ xs, x.length ≤ K) → Lib.lens xs ≤ K * xs.length
  | [], _ => by simp [Lib.lens]
  | x :: r, h => by
    have h1 := lens_le r fun y hy => h y (by simp [hy])
    have h2 := h x (by simp)
    simp only [Lib.lens, List.map_cons, List.sum_cons, List.length_cons] at *
    rw [Nat.mul_add]
    omega
theorem join_le {K : Nat} (xs : List (List UInt8)) (h : ∀ x ∈ xs, x.length ≤ K) : (Lib.join xs [44, 32]).length ≤ 2 * xs.length + K * xs.length := by
  cases xs with
  | nil => simp [Lib.join, List.intercalate]
  | cons x r =>
    rw [Lib.join_length]
    have := lens_le (x :: r) h
    simp only [List.length_cons, List.length_nil] at *
    omega
/-- The values of a name, joined. -/
def joinedL (L : List Fld) (m : List UInt8) : List UInt8 := Lib.join ((namedL L m).map (·.2)) [44, 32]

set_option maxHeartbeats 1600000 in
set_option maxRecDepth 100000 in
theorem tableJoined (v : Value) (L : List Fld) (m : List UInt8) (hm : m.length ≤ 4611686018427387903) (w : World) (hr : ReadsF w v L) (hs : ∀ f ∈ L, Small f) (hv : ∀ f ∈ L, f.2.length ≤ 10000) (hlen : L.length ≤ 1000) :
    Calls Tryz.prog 29 #[v, .string (S m)] w fun e w' => e = .returned (.tuple #[.string (S (joinedL L m)), .bool (decide (0 < (namedL L m).length))]) ∧ Below w.heap.size w w' := by
  have C := Lib.hid (tableAll v L m hm w hr hs (by omega))
  have hnl : (namedL L m).length ≤ 1000 := Nat.le_trans (List.length_filter_le _ _) hlen
  have hvl : ∀ x ∈ (namedL L m).map (·.2), x.length ≤ 10000 := fun x hx => by
    obtain ⟨f, hf, rfl⟩ := List.mem_map.1 hx
    exact hv f (List.mem_filter.1 hf).1
  have hj := join_le ((namedL L m).map (·.2)) hvl
  unfold joinedL
  have hlm : ((namedL L m).map (·.2)).length = (namedL L m).length := by simp
  rw [← hlm] at hnl ⊢
  obtain ⟨xs, hxs⟩ : ∃ xs, (namedL L m).map (·.2) = xs := ⟨_, rfl⟩
  rw [hxs] at C hnl hj ⊢
  clear hr hs hv hm hlen hvl hxs hlm
  go_enter Tryz.func29, Tryz.ntmps29
  go_wp2_with fail
  refine C.out.mono ?_
  rintro e w1 ⟨v', rfl, hown, hb1⟩
  cases xs with
  | nil =>
    obtain ⟨ao, cap, rfl, k1, k2, _⟩ := hown.shape
    have hjn := fun W => Tryz.strings_Join_none ao cap (S [44, 32]) W
    clear hown hj
    go_wp2_with (go_at_call 59; refine (hjn _).mono ?_; rintro e w' ⟨rfl, rfl⟩)
    go_ret2
    exact ⟨rfl, hb1⟩
  | cons x r =>
    obtain ⟨g, cap, rfl, k1, k2, k3, k4⟩ := hown.at 0 (by simp)
    have hmx : maxLen = 9223372036854775807 := rfl
    rw [hmx] at k2
    have hjn := Tryz.strings_Join g 0 cap ((x :: r).map S) (S [44, 32]) w1 (fun j y hy => by
      rw [List.getElem?_map] at hy
      cases hj : (x :: r)[j]? with
      | none => rw [hj] at hy; cases hy
      | some z =>
        rw [hj] at hy
        cases hy
        have hjl : j < (x :: r).length := by
          rcases Nat.lt_or_ge j (x :: r).length with h | h
          · exact h
          · rw [List.getElem?_eq_none h] at hj; cases hj
        rw [List.getElem?_eq_getElem hjl] at hj
        cases hj
        rw [Nat.zero_add]
        exact k4 j hjl) k3 (by rw [List.length_map]; omega) (by rw [List.length_map]; exact k1) (by
      rw [List.map_map, S_data]
      have e : (x :: r).map ((fun s : ByteArray => s.data.toList) ∘ S) = x :: r := by
        conv => rhs; rw [← List.map_id (x :: r)]
        apply List.map_congr_left; intro a _; exact S_data a
      rw [e]; omega)
    rw [List.length_map, List.map_map, S_data] at hjn
    have e : (x :: r).map ((fun s : ByteArray => s.data.toList) ∘ S) = x :: r := by
      conv => rhs; rw [← List.map_id (x :: r)]
      apply List.map_congr_left; intro a _; exact S_data a
    rw [e] at hjn
    have HJ := Lib.hid hjn
    clear hown hj hjn k4 e hmx
    go_wp2_with (go_at_call 59; refine HJ.out.mono ?_; rintro e w' ⟨rfl, hb2⟩; have hb3 := hb1.trans (hb2.mono hb1.size))
    go_ret2
    exact ⟨by simp [S], hb3⟩

set_option maxHeartbeats 400000 in
theorem refSameN (l m : List UInt8) (hl : l.length ≤ 4611686018427387903) (hm : m.length ≤ 4611686018427387903) (w : World) : Calls Tryz.prog 30 #[.string (S l), .string (S m)] w fun e w' => e = .returned (.bool (sameN l m)) ∧ Below w.heap.size w w' := by
  have C1 := Lib.hid (fun W => refLower l hl W)
  have C2 := Lib.hid (fun W => refLower m hm W)
  unfold sameN
  go_enter Tryz.func30, Tryz.ntmps30
  go_wp2_with fail
  refine (C1.out _).mono ?_
  rintro e w1 ⟨rfl, hb1⟩
  go_wp2_with fail
  refine (C2.out _).mono ?_
  rintro e w2 ⟨rfl, hb2⟩
  have hb := hb1.trans (hb2.mono hb1.size)
  go_wp2
  go_ret
  exact ⟨by rfl, hb⟩

set_option maxHeartbeats 1600000 in
set_option maxRecDepth 100000 in
theorem refRemove (v : Value) (L : List Fld) (m : List UInt8) (hm : m.length ≤ 4611686018427387903) (W : World) (hr : ReadsF W v L) (hs : ∀ f ∈ L, Small f) (hlen : L.length ≤ 1099511627776) :
    Calls Tryz.prog 13 #[v, .string (S m)] W fun e w' => ∃ v', e = .returned v' ∧ OwnsF w' W.heap.size v' (removeL L m) ∧ Below W.heap.size W w' := by
  obtain ⟨ao, cap, rfl, hc1, hc2, hc3, hcell⟩ := hr
  have hmx : maxLen = 9223372036854775807 := rfl
  rw [hmx] at hc2
  have HC := Lib.hid hcell
  have HS := Lib.hid hs
  clear hmx hcell hs hc3
  go_enter Tryz.func13, Tryz.ntmps13
  go_wp2
  go_loopw [5, 11] (fun ov iv wr => ∃ i : Nat, iv = .int .i64 i ∧ i ≤ L.length ∧ OwnsF wr W.heap.size ov (removeL (L.take i) m) ∧ Below W.heap.size W wr) (fun _ iv _ => L.length - (intOf iv).toNat)
  case atStart => exact ⟨0, rfl, Nat.zero_le _, OwnsF.made _ _ (Nat.le_refl _), by (repeat (first | (with_reducible exact Below.refl _ _) | (with_reducible assumption) | (with_reducible refine Below.drew ?_) | (focus ((with_reducible refine Below.setCell ?_ ?_ _); rotate_left; (first | omega | (simp <;> omega)))) | (focus ((with_reducible refine Below.alloc ?_ ?_ _); rotate_left; (first | omega | (simp <;> omega)))) | exact Below.refl _ _ | assumption | refine Below.drew ?_ | refine Below.alloc ?_ (by first | omega | (simp <;> omega)) _ | refine Below.setCell ?_ (by first | omega | (simp <;> omega)) _))⟩
  case round =>
    obtain ⟨i, rfl, hi, hown, hB⟩ := hrel
    have HO := Lib.hid hown
    have hz := hB.size
    clear hown
    by_cases hlt : i < L.length
    · obtain ⟨b, off, rfl, hb, hcl⟩ := HC.out (by omega)
      obtain ⟨e1, e2⟩ := hcl i hlt
      rw [← hB.cell (p := ⟨b, off + i * 2, none⟩) hb] at e1
      rw [← hB.cell (p := ⟨b, off + i * 2 + 1, none⟩) hb] at e2
      have hsm := HS.out _ (List.getElem_mem hlt)
      have htk : removeL (L.take (i + 1)) m = removeL (L.take i) m ++ (if sameN L[i].1 m = true then [] else [L[i]]) := by
        unfold removeL
        rw [List.take_succ_eq_append_getElem hlt, List.filter_append]
        cases hp : sameN L[i].1 m <;> simp [hp]
      have hfl : (removeL (L.take i) m).length ≤ 1099511627776 := by
        have := List.length_filter_le (fun f => !sameN f.1 m) (L.take i)
        have h2 : (L.take i).length ≤ L.length := by simp; omega
        exact Nat.le_trans (Nat.le_trans this h2) hlen
      obtain ⟨⟨n, x⟩, hf⟩ : ∃ f, L[i] = f := ⟨_, rfl⟩
      rw [hf] at e1 e2 hsm htk
      have C := Lib.hid (fun W => refSameN n m hsm.1 hm W)
      obtain ⟨y, hy⟩ : ∃ y, sameN n m = y := ⟨_, rfl⟩
      simp only at htk
      rw [hy] at C htk
      have HT := Lib.hid htk
      simp only at e1 e2
      clear hcl hf hy htk hsm
      cases y with
      | false =>
        go_wp2_with (first
          | (go_at_call 30; refine (C.out _).mono ?_; rintro e w1 ⟨rfl, hb1⟩; obtain ⟨hcc, hff⟩ := bk hb1 wr.heap.size (by simp); have hbw := Below.trans (show Below wr.heap.size wr _ by (repeat (first | (with_reducible exact Below.refl _ _) | (with_reducible assumption) | (with_reducible refine Below.drew ?_) | (focus ((with_reducible refine Below.setCell ?_ ?_ _); rotate_left; (first | omega | (simp <;> omega)))) | (focus ((with_reducible refine Below.alloc ?_ ?_ _); rotate_left; (first | omega | (simp <;> omega)))) | exact Below.refl _ _ | assumption | refine Below.drew ?_ | refine Below.alloc ?_ (by first | omega | (simp <;> omega)) _ | refine Below.setCell ?_ (by first | omega | (simp <;> omega)) _))) (hb1.mono (by simp)); have hz1 := hb1.size; simp at hz1)
          | (at_builtin; refine wp_append_fld rfl _ _ rfl _ W.heap.size _ _ (n, x) (HO.out.below hbw) rfl _ rfl rfl (by omega) (by omega) ?_; intro v4 w4 hown4 hb4 _; have HO4 := Lib.hid hown4; have hbw4 := Below.trans (hB.trans (hbw.mono hz)) hb4; clear hown4))
        go_roundw
        case rel => exact ⟨i + 1, by go_num, by omega, by rw [HT.out]; exact HO4.out, hbw4⟩
        case measure => simp [intOf]; omega
      | true =>
        go_wp2_with (go_at_call 30; refine (C.out _).mono ?_; rintro e w1 ⟨rfl, hb1⟩; have hbw := Below.trans (show Below wr.heap.size wr _ by (repeat (first | (with_reducible exact Below.refl _ _) | (with_reducible assumption) | (with_reducible refine Below.drew ?_) | (focus ((with_reducible refine Below.setCell ?_ ?_ _); rotate_left; (first | omega | (simp <;> omega)))) | (focus ((with_reducible refine Below.alloc ?_ ?_ _); rotate_left; (first | omega | (simp <;> omega)))) | exact Below.refl _ _ | assumption | refine Below.drew ?_ | refine Below.alloc ?_ (by first | omega | (simp <;> omega)) _ | refine Below.setCell ?_ (by first | omega | (simp <;> omega)) _))) (hb1.mono (by simp)))
        go_roundw
        case rel => exact ⟨i + 1, by go_num, by omega, by rw [HT.out]; simpa using HO.out.below hbw, hB.trans (hbw.mono hz)⟩
        case measure => simp [intOf]; omega
    · obtain rfl : i = L.length := by omega
      have HO2 := Lib.hid (show OwnsF wr W.heap.size _ (removeL L m) from by have := HO.out; rw [List.take_length] at this; exact this)
      go_wp2
      go_ret
      exact ⟨_, rfl, HO2.out, hB⟩
end Go.Proofs.YtcfihoniocamaaaGreatDoor
