/- slices.DeleteFunc at routes: the walk. Which routes fit, which of two is better: the closures of Find. -/
import Derived.Test.YtgjemgilanhdiaaGreatDoorRf25
import Derived.Laws.IdiomCopy
import Derived.Test.YtgjemgilanhdiaaGreatDoorRf21
import Derived.Test.YtgjemgilanhdiaaGreatDoorRf2
namespace Go.Proofs.YtgjemgilanhdiaaGreatDoor
open Go.RowKit Go.Sort Go.Shelf
set_option linter.unusedVariables false
set_option linter.unusedSimpArgs false

theorem zero_rt (w : World) : (zeroValue 43).run Tryz.prog w = .ok (.agg #[.string ⟨#[]⟩, .string ⟨#[]⟩, .string ⟨#[]⟩]) w := by kernel_rfl
theorem clear_rt (w : World) (ty : TypeId) (b o n c : Nat) (hn : 0 < n)
    (hc : ∀ j, j < n * 3 → (w.cell? ⟨b, o + j, none⟩).isSome = true) (hf : ∀ j, j < n * 3 → w.frozen? ⟨b, o + j, none⟩ = false) :
    (Builtin.clear_ #[22] ty #[.slice (some ⟨b, o, none⟩) n c]).run Tryz.prog w = .ok (.tuple #[]) (w.setCells b o (List.replicate (n * 3) (.string ⟨#[]⟩))) := by
  have hzc : (Builtin.zeroCells (Value.agg #[.string ⟨#[]⟩, .string ⟨#[]⟩, .string ⟨#[]⟩]).cells n).toList = List.replicate (n * 3) (.string ⟨#[]⟩) := by
    rw [show (Value.agg #[.string ⟨#[]⟩, .string ⟨#[]⟩, .string ⟨#[]⟩]).cells = #[.string ⟨#[]⟩, .string ⟨#[]⟩, .string ⟨#[]⟩] by kernel_rfl]
    simp only [Builtin.zeroCells]
    apply List.ext_getElem
    · simp
    · intro i h1 h2
      simp only [List.getElem_replicate, Array.getElem_toList, Array.getElem_map, Array.getElem_range]
      rcases (by omega : i % 3 = 0 ∨ i % 3 = 1 ∨ i % 3 = 2) with h | h | h <;> simp [h]
  have hst := run_storeCells_cells (P := Tryz.prog) b o (List.replicate (n * 3) (.string ⟨#[]⟩)) 0 w (by simpa using hc) (by simpa using hf) (by intro v hv'; rw [List.eq_of_mem_replicate hv']; rfl)
  simp only [Nat.add_zero] at hst
  obtain ⟨m, rfl⟩ : ∃ m, n = m + 1 := ⟨n - 1, by omega⟩
  simp [Builtin.clear_, run_underlying Tryz.underlying22, zero_rt, hzc, hst]
theorem below_setCells {B b : Nat} {w w' : World} (hb : Below B w w') (hB : B ≤ b) : ∀ (vs : List Value) (o : Nat), Below B w (w'.setCells b o vs) := by
  intro vs
  induction vs generalizing w' with
  | nil => intro o; exact hb
  | cons v vs ih => intro o; exact ih (Below.setCell hb hB _) (o + 1)
theorem frozen_setCells (b : Nat) (a : Addr) : ∀ (vs : List Value) (o : Nat) (w : World), (w.setCells b o vs).frozen? a = w.frozen? a
  | [], _, _ => rfl
  | v :: r, o, w => by rw [World.setCells, frozen_setCells b a r (o + 1)]; simp
theorem size_setCells (b : Nat) : ∀ (vs : List Value) (o : Nat) (w : World), (w.setCells b o vs).heap.size = w.heap.size
  | [], _, _ => rfl
  | v :: r, o, w => by rw [World.setCells, size_setCells b r (o + 1)]; simp

set_option maxHeartbeats 3200000 in
set_option maxRecDepth 100000 in
theorem delRt (fn : Nat) (lb : Array Value) (p : Wrd → Bool) (eg : ∀ args w, (callFunc fn args).run Tryz.prog w = .ok (.enter fn args) w) (v : Value) (L : List Wrd) (w : World) (B : Nat) (hB0 : B ≤ w.heap.size) (ho : OwnsW w B v L)
    (hcl : ∀ f, f ∈ L → ∀ W', Below B w W' → Calls Tryz.prog fn (#[rtv f] ++ lb) W' fun e w' => e = .returned (.bool (p f)) ∧ Below W'.heap.size W' w') :
    Calls Tryz.prog 13 #[v, .func (.func fn) #[] lb] w fun e w' => ∃ v', e = .returned v' ∧ ReadsW w' v' (L.filter (fun f => !p f)) ∧ Below B w w' := by
  have HO := Lib.hid ho
  have HI := Lib.hid (idxRt fn lb p eg v L w ho.reads (fun f hf W' hb => hcl f hf W' (hb.mono hB0)))
  have HCL := Lib.hid hcl
  obtain ⟨ao, cap, rfl, k1, k2, k3, _⟩ := ho.reads
  have hmx : maxLen = 9223372036854775807 := rfl
  rw [hmx] at k2
  clear hcl ho k3 hmx
  go_enter Tryz.func13, Tryz.ntmps13
  go_wp2_with fail
  refine Calls.mono HI.out ?_
  rintro e w1 ⟨r, rfl, hir, hb1⟩
  have HB1 := Lib.hid hb1
  have hz1 := hb1.size
  rcases hir with ⟨rfl, hno⟩ | ⟨i0, rfl, hi0, hyes, hno⟩
  · have hall := Lib.hid (show L.filter (fun f => !p f) = L from List.filter_eq_self.2 (fun f hf => by
      obtain ⟨j, hj, rfl⟩ := List.getElem_of_mem hf
      simp [hno j hj]))
    clear hno
    go_wp2
    go_ret
    rw [hall.out]
    exact ⟨_, rfl, HO.out.reads.below HB1.out, HB1.out.mono hB0⟩
  · obtain ⟨g, cap2, e1, e2, e3, e4, e5, e6, e7⟩ := HO.out.open (by omega)
    injection e1 with e8 e9 e10
    subst e8
    subst e10
    have CW := Lib.hid ((show CellsW w g L from ⟨e5, e6, e7⟩).below HB1.out)
    have hT := Lib.hid (show L.take i0 = (L.take (i0 + 1)).filter (fun f => !p f) by
      rw [List.take_succ_eq_append_getElem hi0, List.filter_append]
      have h1 : (L.take i0).filter (fun f => !p f) = L.take i0 := List.filter_eq_self.2 (fun f hf => by
        obtain ⟨j, hj, rfl⟩ := List.getElem_of_mem hf
        have hj2 : j < i0 := by simpa using (by simp at hj; omega : j < i0)
        rw [List.getElem_take]
        simp [hno j (by omega) hj2])
      rw [h1]
      simp [hyes])
    have hn1 : ((i0 : Int) == -1) = false := by simp <;> omega
    have hn2 : decide ((i0 : Int) = -1) = false := by simp <;> omega
    have hlb := HO.out
    clear e6 e7 e2 e3 e9 hno hyes hlb
    go_wp2
    go_loopw [5, 6] (fun iv jv wr => ∃ (i j : Nat) (M : List Wrd), iv = .int .i64 i ∧ jv = .int .i64 j ∧ i < j ∧ j ≤ L.length ∧ M.length = L.length ∧ M.take i = (L.take j).filter (fun f => !p f) ∧ M.drop j = L.drop j ∧ CellsW wr g M ∧ Below B w wr) (fun _ jv _ => L.length - (intOf jv).toNat)
    case atStart => exact ⟨i0, i0 + 1, L, rfl, by go_num, by omega, by omega, rfl, hT.out, rfl, CW.out, HB1.out.mono hB0⟩
    case round =>
      obtain ⟨i, j, M, rfl, rfl, hij, hj, hMl, hM1, hM2, hcw, hB⟩ := hrel
      have HC := Lib.hid hcw
      have HB := Lib.hid hB
      have hlt := hcw.lt
      have hfz := hcw.fz
      have HM1 := Lib.hid hM1
      have HM2 := Lib.hid hM2
      by_cases hjl : j < L.length
      · obtain ⟨f1, f2, f3⟩ := hcw.cell j (by omega)
        have hMj : M[j]'(by omega) = L[j] := by
          have := congrArg (fun l => l[0]?) hM2
          simpa [hjl, (by omega : j < M.length)] using this
        rw [hMj] at f1 f2 f3
        obtain ⟨g1, g2, g3⟩ := hcw.cell i (by omega)
        have HCJ := Lib.hid (HCL.out L[j] (List.getElem_mem hjl))
        have HDR := Lib.hid (show M.drop (j + 1) = L.drop (j + 1) by
          have := congrArg (List.drop 1) hM2
          simpa [List.drop_drop, Nat.add_comm] using this)
        have HDS := Lib.hid (show (M.set i L[j]).drop (j + 1) = L.drop (j + 1) by rw [List.drop_set_of_lt (by omega)]; exact HDR.out)
        have HYES := Lib.hid (show p L[j] = true → M.take i = (L.take (j + 1)).filter (fun f => !p f) from fun h => by
          rw [List.take_succ_eq_append_getElem hjl, List.filter_append, ← hM1]; simp [h])
        have HNO := Lib.hid (show p L[j] = false → (M.set i L[j]).take (i + 1) = (L.take (j + 1)).filter (fun f => !p f) from fun h => by
          rw [List.take_set, List.take_succ_eq_append_getElem (by omega : i < M.length), List.take_succ_eq_append_getElem hjl, List.filter_append, ← hM1, List.set_append_right _ _ (by simp; omega)]
          simp [(by omega : i ≤ M.length), h])
        obtain ⟨⟨n, x, z⟩, hf⟩ : ∃ f, L[j] = f := ⟨_, rfl⟩
        rw [hf] at f1 f2 f3 HCJ HYES HNO HDS
        obtain ⟨y, hy⟩ : ∃ y, p (n, x, z) = y := ⟨_, rfl⟩
        rw [hy] at HCJ HYES HNO
        have HCJ := Lib.hid (show ∀ W', Below B w W' → Calls Tryz.prog fn (#[.agg #[.string (S n), .string (S x), .string (S z)]] ++ lb) W' fun e w' => e = .returned (.bool y) ∧ Below W'.heap.size W' w' from HCJ.out)
        simp only at f1 f2 f3
        clear hf hy hMj hM1 hM2 hcw
        cases y with
        | true =>
          go_wp2_with fail
          refine Calls.mono (HCJ.out _ (by (repeat (first | with_reducible exact Below.refl _ _ | with_reducible assumption | with_reducible refine Below.drew ?_ | (with_reducible refine Below.setCell ?_ ?_ _; rotate_left; (first | omega | (simp <;> omega))) | (with_reducible refine Below.alloc ?_ ?_ _; rotate_left; (first | omega | (simp <;> omega))) | exact Below.refl _ _ | assumption)))) ?_
          rintro e w2 ⟨rfl, hb_w2⟩
          have hz_w2 := hb_w2.size
          try simp at hz_w2
          obtain ⟨c_w2_wr_0, f_w2_wr_0⟩ := bk hb_w2 (wr.heap.size) (by first | omega | (simp <;> omega))
          have c_w2_wr_0_0 := c_w2_wr_0 0; conv at c_w2_wr_0_0 => rhs; simp [go_sem, *]
          have f_w2_wr_0_0 := f_w2_wr_0 0; conv at f_w2_wr_0_0 => rhs; simp [go_sem, *]
          have c_w2_wr_0_1 := c_w2_wr_0 1; conv at c_w2_wr_0_1 => rhs; simp [go_sem, *]
          have f_w2_wr_0_1 := f_w2_wr_0 1; conv at f_w2_wr_0_1 => rhs; simp [go_sem, *]
          have c_w2_wr_0_2 := c_w2_wr_0 2; conv at c_w2_wr_0_2 => rhs; simp [go_sem, *]
          have f_w2_wr_0_2 := f_w2_wr_0 2; conv at f_w2_wr_0_2 => rhs; simp [go_sem, *]
          have HH_w2 := Lib.hid hb_w2
          have hB_w2 : Below wr.heap.size wr w2 := Below.trans (by (repeat (first | with_reducible exact Below.refl _ _ | with_reducible assumption | with_reducible refine Below.drew ?_ | (with_reducible refine Below.setCell ?_ ?_ _; rotate_left; (first | omega | (simp <;> omega))) | (with_reducible refine Below.alloc ?_ ?_ _; rotate_left; (first | omega | (simp <;> omega))) | exact Below.refl _ _ | assumption))) (hb_w2.mono (by first | omega | (simp <;> omega)))
          clear hb_w2 c_w2_wr_0 f_w2_wr_0
          have far_w2_wr_0 := far (show wr.heap.size < w2.heap.size by omega)
          go_wp2
          have HC2 := Lib.hid (HC.out.below hB_w2)
          have HB2 := Lib.hid (HB.out.trans (hB_w2.mono (Nat.le_trans hB0 HB.out.size)))
          go_roundw
          case rel => exact ⟨i, j + 1, M, rfl, by go_num, by omega, by omega, hMl, HYES.out trivial, HDR.out, HC2.out, HB2.out⟩
          case measure => simp [intOf]; omega
        | false =>
          go_wp2_with fail
          refine Calls.mono (HCJ.out _ (by (repeat (first | with_reducible exact Below.refl _ _ | with_reducible assumption | with_reducible refine Below.drew ?_ | (with_reducible refine Below.setCell ?_ ?_ _; rotate_left; (first | omega | (simp <;> omega))) | (with_reducible refine Below.alloc ?_ ?_ _; rotate_left; (first | omega | (simp <;> omega))) | exact Below.refl _ _ | assumption)))) ?_
          rintro e w2 ⟨rfl, hb_w2⟩
          have hz_w2 := hb_w2.size
          try simp at hz_w2
          obtain ⟨c_w2_wr_0, f_w2_wr_0⟩ := bk hb_w2 (wr.heap.size) (by first | omega | (simp <;> omega))
          have c_w2_wr_0_0 := c_w2_wr_0 0; conv at c_w2_wr_0_0 => rhs; simp [go_sem, *]
          have f_w2_wr_0_0 := f_w2_wr_0 0; conv at f_w2_wr_0_0 => rhs; simp [go_sem, *]
          have c_w2_wr_0_1 := c_w2_wr_0 1; conv at c_w2_wr_0_1 => rhs; simp [go_sem, *]
          have f_w2_wr_0_1 := f_w2_wr_0 1; conv at f_w2_wr_0_1 => rhs; simp [go_sem, *]
          have c_w2_wr_0_2 := c_w2_wr_0 2; conv at c_w2_wr_0_2 => rhs; simp [go_sem, *]
          have f_w2_wr_0_2 := f_w2_wr_0 2; conv at f_w2_wr_0_2 => rhs; simp [go_sem, *]
          have HH_w2 := Lib.hid hb_w2
          have hB_w2 : Below wr.heap.size wr w2 := Below.trans (by (repeat (first | with_reducible exact Below.refl _ _ | with_reducible assumption | with_reducible refine Below.drew ?_ | (with_reducible refine Below.setCell ?_ ?_ _; rotate_left; (first | omega | (simp <;> omega))) | (with_reducible refine Below.alloc ?_ ?_ _; rotate_left; (first | omega | (simp <;> omega))) | exact Below.refl _ _ | assumption))) (hb_w2.mono (by first | omega | (simp <;> omega)))
          clear hb_w2 c_w2_wr_0 f_w2_wr_0
          have far_w2_wr_0 := far (show wr.heap.size < w2.heap.size by omega)
          have q1 := (hB_w2.cell (p := ⟨g, i * 3, none⟩) hlt).trans g1
          have q2 := (hB_w2.cell (p := ⟨g, i * 3 + 1, none⟩) hlt).trans g2
          have q3 := (hB_w2.cell (p := ⟨g, i * 3 + 2, none⟩) hlt).trans g3
          have q4 := (hB_w2.frozen (p := ⟨g, i * 3, none⟩) hlt).trans (hfz _)
          have q5 := (hB_w2.frozen (p := ⟨g, i * 3 + 1, none⟩) hlt).trans (hfz _)
          have q6 := (hB_w2.frozen (p := ⟨g, i * 3 + 2, none⟩) hlt).trans (hfz _)
          have HC2 := Lib.hid (HC.out.below hB_w2)
          have HB2 := Lib.hid (HB.out.trans (hB_w2.mono (Nat.le_trans hB0 HB.out.size)))
          clear f1 f2 f3 g1 g2 g3 hfz
          go_wp2
          go_roundw
          case rel =>
            have HP := Lib.hid (HC2.out.put i (by omega) (n, x, z))
            refine ⟨i + 1, j + 1, M.set i (n, x, z), by go_num, by go_num, by omega, by omega, by rw [List.length_set]; exact hMl, HNO.out trivial, HDS.out, ?_, ?_⟩
            · with_reducible exact HP.out
            · have h2 := HB2.out
              (repeat (first | with_reducible exact Below.refl _ _ | with_reducible assumption | with_reducible refine Below.drew ?_ | (with_reducible refine Below.setCell ?_ ?_ _; rotate_left; (first | omega | (simp <;> omega))) | (with_reducible refine Below.alloc ?_ ?_ _; rotate_left; (first | omega | (simp <;> omega))) | exact Below.refl _ _ | assumption))
          case measure => simp [intOf]; omega
      · obtain rfl : j = L.length := by omega
        rw [List.take_length] at hM1
        have HM1 := Lib.hid hM1
        clear hM1
        have hsome : ∀ q, q < L.length * 3 → (wr.cell? ⟨g, q, none⟩).isSome = true := fun q hq => by
          obtain ⟨c1, c2, c3⟩ := hcw.cell (q / 3) (by omega)
          rcases (by omega : q % 3 = 0 ∨ q % 3 = 1 ∨ q % 3 = 2) with h | h | h
          · rw [show q = q / 3 * 3 by omega, c1]; rfl
          · rw [show q = q / 3 * 3 + 1 by omega, c2]; rfl
          · rw [show q = q / 3 * 3 + 2 by omega, c3]; rfl
        have hclr : ∀ ty, (Builtin.clear_ #[22] ty #[.slice (some ⟨g, i * 3, none⟩) (L.length - i) (cap - i)]).run Tryz.prog wr = .ok (.tuple #[]) (wr.setCells g (i * 3) (List.replicate ((L.length - i) * 3) (.string ⟨#[]⟩))) :=
          fun ty => clear_rt wr ty g (i * 3) (L.length - i) (cap - i) (by omega) (fun q hq => hsome _ (by omega)) (fun q hq => hfz _)
        have HE := Lib.hid (show CellsW (wr.setCells g (i * 3) (List.replicate ((L.length - i) * 3) (.string ⟨#[]⟩))) g (M.take i) from ⟨by rw [size_setCells]; exact hlt, fun k hk => by
            have hki : k < i := by simp at hk; omega
            obtain ⟨c1, c2, c3⟩ := hcw.cell k (by omega)
            rw [List.getElem_take]
            refine ⟨?_, ?_, ?_⟩
            · rw [World.cell?_setCells_out _ _ _ _ _ (fun _ _ => .inl (by show k * 3 < i * 3; omega))]; exact c1
            · rw [World.cell?_setCells_out _ _ _ _ _ (fun _ _ => .inl (by show k * 3 + 1 < i * 3; omega))]; exact c2
            · rw [World.cell?_setCells_out _ _ _ _ _ (fun _ _ => .inl (by show k * 3 + 2 < i * 3; omega))]; exact c3, fun o => by rw [frozen_setCells]; exact hfz o⟩)
        have HBE := Lib.hid (below_setCells HB.out (show B ≤ g by omega) (List.replicate ((L.length - i) * 3) (.string ⟨#[]⟩)) (i * 3))
        clear hM2 hcw hsome hfz
        go_wp2_with (simp only [hclr])
        go_ret
        have hti : (M.take i).length = i := by simp; omega
        refine ⟨_, rfl, ?_, HBE.out⟩
        have := HE.out.reads (n := i) (cap := cap) (by omega) (by omega) (by rw [show maxLen = 9223372036854775807 from rfl]; omega)
        rw [List.take_of_length_le (by omega)] at this
        rw [← HM1.out]
        exact this
end Go.Proofs.YtgjemgilanhdiaaGreatDoor
namespace Go.Proofs.YtgjemgilanhdiaaGreatDoor
open Go.RowKit Go.Sort Go.Shelf
set_option linter.unusedVariables false
set_option linter.unusedSimpArgs false

set_option maxHeartbeats 1600000 in
set_option maxRecDepth 100000 in
theorem fit1 (f : Wrd) (g k : Nat) (host path : List UInt8) (w : World) (hc : w.cell? ⟨g, 0, none⟩ = some (.string (S host))) (hk : w.cell? ⟨k, 0, none⟩ = some (.string (S path))) (hg : g < w.heap.size) (hkk : k < w.heap.size) :
    Calls Tryz.prog 15 #[rtv f, .pointer (some ⟨g, 0, none⟩), .pointer (some ⟨k, 0, none⟩)] w fun e w' => e = .returned (.bool (!fitB host path f)) ∧ Below w.heap.size w w' := by
  obtain ⟨n, p, o⟩ := f
  unfold fitB
  simp only
  have C := Lib.hid (fun W => hasPrefix_S (s := path) (p := p) rfl W)
  have hfar := far hg
  have hfar2 := far hkk
  obtain ⟨b1, h1⟩ : ∃ b, n.isEmpty = b := ⟨_, rfl⟩
  obtain ⟨b2, h2⟩ : ∃ b, (n == host) = b := ⟨_, rfl⟩
  obtain ⟨b3, h3⟩ : ∃ b, Lib.hasPrefix path p = b := ⟨_, rfl⟩
  have h4 : (n != host) = !b2 := by simp only [bne, h2]
  rw [h3] at C
  rw [h1, h2, h3]
  have HH := Lib.hid h3
  clear h3
  go_enter Tryz.func15, Tryz.ntmps15
  cases b1 <;> cases b2 <;> cases b3 <;>
  · go_wp2_with (go_at_call 16; refine (C.out _).mono ?_; rintro e w1 ⟨rfl, hw1⟩; obtain rfl := hw1.symm)
    go_ret
    exact ⟨rfl, by (repeat (first | with_reducible exact Below.refl _ _ | with_reducible assumption | with_reducible refine Below.drew ?_ | (with_reducible refine Below.setCell ?_ ?_ _; rotate_left; (first | omega | (simp <;> omega))) | (with_reducible refine Below.alloc ?_ ?_ _; rotate_left; (first | omega | (simp <;> omega))) | exact Below.refl _ _ | assumption))⟩
theorem cmp_len (a b : Wrd) : cmpR a b = if (a.2.1.length : Int) - b.2.1.length ≠ 0 then (a.2.1.length : Int) - b.2.1.length else Lib.compareBytes a.1 b.1 := rfl
set_option maxHeartbeats 1600000 in
set_option maxRecDepth 100000 in
theorem cmp2 (a b : Wrd) (ha : a.2.1.length ≤ 9223372036854775807) (hb : b.2.1.length ≤ 9223372036854775807) (w : World) :
    Calls Tryz.prog 18 #[rtv a, rtv b] w fun e w' => e = .returned (.int .i64 (cmpR a b)) ∧ Below w.heap.size w w' := by
  have hE := Lib.hid (cmp_len a b)
  obtain ⟨a1, a2, a3⟩ := a
  obtain ⟨b1, b2, b3⟩ := b
  simp only at ha hb
  have C := Lib.hid (fun W => Tryz.strings_Compare (S a1) (S b1) W)
  have hw : IntKind.i64.wrap ((a2.length : Int) - b2.length) = (a2.length : Int) - b2.length := by rw [IntKind.wrap_i64]; omega
  by_cases h : (a2.length : Int) - b2.length = 0
  · have h1 : ((a2.length : Int) - b2.length == 0) = true := by simp [h]
    have h2 : ((a2.length : Int) - b2.length != 0) = false := by simp [h]
    have hE2 := Lib.hid (show cmpR (a1, a2, a3) (b1, b2, b3) = Lib.compareBytes a1 b1 by rw [hE.out]; show (if (a2.length : Int) - b2.length ≠ 0 then (a2.length : Int) - b2.length else Lib.compareBytes a1 b1) = _; rw [if_neg (by omega)])
    go_enter Tryz.func18, Tryz.ntmps18
    go_wp2_with (go_at_call 19; refine (C.out _).mono ?_; rintro e w1 ⟨rfl, hw1⟩; obtain rfl := hw1.symm)
    go_ret
    exact ⟨by rw [hE2.out]; rfl, by (repeat (first | with_reducible exact Below.refl _ _ | with_reducible assumption | with_reducible refine Below.drew ?_ | (with_reducible refine Below.setCell ?_ ?_ _; rotate_left; (first | omega | (simp <;> omega))) | (with_reducible refine Below.alloc ?_ ?_ _; rotate_left; (first | omega | (simp <;> omega))) | exact Below.refl _ _ | assumption))⟩
  · have h1 : ((a2.length : Int) - b2.length == 0) = false := by simp [h]
    have h2 : ((a2.length : Int) - b2.length != 0) = true := by simp [h]
    have hE2 := Lib.hid (show cmpR (a1, a2, a3) (b1, b2, b3) = (a2.length : Int) - b2.length by rw [hE.out]; show (if (a2.length : Int) - b2.length ≠ 0 then (a2.length : Int) - b2.length else Lib.compareBytes a1 b1) = _; rw [if_pos h])
    go_enter Tryz.func18, Tryz.ntmps18
    go_wp2
    go_ret
    exact ⟨by rw [hE2.out]; rfl, by (repeat (first | with_reducible exact Below.refl _ _ | with_reducible assumption | with_reducible refine Below.drew ?_ | (with_reducible refine Below.setCell ?_ ?_ _; rotate_left; (first | omega | (simp <;> omega))) | (with_reducible refine Below.alloc ?_ ?_ _; rotate_left; (first | omega | (simp <;> omega))) | exact Below.refl _ _ | assumption))⟩
end Go.Proofs.YtgjemgilanhdiaaGreatDoor
