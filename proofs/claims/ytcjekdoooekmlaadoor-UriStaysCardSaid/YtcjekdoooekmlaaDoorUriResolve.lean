/- The walks of Resolve and its reference. Written by tools/uriresolve.py. -/
import Derived.Test.YtcjekdoooekmlaaDoorUriResMath
namespace Go.Proofs.YtcjekdoooekmlaaDoor
open Go.RowKit Go.Shelf
set_option linter.unusedVariables false

theorem slash_first {p : List UInt8} (h : p ≠ []) : Lib.hasPrefix p [47] = decide (bAt p 0 = 47) := by
  cases p with
  | nil => exact absurd rfl h
  | cons c p =>
    have : Lib.hasPrefix (c :: p) [47] = (47 == c) := by unfold Lib.hasPrefix; simp [List.isPrefixOf]
    rw [this, bAt_eq (by simp : 0 < (c :: p).length)]
    rw [Bool.eq_iff_iff]
    simp only [beq_iff_eq, decide_eq_true_eq, List.getElem_cons_zero]
    exact ⟨fun h => by rw [← h]; rfl, fun h => by
      apply UInt8.toNat.inj
      have h' : c.toNat = 47 := by omega
      rw [h']; rfl⟩

set_option maxHeartbeats 6400000 in
set_option maxRecDepth 100000 in
theorem uriResolve (b u : UU) (hb : b.small) (hu : u.small) (w : World) (hL : Laid w) :
    Calls Tryd.prog 7 #[b.v, u.v] w fun e w' => e = .returned (.tuple #[(resolve b u).1.v, .int .i64 (resolve b u).2]) ∧ Below w.heap.size w w' := by
  have C1 := Lib.hid (fun W (hbl : Below w.heap.size w W) => rightC b hb.mid (W := W) hL hbl)
  have C2 := Lib.hid (fun W (hbl : Below w.heap.size w W) => rightC u hu.mid (W := W) hL hbl)
  have C3 := Lib.hid (fun a h n p q y (ho : resOut b u = ⟨a, h, n, p, q, y⟩) W (hbl : Below w.heap.size w W) => show Calls Tryd.prog 14 #[uv a h n p q y] W fun e w' => e = .returned (.bool (resOut b u).ok) ∧ Below W.heap.size W w' by
    have h1 := rightC (resOut b u) (resOut_mid b u hb hu) hL hbl
    rw [show (resOut b u).v = uv a h n p q y by rw [ho]] at h1
    exact h1)
  have CL := Lib.hid (fun l (hl : l.length ≤ 100000) W => clean_any (l := l) (r := cleanL l) hl rfl W)
  have LI := Lib.hid (fun W => lastIndex_S (l := b.p) (c := 47) (ci := 47) rfl (by have := hb.2.1; omega) rfl W)
  have hlo := lastL_lo b.p 47
  have hhi := lastL_hi b.p 47
  have HR := Lib.hid (show b.ok = true → u.ok = true → b.a = true → resolve b u = if (resOut b u).ok then (resOut b u, 0) else (UU.nil, 2) from fun h1 h2 h3 => by unfold resolve; rw [h1, h2, h3]; rfl)
  have HF := Lib.hid (show b.ok = false ∨ u.ok = false ∨ b.a = false → resolve b u = (UU.nil, 1) from fun h => by unfold resolve; rcases h with h | h | h <;> rw [h] <;> simp)
  have HO := Lib.hid (show resOut b u = ⟨true, if u.a then u.h else b.h, if u.a then u.n else b.n, resPath b u, if u.p = [] ∧ u.q = false then b.q else u.q, if u.p = [] ∧ u.q = false then b.y else u.y⟩ from rfl)
  have HP := Lib.hid (show resPath b u = if u.p = [] then b.p else if bAt u.p 0 = 47 then cleanL u.p else cleanL (b.p.take (lastL b.p 47 + 1).toNat ++ u.p) from rfl)
  obtain ⟨res, hres⟩ : ∃ x, resolve b u = x := ⟨_, rfl⟩
  rw [hres] at HR HF ⊢
  clear hres
  obtain ⟨ro, hro⟩ : ∃ x, resOut b u = x := ⟨_, rfl⟩
  simp only [hro] at HR HO C3
  clear hro
  obtain ⟨ok, hok⟩ : ∃ x, ro.ok = x := ⟨_, rfl⟩
  simp only [hok] at HR C3
  clear hok
  obtain ⟨rp, hrp⟩ : ∃ x, resPath b u = x := ⟨_, rfl⟩
  rw [hrp] at HO HP
  clear hrp
  obtain ⟨bb, hbb⟩ : ∃ x, b.ok = x := ⟨_, rfl⟩
  obtain ⟨ub, hub⟩ : ∃ x, u.ok = x := ⟨_, rfl⟩
  simp only [hbb] at C1 HR HF
  simp only [hub] at C2 HR HF
  clear hbb hub
  obtain ⟨ba, bh, bn, bp, bq, by'⟩ := b
  obtain ⟨ua, uh, un, up, uq, uy⟩ := u
  obtain ⟨hb1, hb2, hb3⟩ := hb
  obtain ⟨hu1, hu2, hu3⟩ := hu
  simp only [UU.v] at C1 C2 ⊢
  simp only at HO HP HF HR LI hlo hhi hb1 hb2 hb3 hu1 hu2 hu3
  obtain ⟨k, hk⟩ : ∃ x, lastL bp 47 = x := ⟨_, rfl⟩
  rw [hk] at LI HP hlo hhi
  clear hk
  obtain ⟨k1, hk1⟩ : ∃ m : Nat, k + 1 = m := ⟨(k + 1).toNat, by omega⟩
  obtain rfl : k = (k1 : Int) - 1 := by omega
  have hkb : k1 ≤ bp.length := by omega
  have HP := Lib.hid (show rp = if up = [] then bp else if bAt up 0 = 47 then cleanL up else cleanL (bp.take k1 ++ up) by rw [HP.out, hk1]; rfl)
  clear hlo hhi hk1
  go_enter Tryd.func7, Tryd.ntmps7
  go_wp2_with fail
  refine Calls.mono (C1.out _ (by (repeat (first | (with_reducible exact Below.refl _ _) | (with_reducible assumption) | (with_reducible refine Below.drew ?_) | (focus ((with_reducible refine Below.setCell ?_ ?_ _); rotate_left; (first | omega | (simp <;> omega)))) | (focus ((with_reducible refine Below.alloc ?_ ?_ _); rotate_left; (first | omega | (simp <;> omega)))) | exact Below.refl _ _ | assumption | refine Below.drew ?_ | refine Below.alloc ?_ (by first | omega | (simp <;> omega)) _ | refine Below.setCell ?_ (by first | omega | (simp <;> omega)) _)))) ?_
  rintro e w1 ⟨rfl, hb_w1⟩
  have hz_w1 := hb_w1.size
  try simp at hz_w1
  obtain ⟨c_w1_w_0, f_w1_w_0⟩ := bk hb_w1 (w.heap.size) (by first | omega | (simp <;> omega))
  have c_w1_w_0_0 := c_w1_w_0 0
  conv at c_w1_w_0_0 => rhs; simp [go_sem, *]
  have f_w1_w_0_0 := f_w1_w_0 0
  conv at f_w1_w_0_0 => rhs; simp [go_sem, *]
  have c_w1_w_0_1 := c_w1_w_0 1
  conv at c_w1_w_0_1 => rhs; simp [go_sem, *]
  have f_w1_w_0_1 := f_w1_w_0 1
  conv at f_w1_w_0_1 => rhs; simp [go_sem, *]
  have c_w1_w_0_2 := c_w1_w_0 2
  conv at c_w1_w_0_2 => rhs; simp [go_sem, *]
  have f_w1_w_0_2 := f_w1_w_0 2
  conv at f_w1_w_0_2 => rhs; simp [go_sem, *]
  have c_w1_w_0_3 := c_w1_w_0 3
  conv at c_w1_w_0_3 => rhs; simp [go_sem, *]
  have f_w1_w_0_3 := f_w1_w_0 3
  conv at f_w1_w_0_3 => rhs; simp [go_sem, *]
  have c_w1_w_0_4 := c_w1_w_0 4
  conv at c_w1_w_0_4 => rhs; simp [go_sem, *]
  have f_w1_w_0_4 := f_w1_w_0 4
  conv at f_w1_w_0_4 => rhs; simp [go_sem, *]
  have c_w1_w_0_5 := c_w1_w_0 5
  conv at c_w1_w_0_5 => rhs; simp [go_sem, *]
  have f_w1_w_0_5 := f_w1_w_0 5
  conv at f_w1_w_0_5 => rhs; simp [go_sem, *]
  obtain ⟨c_w1_w_1, f_w1_w_1⟩ := bk hb_w1 (w.heap.size + 1) (by first | omega | (simp <;> omega))
  have c_w1_w_1_0 := c_w1_w_1 0
  conv at c_w1_w_1_0 => rhs; simp [go_sem, *]
  have f_w1_w_1_0 := f_w1_w_1 0
  conv at f_w1_w_1_0 => rhs; simp [go_sem, *]
  have c_w1_w_1_1 := c_w1_w_1 1
  conv at c_w1_w_1_1 => rhs; simp [go_sem, *]
  have f_w1_w_1_1 := f_w1_w_1 1
  conv at f_w1_w_1_1 => rhs; simp [go_sem, *]
  have c_w1_w_1_2 := c_w1_w_1 2
  conv at c_w1_w_1_2 => rhs; simp [go_sem, *]
  have f_w1_w_1_2 := f_w1_w_1 2
  conv at f_w1_w_1_2 => rhs; simp [go_sem, *]
  have c_w1_w_1_3 := c_w1_w_1 3
  conv at c_w1_w_1_3 => rhs; simp [go_sem, *]
  have f_w1_w_1_3 := f_w1_w_1 3
  conv at f_w1_w_1_3 => rhs; simp [go_sem, *]
  have c_w1_w_1_4 := c_w1_w_1 4
  conv at c_w1_w_1_4 => rhs; simp [go_sem, *]
  have f_w1_w_1_4 := f_w1_w_1 4
  conv at f_w1_w_1_4 => rhs; simp [go_sem, *]
  have c_w1_w_1_5 := c_w1_w_1 5
  conv at c_w1_w_1_5 => rhs; simp [go_sem, *]
  have f_w1_w_1_5 := f_w1_w_1 5
  conv at f_w1_w_1_5 => rhs; simp [go_sem, *]
  obtain ⟨c_w1_w_2, f_w1_w_2⟩ := bk hb_w1 (w.heap.size + 2) (by first | omega | (simp <;> omega))
  have c_w1_w_2_0 := c_w1_w_2 0
  conv at c_w1_w_2_0 => rhs; simp [go_sem, *]
  have f_w1_w_2_0 := f_w1_w_2 0
  conv at f_w1_w_2_0 => rhs; simp [go_sem, *]
  have c_w1_w_2_1 := c_w1_w_2 1
  conv at c_w1_w_2_1 => rhs; simp [go_sem, *]
  have f_w1_w_2_1 := f_w1_w_2 1
  conv at f_w1_w_2_1 => rhs; simp [go_sem, *]
  have c_w1_w_2_2 := c_w1_w_2 2
  conv at c_w1_w_2_2 => rhs; simp [go_sem, *]
  have f_w1_w_2_2 := f_w1_w_2 2
  conv at f_w1_w_2_2 => rhs; simp [go_sem, *]
  have c_w1_w_2_3 := c_w1_w_2 3
  conv at c_w1_w_2_3 => rhs; simp [go_sem, *]
  have f_w1_w_2_3 := f_w1_w_2 3
  conv at f_w1_w_2_3 => rhs; simp [go_sem, *]
  have c_w1_w_2_4 := c_w1_w_2 4
  conv at c_w1_w_2_4 => rhs; simp [go_sem, *]
  have f_w1_w_2_4 := f_w1_w_2 4
  conv at f_w1_w_2_4 => rhs; simp [go_sem, *]
  have c_w1_w_2_5 := c_w1_w_2 5
  conv at c_w1_w_2_5 => rhs; simp [go_sem, *]
  have f_w1_w_2_5 := f_w1_w_2 5
  conv at f_w1_w_2_5 => rhs; simp [go_sem, *]
  have hB_w1 : Below w.heap.size w w1 := Below.trans (by (repeat (first | (with_reducible exact Below.refl _ _) | (with_reducible assumption) | (with_reducible refine Below.drew ?_) | (focus ((with_reducible refine Below.setCell ?_ ?_ _); rotate_left; (first | omega | (simp <;> omega)))) | (focus ((with_reducible refine Below.alloc ?_ ?_ _); rotate_left; (first | omega | (simp <;> omega)))) | exact Below.refl _ _ | assumption | refine Below.drew ?_ | refine Below.alloc ?_ (by first | omega | (simp <;> omega)) _ | refine Below.setCell ?_ (by first | omega | (simp <;> omega)) _))) (hb_w1.mono (by first | omega | (simp <;> omega)))
  clear hb_w1 c_w1_w_0 f_w1_w_0 c_w1_w_1 f_w1_w_1 c_w1_w_2 f_w1_w_2
  have far_w1_w_0 := far (show w.heap.size < w1.heap.size by omega)
  have far_w1_w_1 := far (show w.heap.size + 1 < w1.heap.size by omega)
  have far_w1_w_2 := far (show w.heap.size + 2 < w1.heap.size by omega)
  cases bb with
  | false =>
    go_wp2
    exact bodyPost_ret (v := .tuple #[uv false [] 0 [] false [], .int .i64 1]) (by simp [results, Tryd.results7, go_sem, *]) rfl ⟨by rw [HF.out (by simp)]; rfl, by (repeat (first | (with_reducible exact Below.refl _ _) | (with_reducible assumption) | (with_reducible refine Below.drew ?_) | (focus ((with_reducible refine Below.setCell ?_ ?_ _); rotate_left; (first | omega | (simp <;> omega)))) | (focus ((with_reducible refine Below.alloc ?_ ?_ _); rotate_left; (first | omega | (simp <;> omega)))) | exact Below.refl _ _ | assumption | refine Below.drew ?_ | refine Below.alloc ?_ (by first | omega | (simp <;> omega)) _ | refine Below.setCell ?_ (by first | omega | (simp <;> omega)) _))⟩
  | true =>
    go_wp2_with fail
    refine Calls.mono (C2.out _ (by (repeat (first | (with_reducible exact Below.refl _ _) | (with_reducible assumption) | (with_reducible refine Below.drew ?_) | (focus ((with_reducible refine Below.setCell ?_ ?_ _); rotate_left; (first | omega | (simp <;> omega)))) | (focus ((with_reducible refine Below.alloc ?_ ?_ _); rotate_left; (first | omega | (simp <;> omega)))) | exact Below.refl _ _ | assumption | refine Below.drew ?_ | refine Below.alloc ?_ (by first | omega | (simp <;> omega)) _ | refine Below.setCell ?_ (by first | omega | (simp <;> omega)) _)))) ?_
    rintro e w2 ⟨rfl, hb_w2⟩
    have hz_w2 := hb_w2.size
    try simp at hz_w2
    obtain ⟨c_w2_w_0, f_w2_w_0⟩ := bk hb_w2 (w.heap.size) (by first | omega | (simp <;> omega))
    have c_w2_w_0_0 := c_w2_w_0 0
    conv at c_w2_w_0_0 => rhs; simp [go_sem, *]
    have f_w2_w_0_0 := f_w2_w_0 0
    conv at f_w2_w_0_0 => rhs; simp [go_sem, *]
    have c_w2_w_0_1 := c_w2_w_0 1
    conv at c_w2_w_0_1 => rhs; simp [go_sem, *]
    have f_w2_w_0_1 := f_w2_w_0 1
    conv at f_w2_w_0_1 => rhs; simp [go_sem, *]
    have c_w2_w_0_2 := c_w2_w_0 2
    conv at c_w2_w_0_2 => rhs; simp [go_sem, *]
    have f_w2_w_0_2 := f_w2_w_0 2
    conv at f_w2_w_0_2 => rhs; simp [go_sem, *]
    have c_w2_w_0_3 := c_w2_w_0 3
    conv at c_w2_w_0_3 => rhs; simp [go_sem, *]
    have f_w2_w_0_3 := f_w2_w_0 3
    conv at f_w2_w_0_3 => rhs; simp [go_sem, *]
    have c_w2_w_0_4 := c_w2_w_0 4
    conv at c_w2_w_0_4 => rhs; simp [go_sem, *]
    have f_w2_w_0_4 := f_w2_w_0 4
    conv at f_w2_w_0_4 => rhs; simp [go_sem, *]
    have c_w2_w_0_5 := c_w2_w_0 5
    conv at c_w2_w_0_5 => rhs; simp [go_sem, *]
    have f_w2_w_0_5 := f_w2_w_0 5
    conv at f_w2_w_0_5 => rhs; simp [go_sem, *]
    obtain ⟨c_w2_w_1, f_w2_w_1⟩ := bk hb_w2 (w.heap.size + 1) (by first | omega | (simp <;> omega))
    have c_w2_w_1_0 := c_w2_w_1 0
    conv at c_w2_w_1_0 => rhs; simp [go_sem, *]
    have f_w2_w_1_0 := f_w2_w_1 0
    conv at f_w2_w_1_0 => rhs; simp [go_sem, *]
    have c_w2_w_1_1 := c_w2_w_1 1
    conv at c_w2_w_1_1 => rhs; simp [go_sem, *]
    have f_w2_w_1_1 := f_w2_w_1 1
    conv at f_w2_w_1_1 => rhs; simp [go_sem, *]
    have c_w2_w_1_2 := c_w2_w_1 2
    conv at c_w2_w_1_2 => rhs; simp [go_sem, *]
    have f_w2_w_1_2 := f_w2_w_1 2
    conv at f_w2_w_1_2 => rhs; simp [go_sem, *]
    have c_w2_w_1_3 := c_w2_w_1 3
    conv at c_w2_w_1_3 => rhs; simp [go_sem, *]
    have f_w2_w_1_3 := f_w2_w_1 3
    conv at f_w2_w_1_3 => rhs; simp [go_sem, *]
    have c_w2_w_1_4 := c_w2_w_1 4
    conv at c_w2_w_1_4 => rhs; simp [go_sem, *]
    have f_w2_w_1_4 := f_w2_w_1 4
    conv at f_w2_w_1_4 => rhs; simp [go_sem, *]
    have c_w2_w_1_5 := c_w2_w_1 5
    conv at c_w2_w_1_5 => rhs; simp [go_sem, *]
    have f_w2_w_1_5 := f_w2_w_1 5
    conv at f_w2_w_1_5 => rhs; simp [go_sem, *]
    obtain ⟨c_w2_w_2, f_w2_w_2⟩ := bk hb_w2 (w.heap.size + 2) (by first | omega | (simp <;> omega))
    have c_w2_w_2_0 := c_w2_w_2 0
    conv at c_w2_w_2_0 => rhs; simp [go_sem, *]
    have f_w2_w_2_0 := f_w2_w_2 0
    conv at f_w2_w_2_0 => rhs; simp [go_sem, *]
    have c_w2_w_2_1 := c_w2_w_2 1
    conv at c_w2_w_2_1 => rhs; simp [go_sem, *]
    have f_w2_w_2_1 := f_w2_w_2 1
    conv at f_w2_w_2_1 => rhs; simp [go_sem, *]
    have c_w2_w_2_2 := c_w2_w_2 2
    conv at c_w2_w_2_2 => rhs; simp [go_sem, *]
    have f_w2_w_2_2 := f_w2_w_2 2
    conv at f_w2_w_2_2 => rhs; simp [go_sem, *]
    have c_w2_w_2_3 := c_w2_w_2 3
    conv at c_w2_w_2_3 => rhs; simp [go_sem, *]
    have f_w2_w_2_3 := f_w2_w_2 3
    conv at f_w2_w_2_3 => rhs; simp [go_sem, *]
    have c_w2_w_2_4 := c_w2_w_2 4
    conv at c_w2_w_2_4 => rhs; simp [go_sem, *]
    have f_w2_w_2_4 := f_w2_w_2 4
    conv at f_w2_w_2_4 => rhs; simp [go_sem, *]
    have c_w2_w_2_5 := c_w2_w_2 5
    conv at c_w2_w_2_5 => rhs; simp [go_sem, *]
    have f_w2_w_2_5 := f_w2_w_2 5
    conv at f_w2_w_2_5 => rhs; simp [go_sem, *]
    have hB_w2 : Below w.heap.size w w2 := Below.trans (by (repeat (first | (with_reducible exact Below.refl _ _) | (with_reducible assumption) | (with_reducible refine Below.drew ?_) | (focus ((with_reducible refine Below.setCell ?_ ?_ _); rotate_left; (first | omega | (simp <;> omega)))) | (focus ((with_reducible refine Below.alloc ?_ ?_ _); rotate_left; (first | omega | (simp <;> omega)))) | exact Below.refl _ _ | assumption | refine Below.drew ?_ | refine Below.alloc ?_ (by first | omega | (simp <;> omega)) _ | refine Below.setCell ?_ (by first | omega | (simp <;> omega)) _))) (hb_w2.mono (by first | omega | (simp <;> omega)))
    clear hb_w2 c_w2_w_0 f_w2_w_0 c_w2_w_1 f_w2_w_1 c_w2_w_2 f_w2_w_2
    try clear c_w1_w_0_0
    try clear f_w1_w_0_0
    try clear c_w1_w_0_1
    try clear f_w1_w_0_1
    try clear c_w1_w_0_2
    try clear f_w1_w_0_2
    try clear c_w1_w_0_3
    try clear f_w1_w_0_3
    try clear c_w1_w_0_4
    try clear f_w1_w_0_4
    try clear c_w1_w_0_5
    try clear f_w1_w_0_5
    try clear c_w1_w_1_0
    try clear f_w1_w_1_0
    try clear c_w1_w_1_1
    try clear f_w1_w_1_1
    try clear c_w1_w_1_2
    try clear f_w1_w_1_2
    try clear c_w1_w_1_3
    try clear f_w1_w_1_3
    try clear c_w1_w_1_4
    try clear f_w1_w_1_4
    try clear c_w1_w_1_5
    try clear f_w1_w_1_5
    try clear c_w1_w_2_0
    try clear f_w1_w_2_0
    try clear c_w1_w_2_1
    try clear f_w1_w_2_1
    try clear c_w1_w_2_2
    try clear f_w1_w_2_2
    try clear c_w1_w_2_3
    try clear f_w1_w_2_3
    try clear c_w1_w_2_4
    try clear f_w1_w_2_4
    try clear c_w1_w_2_5
    try clear f_w1_w_2_5
    try clear far_w1_w_0
    try clear far_w1_w_1
    try clear far_w1_w_2
    try clear hB_w1
    have far_w2_w_0 := far (show w.heap.size < w2.heap.size by omega)
    have far_w2_w_1 := far (show w.heap.size + 1 < w2.heap.size by omega)
    have far_w2_w_2 := far (show w.heap.size + 2 < w2.heap.size by omega)
    cases ub with
    | false =>
      go_wp2
      exact bodyPost_ret (v := .tuple #[uv false [] 0 [] false [], .int .i64 1]) (by simp [results, Tryd.results7, go_sem, *]) rfl ⟨by rw [HF.out (by simp)]; rfl, by (repeat (first | (with_reducible exact Below.refl _ _) | (with_reducible assumption) | (with_reducible refine Below.drew ?_) | (focus ((with_reducible refine Below.setCell ?_ ?_ _); rotate_left; (first | omega | (simp <;> omega)))) | (focus ((with_reducible refine Below.alloc ?_ ?_ _); rotate_left; (first | omega | (simp <;> omega)))) | exact Below.refl _ _ | assumption | refine Below.drew ?_ | refine Below.alloc ?_ (by first | omega | (simp <;> omega)) _ | refine Below.setCell ?_ (by first | omega | (simp <;> omega)) _))⟩
    | true =>
      cases ba with
      | false =>
        go_wp2
        exact bodyPost_ret (v := .tuple #[uv false [] 0 [] false [], .int .i64 1]) (by simp [results, Tryd.results7, go_sem, *]) rfl ⟨by rw [HF.out (by simp)]; rfl, by (repeat (first | (with_reducible exact Below.refl _ _) | (with_reducible assumption) | (with_reducible refine Below.drew ?_) | (focus ((with_reducible refine Below.setCell ?_ ?_ _); rotate_left; (first | omega | (simp <;> omega)))) | (focus ((with_reducible refine Below.alloc ?_ ?_ _); rotate_left; (first | omega | (simp <;> omega)))) | exact Below.refl _ _ | assumption | refine Below.drew ?_ | refine Below.alloc ?_ (by first | omega | (simp <;> omega)) _ | refine Below.setCell ?_ (by first | omega | (simp <;> omega)) _))⟩
      | true =>
        have HRt := Lib.hid (show ok = true → res = (ro, 0) from fun h => by have := HR.out (by simp) (by simp) (by simp); rw [h] at this; exact this)
        have HRf := Lib.hid (show ok = false → res = (UU.nil, 2) from fun h => by have := HR.out (by simp) (by simp) (by simp); rw [h] at this; exact this)
        clear HR HF
        cases ua with
        | false =>
          go_wp2_with fail
          go_region
          by_cases hp : up = []
          · have hp1 : (up == []) = true := by simpa using hp
            have HPx := Lib.hid (show rp = bp by rw [HP.out]; simp [hp])
            subst hp
            cases uq with
            | false =>
              go_wp2_with fail
              go_region
              have HOx := Lib.hid (show ro = ⟨true, bh, bn, bp, bq, by'⟩ by rw [HO.out]; simp [HPx.out])
              go_wp2_with fail
              refine Calls.mono (C3.out _ _ _ _ _ _ HOx.out _ (by (repeat (first | (with_reducible exact Below.refl _ _) | (with_reducible assumption) | (with_reducible refine Below.drew ?_) | (focus ((with_reducible refine Below.setCell ?_ ?_ _); rotate_left; (first | omega | (simp <;> omega)))) | (focus ((with_reducible refine Below.alloc ?_ ?_ _); rotate_left; (first | omega | (simp <;> omega)))) | exact Below.refl _ _ | assumption | refine Below.drew ?_ | refine Below.alloc ?_ (by first | omega | (simp <;> omega)) _ | refine Below.setCell ?_ (by first | omega | (simp <;> omega)) _)))) ?_
              rintro e w4 ⟨rfl, hb_w4⟩
              have hz_w4 := hb_w4.size
              try simp at hz_w4
              obtain ⟨c_w4_w_2, f_w4_w_2⟩ := bk hb_w4 (w.heap.size + 2) (by first | omega | (simp <;> omega))
              have c_w4_w_2_0 := c_w4_w_2 0
              conv at c_w4_w_2_0 => rhs; simp [go_sem, *]
              have f_w4_w_2_0 := f_w4_w_2 0
              conv at f_w4_w_2_0 => rhs; simp [go_sem, *]
              have c_w4_w_2_1 := c_w4_w_2 1
              conv at c_w4_w_2_1 => rhs; simp [go_sem, *]
              have f_w4_w_2_1 := f_w4_w_2 1
              conv at f_w4_w_2_1 => rhs; simp [go_sem, *]
              have c_w4_w_2_2 := c_w4_w_2 2
              conv at c_w4_w_2_2 => rhs; simp [go_sem, *]
              have f_w4_w_2_2 := f_w4_w_2 2
              conv at f_w4_w_2_2 => rhs; simp [go_sem, *]
              have c_w4_w_2_3 := c_w4_w_2 3
              conv at c_w4_w_2_3 => rhs; simp [go_sem, *]
              have f_w4_w_2_3 := f_w4_w_2 3
              conv at f_w4_w_2_3 => rhs; simp [go_sem, *]
              have c_w4_w_2_4 := c_w4_w_2 4
              conv at c_w4_w_2_4 => rhs; simp [go_sem, *]
              have f_w4_w_2_4 := f_w4_w_2 4
              conv at f_w4_w_2_4 => rhs; simp [go_sem, *]
              have c_w4_w_2_5 := c_w4_w_2 5
              conv at c_w4_w_2_5 => rhs; simp [go_sem, *]
              have f_w4_w_2_5 := f_w4_w_2 5
              conv at f_w4_w_2_5 => rhs; simp [go_sem, *]
              obtain ⟨c_w4_w2_0, f_w4_w2_0⟩ := bk hb_w4 (w2.heap.size) (by first | omega | (simp <;> omega))
              have c_w4_w2_0_0 := c_w4_w2_0 0
              conv at c_w4_w2_0_0 => rhs; simp [go_sem, *]
              have f_w4_w2_0_0 := f_w4_w2_0 0
              conv at f_w4_w2_0_0 => rhs; simp [go_sem, *]
              have c_w4_w2_0_1 := c_w4_w2_0 1
              conv at c_w4_w2_0_1 => rhs; simp [go_sem, *]
              have f_w4_w2_0_1 := f_w4_w2_0 1
              conv at f_w4_w2_0_1 => rhs; simp [go_sem, *]
              have c_w4_w2_0_2 := c_w4_w2_0 2
              conv at c_w4_w2_0_2 => rhs; simp [go_sem, *]
              have f_w4_w2_0_2 := f_w4_w2_0 2
              conv at f_w4_w2_0_2 => rhs; simp [go_sem, *]
              have c_w4_w2_0_3 := c_w4_w2_0 3
              conv at c_w4_w2_0_3 => rhs; simp [go_sem, *]
              have f_w4_w2_0_3 := f_w4_w2_0 3
              conv at f_w4_w2_0_3 => rhs; simp [go_sem, *]
              have c_w4_w2_0_4 := c_w4_w2_0 4
              conv at c_w4_w2_0_4 => rhs; simp [go_sem, *]
              have f_w4_w2_0_4 := f_w4_w2_0 4
              conv at f_w4_w2_0_4 => rhs; simp [go_sem, *]
              have c_w4_w2_0_5 := c_w4_w2_0 5
              conv at c_w4_w2_0_5 => rhs; simp [go_sem, *]
              have f_w4_w2_0_5 := f_w4_w2_0 5
              conv at f_w4_w2_0_5 => rhs; simp [go_sem, *]
              have hB_w4 : Below w.heap.size w w4 := Below.trans (by (repeat (first | (with_reducible exact Below.refl _ _) | (with_reducible assumption) | (with_reducible refine Below.drew ?_) | (focus ((with_reducible refine Below.setCell ?_ ?_ _); rotate_left; (first | omega | (simp <;> omega)))) | (focus ((with_reducible refine Below.alloc ?_ ?_ _); rotate_left; (first | omega | (simp <;> omega)))) | exact Below.refl _ _ | assumption | refine Below.drew ?_ | refine Below.alloc ?_ (by first | omega | (simp <;> omega)) _ | refine Below.setCell ?_ (by first | omega | (simp <;> omega)) _))) (hb_w4.mono (by first | omega | (simp <;> omega)))
              clear hb_w4 c_w4_w_2 f_w4_w_2 c_w4_w2_0 f_w4_w2_0
              try clear c_w2_w_0_0
              try clear f_w2_w_0_0
              try clear c_w2_w_0_1
              try clear f_w2_w_0_1
              try clear c_w2_w_0_2
              try clear f_w2_w_0_2
              try clear c_w2_w_0_3
              try clear f_w2_w_0_3
              try clear c_w2_w_0_4
              try clear f_w2_w_0_4
              try clear c_w2_w_0_5
              try clear f_w2_w_0_5
              try clear c_w2_w_1_0
              try clear f_w2_w_1_0
              try clear c_w2_w_1_1
              try clear f_w2_w_1_1
              try clear c_w2_w_1_2
              try clear f_w2_w_1_2
              try clear c_w2_w_1_3
              try clear f_w2_w_1_3
              try clear c_w2_w_1_4
              try clear f_w2_w_1_4
              try clear c_w2_w_1_5
              try clear f_w2_w_1_5
              try clear c_w2_w_2_0
              try clear f_w2_w_2_0
              try clear c_w2_w_2_1
              try clear f_w2_w_2_1
              try clear c_w2_w_2_2
              try clear f_w2_w_2_2
              try clear c_w2_w_2_3
              try clear f_w2_w_2_3
              try clear c_w2_w_2_4
              try clear f_w2_w_2_4
              try clear c_w2_w_2_5
              try clear f_w2_w_2_5
              try clear far_w2_w_0
              try clear far_w2_w_1
              try clear far_w2_w_2
              try clear hB_w2
              have far_w4_w_2 := far (show w.heap.size + 2 < w4.heap.size by omega)
              have far_w4_w2_0 := far (show w2.heap.size < w4.heap.size by omega)
              cases ok with
              | false =>
                go_wp2
                exact bodyPost_ret (v := .tuple #[uv false [] 0 [] false [], .int .i64 2]) (by simp [results, Tryd.results7, go_sem, *]) rfl ⟨by rw [HRf.out (by simp)]; rfl, by (repeat (first | (with_reducible exact Below.refl _ _) | (with_reducible assumption) | (with_reducible refine Below.drew ?_) | (focus ((with_reducible refine Below.setCell ?_ ?_ _); rotate_left; (first | omega | (simp <;> omega)))) | (focus ((with_reducible refine Below.alloc ?_ ?_ _); rotate_left; (first | omega | (simp <;> omega)))) | exact Below.refl _ _ | assumption | refine Below.drew ?_ | refine Below.alloc ?_ (by first | omega | (simp <;> omega)) _ | refine Below.setCell ?_ (by first | omega | (simp <;> omega)) _))⟩
              | true =>
                go_wp2
                exact bodyPost_ret (v := .tuple #[uv true bh bn bp bq by', .int .i64 0]) (by simp [results, Tryd.results7, go_sem, *]) rfl ⟨by rw [HRt.out (by simp), HOx.out], by (repeat (first | (with_reducible exact Below.refl _ _) | (with_reducible assumption) | (with_reducible refine Below.drew ?_) | (focus ((with_reducible refine Below.setCell ?_ ?_ _); rotate_left; (first | omega | (simp <;> omega)))) | (focus ((with_reducible refine Below.alloc ?_ ?_ _); rotate_left; (first | omega | (simp <;> omega)))) | exact Below.refl _ _ | assumption | refine Below.drew ?_ | refine Below.alloc ?_ (by first | omega | (simp <;> omega)) _ | refine Below.setCell ?_ (by first | omega | (simp <;> omega)) _))⟩
            | true =>
              have HOx := Lib.hid (show ro = ⟨true, bh, bn, bp, true, uy⟩ by rw [HO.out]; simp [HPx.out])
              go_wp2_with fail
              refine Calls.mono (C3.out _ _ _ _ _ _ HOx.out _ (by (repeat (first | (with_reducible exact Below.refl _ _) | (with_reducible assumption) | (with_reducible refine Below.drew ?_) | (focus ((with_reducible refine Below.setCell ?_ ?_ _); rotate_left; (first | omega | (simp <;> omega)))) | (focus ((with_reducible refine Below.alloc ?_ ?_ _); rotate_left; (first | omega | (simp <;> omega)))) | exact Below.refl _ _ | assumption | refine Below.drew ?_ | refine Below.alloc ?_ (by first | omega | (simp <;> omega)) _ | refine Below.setCell ?_ (by first | omega | (simp <;> omega)) _)))) ?_
              rintro e w4 ⟨rfl, hb_w4⟩
              have hz_w4 := hb_w4.size
              try simp at hz_w4
              obtain ⟨c_w4_w_2, f_w4_w_2⟩ := bk hb_w4 (w.heap.size + 2) (by first | omega | (simp <;> omega))
              have c_w4_w_2_0 := c_w4_w_2 0
              conv at c_w4_w_2_0 => rhs; simp [go_sem, *]
              have f_w4_w_2_0 := f_w4_w_2 0
              conv at f_w4_w_2_0 => rhs; simp [go_sem, *]
              have c_w4_w_2_1 := c_w4_w_2 1
              conv at c_w4_w_2_1 => rhs; simp [go_sem, *]
              have f_w4_w_2_1 := f_w4_w_2 1
              conv at f_w4_w_2_1 => rhs; simp [go_sem, *]
              have c_w4_w_2_2 := c_w4_w_2 2
              conv at c_w4_w_2_2 => rhs; simp [go_sem, *]
              have f_w4_w_2_2 := f_w4_w_2 2
              conv at f_w4_w_2_2 => rhs; simp [go_sem, *]
              have c_w4_w_2_3 := c_w4_w_2 3
              conv at c_w4_w_2_3 => rhs; simp [go_sem, *]
              have f_w4_w_2_3 := f_w4_w_2 3
              conv at f_w4_w_2_3 => rhs; simp [go_sem, *]
              have c_w4_w_2_4 := c_w4_w_2 4
              conv at c_w4_w_2_4 => rhs; simp [go_sem, *]
              have f_w4_w_2_4 := f_w4_w_2 4
              conv at f_w4_w_2_4 => rhs; simp [go_sem, *]
              have c_w4_w_2_5 := c_w4_w_2 5
              conv at c_w4_w_2_5 => rhs; simp [go_sem, *]
              have f_w4_w_2_5 := f_w4_w_2 5
              conv at f_w4_w_2_5 => rhs; simp [go_sem, *]
              obtain ⟨c_w4_w2_0, f_w4_w2_0⟩ := bk hb_w4 (w2.heap.size) (by first | omega | (simp <;> omega))
              have c_w4_w2_0_0 := c_w4_w2_0 0
              conv at c_w4_w2_0_0 => rhs; simp [go_sem, *]
              have f_w4_w2_0_0 := f_w4_w2_0 0
              conv at f_w4_w2_0_0 => rhs; simp [go_sem, *]
              have c_w4_w2_0_1 := c_w4_w2_0 1
              conv at c_w4_w2_0_1 => rhs; simp [go_sem, *]
              have f_w4_w2_0_1 := f_w4_w2_0 1
              conv at f_w4_w2_0_1 => rhs; simp [go_sem, *]
              have c_w4_w2_0_2 := c_w4_w2_0 2
              conv at c_w4_w2_0_2 => rhs; simp [go_sem, *]
              have f_w4_w2_0_2 := f_w4_w2_0 2
              conv at f_w4_w2_0_2 => rhs; simp [go_sem, *]
              have c_w4_w2_0_3 := c_w4_w2_0 3
              conv at c_w4_w2_0_3 => rhs; simp [go_sem, *]
              have f_w4_w2_0_3 := f_w4_w2_0 3
              conv at f_w4_w2_0_3 => rhs; simp [go_sem, *]
              have c_w4_w2_0_4 := c_w4_w2_0 4
              conv at c_w4_w2_0_4 => rhs; simp [go_sem, *]
              have f_w4_w2_0_4 := f_w4_w2_0 4
              conv at f_w4_w2_0_4 => rhs; simp [go_sem, *]
              have c_w4_w2_0_5 := c_w4_w2_0 5
              conv at c_w4_w2_0_5 => rhs; simp [go_sem, *]
              have f_w4_w2_0_5 := f_w4_w2_0 5
              conv at f_w4_w2_0_5 => rhs; simp [go_sem, *]
              have hB_w4 : Below w.heap.size w w4 := Below.trans (by (repeat (first | (with_reducible exact Below.refl _ _) | (with_reducible assumption) | (with_reducible refine Below.drew ?_) | (focus ((with_reducible refine Below.setCell ?_ ?_ _); rotate_left; (first | omega | (simp <;> omega)))) | (focus ((with_reducible refine Below.alloc ?_ ?_ _); rotate_left; (first | omega | (simp <;> omega)))) | exact Below.refl _ _ | assumption | refine Below.drew ?_ | refine Below.alloc ?_ (by first | omega | (simp <;> omega)) _ | refine Below.setCell ?_ (by first | omega | (simp <;> omega)) _))) (hb_w4.mono (by first | omega | (simp <;> omega)))
              clear hb_w4 c_w4_w_2 f_w4_w_2 c_w4_w2_0 f_w4_w2_0
              have far_w4_w_2 := far (show w.heap.size + 2 < w4.heap.size by omega)
              have far_w4_w2_0 := far (show w2.heap.size < w4.heap.size by omega)
              cases ok with
              | false =>
                go_wp2
                exact bodyPost_ret (v := .tuple #[uv false [] 0 [] false [], .int .i64 2]) (by simp [results, Tryd.results7, go_sem, *]) rfl ⟨by rw [HRf.out (by simp)]; rfl, by (repeat (first | (with_reducible exact Below.refl _ _) | (with_reducible assumption) | (with_reducible refine Below.drew ?_) | (focus ((with_reducible refine Below.setCell ?_ ?_ _); rotate_left; (first | omega | (simp <;> omega)))) | (focus ((with_reducible refine Below.alloc ?_ ?_ _); rotate_left; (first | omega | (simp <;> omega)))) | exact Below.refl _ _ | assumption | refine Below.drew ?_ | refine Below.alloc ?_ (by first | omega | (simp <;> omega)) _ | refine Below.setCell ?_ (by first | omega | (simp <;> omega)) _))⟩
              | true =>
                go_wp2
                exact bodyPost_ret (v := .tuple #[uv true bh bn bp true uy, .int .i64 0]) (by simp [results, Tryd.results7, go_sem, *]) rfl ⟨by rw [HRt.out (by simp), HOx.out], by (repeat (first | (with_reducible exact Below.refl _ _) | (with_reducible assumption) | (with_reducible refine Below.drew ?_) | (focus ((with_reducible refine Below.setCell ?_ ?_ _); rotate_left; (first | omega | (simp <;> omega)))) | (focus ((with_reducible refine Below.alloc ?_ ?_ _); rotate_left; (first | omega | (simp <;> omega)))) | exact Below.refl _ _ | assumption | refine Below.drew ?_ | refine Below.alloc ?_ (by first | omega | (simp <;> omega)) _ | refine Below.setCell ?_ (by first | omega | (simp <;> omega)) _))⟩
          · have hp1 : (up == []) = false := by simpa using hp
            have hp2 : 0 < up.length := List.length_pos_iff.2 hp
            by_cases hs : bAt up 0 = 47
            · have hs1 : (bAt up 0 == 47) = true := by simpa using hs
              have HPx := Lib.hid (show rp = cleanL up by rw [HP.out]; simp [hp, hs])
              have HPy := Lib.hid hp
              clear hp
              go_wp2_with fail
              refine Calls.mono (CL.out up (by omega) _) ?_
              rintro e w3 ⟨rfl, hb_w3⟩
              have hz_w3 := hb_w3.size
              try simp at hz_w3
              obtain ⟨c_w3_w_0, f_w3_w_0⟩ := bk hb_w3 (w.heap.size) (by first | omega | (simp <;> omega))
              have c_w3_w_0_0 := c_w3_w_0 0
              conv at c_w3_w_0_0 => rhs; simp [go_sem, *]
              have f_w3_w_0_0 := f_w3_w_0 0
              conv at f_w3_w_0_0 => rhs; simp [go_sem, *]
              have c_w3_w_0_1 := c_w3_w_0 1
              conv at c_w3_w_0_1 => rhs; simp [go_sem, *]
              have f_w3_w_0_1 := f_w3_w_0 1
              conv at f_w3_w_0_1 => rhs; simp [go_sem, *]
              have c_w3_w_0_2 := c_w3_w_0 2
              conv at c_w3_w_0_2 => rhs; simp [go_sem, *]
              have f_w3_w_0_2 := f_w3_w_0 2
              conv at f_w3_w_0_2 => rhs; simp [go_sem, *]
              have c_w3_w_0_3 := c_w3_w_0 3
              conv at c_w3_w_0_3 => rhs; simp [go_sem, *]
              have f_w3_w_0_3 := f_w3_w_0 3
              conv at f_w3_w_0_3 => rhs; simp [go_sem, *]
              have c_w3_w_0_4 := c_w3_w_0 4
              conv at c_w3_w_0_4 => rhs; simp [go_sem, *]
              have f_w3_w_0_4 := f_w3_w_0 4
              conv at f_w3_w_0_4 => rhs; simp [go_sem, *]
              have c_w3_w_0_5 := c_w3_w_0 5
              conv at c_w3_w_0_5 => rhs; simp [go_sem, *]
              have f_w3_w_0_5 := f_w3_w_0 5
              conv at f_w3_w_0_5 => rhs; simp [go_sem, *]
              obtain ⟨c_w3_w_1, f_w3_w_1⟩ := bk hb_w3 (w.heap.size + 1) (by first | omega | (simp <;> omega))
              have c_w3_w_1_0 := c_w3_w_1 0
              conv at c_w3_w_1_0 => rhs; simp [go_sem, *]
              have f_w3_w_1_0 := f_w3_w_1 0
              conv at f_w3_w_1_0 => rhs; simp [go_sem, *]
              have c_w3_w_1_1 := c_w3_w_1 1
              conv at c_w3_w_1_1 => rhs; simp [go_sem, *]
              have f_w3_w_1_1 := f_w3_w_1 1
              conv at f_w3_w_1_1 => rhs; simp [go_sem, *]
              have c_w3_w_1_2 := c_w3_w_1 2
              conv at c_w3_w_1_2 => rhs; simp [go_sem, *]
              have f_w3_w_1_2 := f_w3_w_1 2
              conv at f_w3_w_1_2 => rhs; simp [go_sem, *]
              have c_w3_w_1_3 := c_w3_w_1 3
              conv at c_w3_w_1_3 => rhs; simp [go_sem, *]
              have f_w3_w_1_3 := f_w3_w_1 3
              conv at f_w3_w_1_3 => rhs; simp [go_sem, *]
              have c_w3_w_1_4 := c_w3_w_1 4
              conv at c_w3_w_1_4 => rhs; simp [go_sem, *]
              have f_w3_w_1_4 := f_w3_w_1 4
              conv at f_w3_w_1_4 => rhs; simp [go_sem, *]
              have c_w3_w_1_5 := c_w3_w_1 5
              conv at c_w3_w_1_5 => rhs; simp [go_sem, *]
              have f_w3_w_1_5 := f_w3_w_1 5
              conv at f_w3_w_1_5 => rhs; simp [go_sem, *]
              obtain ⟨c_w3_w_2, f_w3_w_2⟩ := bk hb_w3 (w.heap.size + 2) (by first | omega | (simp <;> omega))
              have c_w3_w_2_0 := c_w3_w_2 0
              conv at c_w3_w_2_0 => rhs; simp [go_sem, *]
              have f_w3_w_2_0 := f_w3_w_2 0
              conv at f_w3_w_2_0 => rhs; simp [go_sem, *]
              have c_w3_w_2_1 := c_w3_w_2 1
              conv at c_w3_w_2_1 => rhs; simp [go_sem, *]
              have f_w3_w_2_1 := f_w3_w_2 1
              conv at f_w3_w_2_1 => rhs; simp [go_sem, *]
              have c_w3_w_2_2 := c_w3_w_2 2
              conv at c_w3_w_2_2 => rhs; simp [go_sem, *]
              have f_w3_w_2_2 := f_w3_w_2 2
              conv at f_w3_w_2_2 => rhs; simp [go_sem, *]
              have c_w3_w_2_3 := c_w3_w_2 3
              conv at c_w3_w_2_3 => rhs; simp [go_sem, *]
              have f_w3_w_2_3 := f_w3_w_2 3
              conv at f_w3_w_2_3 => rhs; simp [go_sem, *]
              have c_w3_w_2_4 := c_w3_w_2 4
              conv at c_w3_w_2_4 => rhs; simp [go_sem, *]
              have f_w3_w_2_4 := f_w3_w_2 4
              conv at f_w3_w_2_4 => rhs; simp [go_sem, *]
              have c_w3_w_2_5 := c_w3_w_2 5
              conv at c_w3_w_2_5 => rhs; simp [go_sem, *]
              have f_w3_w_2_5 := f_w3_w_2 5
              conv at f_w3_w_2_5 => rhs; simp [go_sem, *]
              obtain ⟨c_w3_w2_0, f_w3_w2_0⟩ := bk hb_w3 (w2.heap.size) (by first | omega | (simp <;> omega))
              have c_w3_w2_0_0 := c_w3_w2_0 0
              conv at c_w3_w2_0_0 => rhs; simp [go_sem, *]
              have f_w3_w2_0_0 := f_w3_w2_0 0
              conv at f_w3_w2_0_0 => rhs; simp [go_sem, *]
              have c_w3_w2_0_1 := c_w3_w2_0 1
              conv at c_w3_w2_0_1 => rhs; simp [go_sem, *]
              have f_w3_w2_0_1 := f_w3_w2_0 1
              conv at f_w3_w2_0_1 => rhs; simp [go_sem, *]
              have c_w3_w2_0_2 := c_w3_w2_0 2
              conv at c_w3_w2_0_2 => rhs; simp [go_sem, *]
              have f_w3_w2_0_2 := f_w3_w2_0 2
              conv at f_w3_w2_0_2 => rhs; simp [go_sem, *]
              have c_w3_w2_0_3 := c_w3_w2_0 3
              conv at c_w3_w2_0_3 => rhs; simp [go_sem, *]
              have f_w3_w2_0_3 := f_w3_w2_0 3
              conv at f_w3_w2_0_3 => rhs; simp [go_sem, *]
              have c_w3_w2_0_4 := c_w3_w2_0 4
              conv at c_w3_w2_0_4 => rhs; simp [go_sem, *]
              have f_w3_w2_0_4 := f_w3_w2_0 4
              conv at f_w3_w2_0_4 => rhs; simp [go_sem, *]
              have c_w3_w2_0_5 := c_w3_w2_0 5
              conv at c_w3_w2_0_5 => rhs; simp [go_sem, *]
              have f_w3_w2_0_5 := f_w3_w2_0 5
              conv at f_w3_w2_0_5 => rhs; simp [go_sem, *]
              have hB_w3 : Below w.heap.size w w3 := Below.trans (by (repeat (first | (with_reducible exact Below.refl _ _) | (with_reducible assumption) | (with_reducible refine Below.drew ?_) | (focus ((with_reducible refine Below.setCell ?_ ?_ _); rotate_left; (first | omega | (simp <;> omega)))) | (focus ((with_reducible refine Below.alloc ?_ ?_ _); rotate_left; (first | omega | (simp <;> omega)))) | exact Below.refl _ _ | assumption | refine Below.drew ?_ | refine Below.alloc ?_ (by first | omega | (simp <;> omega)) _ | refine Below.setCell ?_ (by first | omega | (simp <;> omega)) _))) (hb_w3.mono (by first | omega | (simp <;> omega)))
              clear hb_w3 c_w3_w_0 f_w3_w_0 c_w3_w_1 f_w3_w_1 c_w3_w_2 f_w3_w_2 c_w3_w2_0 f_w3_w2_0
              try clear c_w4_w_2_0
              try clear f_w4_w_2_0
              try clear c_w4_w_2_1
              try clear f_w4_w_2_1
              try clear c_w4_w_2_2
              try clear f_w4_w_2_2
              try clear c_w4_w_2_3
              try clear f_w4_w_2_3
              try clear c_w4_w_2_4
              try clear f_w4_w_2_4
              try clear c_w4_w_2_5
              try clear f_w4_w_2_5
              try clear c_w4_w2_0_0
              try clear f_w4_w2_0_0
              try clear c_w4_w2_0_1
              try clear f_w4_w2_0_1
              try clear c_w4_w2_0_2
              try clear f_w4_w2_0_2
              try clear c_w4_w2_0_3
              try clear f_w4_w2_0_3
              try clear c_w4_w2_0_4
              try clear f_w4_w2_0_4
              try clear c_w4_w2_0_5
              try clear f_w4_w2_0_5
              try clear far_w4_w_2
              try clear far_w4_w2_0
              try clear hB_w4
              have far_w3_w_0 := far (show w.heap.size < w3.heap.size by omega)
              have far_w3_w_1 := far (show w.heap.size + 1 < w3.heap.size by omega)
              have far_w3_w_2 := far (show w.heap.size + 2 < w3.heap.size by omega)
              have far_w3_w2_0 := far (show w2.heap.size < w3.heap.size by omega)
              have HOx := Lib.hid (show ro = ⟨true, bh, bn, cleanL up, uq, uy⟩ by rw [HO.out]; simp [HPx.out, HPy.out])
              go_wp2_with fail
              refine Calls.mono (C3.out _ _ _ _ _ _ HOx.out _ (by (repeat (first | (with_reducible exact Below.refl _ _) | (with_reducible assumption) | (with_reducible refine Below.drew ?_) | (focus ((with_reducible refine Below.setCell ?_ ?_ _); rotate_left; (first | omega | (simp <;> omega)))) | (focus ((with_reducible refine Below.alloc ?_ ?_ _); rotate_left; (first | omega | (simp <;> omega)))) | exact Below.refl _ _ | assumption | refine Below.drew ?_ | refine Below.alloc ?_ (by first | omega | (simp <;> omega)) _ | refine Below.setCell ?_ (by first | omega | (simp <;> omega)) _)))) ?_
              rintro e w4 ⟨rfl, hb_w4⟩
              have hz_w4 := hb_w4.size
              try simp at hz_w4
              obtain ⟨c_w4_w_2, f_w4_w_2⟩ := bk hb_w4 (w.heap.size + 2) (by first | omega | (simp <;> omega))
              have c_w4_w_2_0 := c_w4_w_2 0
              conv at c_w4_w_2_0 => rhs; simp [go_sem, *]
              have f_w4_w_2_0 := f_w4_w_2 0
              conv at f_w4_w_2_0 => rhs; simp [go_sem, *]
              have c_w4_w_2_1 := c_w4_w_2 1
              conv at c_w4_w_2_1 => rhs; simp [go_sem, *]
              have f_w4_w_2_1 := f_w4_w_2 1
              conv at f_w4_w_2_1 => rhs; simp [go_sem, *]
              have c_w4_w_2_2 := c_w4_w_2 2
              conv at c_w4_w_2_2 => rhs; simp [go_sem, *]
              have f_w4_w_2_2 := f_w4_w_2 2
              conv at f_w4_w_2_2 => rhs; simp [go_sem, *]
              have c_w4_w_2_3 := c_w4_w_2 3
              conv at c_w4_w_2_3 => rhs; simp [go_sem, *]
              have f_w4_w_2_3 := f_w4_w_2 3
              conv at f_w4_w_2_3 => rhs; simp [go_sem, *]
              have c_w4_w_2_4 := c_w4_w_2 4
              conv at c_w4_w_2_4 => rhs; simp [go_sem, *]
              have f_w4_w_2_4 := f_w4_w_2 4
              conv at f_w4_w_2_4 => rhs; simp [go_sem, *]
              have c_w4_w_2_5 := c_w4_w_2 5
              conv at c_w4_w_2_5 => rhs; simp [go_sem, *]
              have f_w4_w_2_5 := f_w4_w_2 5
              conv at f_w4_w_2_5 => rhs; simp [go_sem, *]
              obtain ⟨c_w4_w2_0, f_w4_w2_0⟩ := bk hb_w4 (w2.heap.size) (by first | omega | (simp <;> omega))
              have c_w4_w2_0_0 := c_w4_w2_0 0
              conv at c_w4_w2_0_0 => rhs; simp [go_sem, *]
              have f_w4_w2_0_0 := f_w4_w2_0 0
              conv at f_w4_w2_0_0 => rhs; simp [go_sem, *]
              have c_w4_w2_0_1 := c_w4_w2_0 1
              conv at c_w4_w2_0_1 => rhs; simp [go_sem, *]
              have f_w4_w2_0_1 := f_w4_w2_0 1
              conv at f_w4_w2_0_1 => rhs; simp [go_sem, *]
              have c_w4_w2_0_2 := c_w4_w2_0 2
              conv at c_w4_w2_0_2 => rhs; simp [go_sem, *]
              have f_w4_w2_0_2 := f_w4_w2_0 2
              conv at f_w4_w2_0_2 => rhs; simp [go_sem, *]
              have c_w4_w2_0_3 := c_w4_w2_0 3
              conv at c_w4_w2_0_3 => rhs; simp [go_sem, *]
              have f_w4_w2_0_3 := f_w4_w2_0 3
              conv at f_w4_w2_0_3 => rhs; simp [go_sem, *]
              have c_w4_w2_0_4 := c_w4_w2_0 4
              conv at c_w4_w2_0_4 => rhs; simp [go_sem, *]
              have f_w4_w2_0_4 := f_w4_w2_0 4
              conv at f_w4_w2_0_4 => rhs; simp [go_sem, *]
              have c_w4_w2_0_5 := c_w4_w2_0 5
              conv at c_w4_w2_0_5 => rhs; simp [go_sem, *]
              have f_w4_w2_0_5 := f_w4_w2_0 5
              conv at f_w4_w2_0_5 => rhs; simp [go_sem, *]
              have hB_w4 : Below w.heap.size w w4 := Below.trans (by (repeat (first | (with_reducible exact Below.refl _ _) | (with_reducible assumption) | (with_reducible refine Below.drew ?_) | (focus ((with_reducible refine Below.setCell ?_ ?_ _); rotate_left; (first | omega | (simp <;> omega)))) | (focus ((with_reducible refine Below.alloc ?_ ?_ _); rotate_left; (first | omega | (simp <;> omega)))) | exact Below.refl _ _ | assumption | refine Below.drew ?_ | refine Below.alloc ?_ (by first | omega | (simp <;> omega)) _ | refine Below.setCell ?_ (by first | omega | (simp <;> omega)) _))) (hb_w4.mono (by first | omega | (simp <;> omega)))
              clear hb_w4 c_w4_w_2 f_w4_w_2 c_w4_w2_0 f_w4_w2_0
              try clear c_w3_w_0_0
              try clear f_w3_w_0_0
              try clear c_w3_w_0_1
              try clear f_w3_w_0_1
              try clear c_w3_w_0_2
              try clear f_w3_w_0_2
              try clear c_w3_w_0_3
              try clear f_w3_w_0_3
              try clear c_w3_w_0_4
              try clear f_w3_w_0_4
              try clear c_w3_w_0_5
              try clear f_w3_w_0_5
              try clear c_w3_w_1_0
              try clear f_w3_w_1_0
              try clear c_w3_w_1_1
              try clear f_w3_w_1_1
              try clear c_w3_w_1_2
              try clear f_w3_w_1_2
              try clear c_w3_w_1_3
              try clear f_w3_w_1_3
              try clear c_w3_w_1_4
              try clear f_w3_w_1_4
              try clear c_w3_w_1_5
              try clear f_w3_w_1_5
              try clear c_w3_w_2_0
              try clear f_w3_w_2_0
              try clear c_w3_w_2_1
              try clear f_w3_w_2_1
              try clear c_w3_w_2_2
              try clear f_w3_w_2_2
              try clear c_w3_w_2_3
              try clear f_w3_w_2_3
              try clear c_w3_w_2_4
              try clear f_w3_w_2_4
              try clear c_w3_w_2_5
              try clear f_w3_w_2_5
              try clear c_w3_w2_0_0
              try clear f_w3_w2_0_0
              try clear c_w3_w2_0_1
              try clear f_w3_w2_0_1
              try clear c_w3_w2_0_2
              try clear f_w3_w2_0_2
              try clear c_w3_w2_0_3
              try clear f_w3_w2_0_3
              try clear c_w3_w2_0_4
              try clear f_w3_w2_0_4
              try clear c_w3_w2_0_5
              try clear f_w3_w2_0_5
              try clear far_w3_w_0
              try clear far_w3_w_1
              try clear far_w3_w_2
              try clear far_w3_w2_0
              try clear hB_w3
              have far_w4_w_2 := far (show w.heap.size + 2 < w4.heap.size by omega)
              have far_w4_w2_0 := far (show w2.heap.size < w4.heap.size by omega)
              cases ok with
              | false =>
                go_wp2
                exact bodyPost_ret (v := .tuple #[uv false [] 0 [] false [], .int .i64 2]) (by simp [results, Tryd.results7, go_sem, *]) rfl ⟨by rw [HRf.out (by simp)]; rfl, by (repeat (first | (with_reducible exact Below.refl _ _) | (with_reducible assumption) | (with_reducible refine Below.drew ?_) | (focus ((with_reducible refine Below.setCell ?_ ?_ _); rotate_left; (first | omega | (simp <;> omega)))) | (focus ((with_reducible refine Below.alloc ?_ ?_ _); rotate_left; (first | omega | (simp <;> omega)))) | exact Below.refl _ _ | assumption | refine Below.drew ?_ | refine Below.alloc ?_ (by first | omega | (simp <;> omega)) _ | refine Below.setCell ?_ (by first | omega | (simp <;> omega)) _))⟩
              | true =>
                go_wp2
                exact bodyPost_ret (v := .tuple #[uv true bh bn (cleanL up) uq uy, .int .i64 0]) (by simp [results, Tryd.results7, go_sem, *]) rfl ⟨by rw [HRt.out (by simp), HOx.out], by (repeat (first | (with_reducible exact Below.refl _ _) | (with_reducible assumption) | (with_reducible refine Below.drew ?_) | (focus ((with_reducible refine Below.setCell ?_ ?_ _); rotate_left; (first | omega | (simp <;> omega)))) | (focus ((with_reducible refine Below.alloc ?_ ?_ _); rotate_left; (first | omega | (simp <;> omega)))) | exact Below.refl _ _ | assumption | refine Below.drew ?_ | refine Below.alloc ?_ (by first | omega | (simp <;> omega)) _ | refine Below.setCell ?_ (by first | omega | (simp <;> omega)) _))⟩
            · have hs1 : (bAt up 0 == 47) = false := by simpa using hs
              have HPx := Lib.hid (show rp = cleanL (bp.take k1 ++ up) by rw [HP.out]; simp [hp, hs])
              have HPy := Lib.hid hp
              clear hp
              have hct : (bp.take k1 ++ up).length ≤ 100000 := by rw [List.length_append, List.length_take]; omega
              go_wp2_with fail
              refine wp_region_later_tail (w2.heap.size + 1) 12 (by kernel_rfl) (by kernel_rfl) ?_
              simp only [List.take_succ_cons, List.take_zero, List.drop_succ_cons, List.drop_zero]
              have l_w3_w_0 := @Later.at (w2.heap.size + 1) (w.heap.size) (by omega)
              have l_w3_w_1 := @Later.at (w2.heap.size + 1) (w.heap.size + 1) (by omega)
              have l_w3_w_2 := @Later.at (w2.heap.size + 1) (w.heap.size + 2) (by omega)
              have l_w3_w2_0 := @Later.at (w2.heap.size + 1) (w2.heap.size) (by omega)
              repeat (go_big_quiet_step (first | (go_at_call 15; refine later_same (LI.out _)) | (go_at_call 11; refine later_of (by (first | omega | (simp <;> omega))) (CL.out _ hct _))))
              refine wpQuiet_nil ?_
              rintro w3 ⟨⟨_, hb_w3⟩, rfl⟩
              clear l_w3_w_0 l_w3_w_1 l_w3_w_2 l_w3_w2_0
              try simp only [] at hb_w3 ⊢
              have hz_w3 := hb_w3.size
              try simp at hz_w3
              have c_w3_w_0 := fun o => hb_w3.cell (p := ⟨w.heap.size, o, none⟩) (by first | omega | (simp <;> omega))
              have f_w3_w_0 := fun o => hb_w3.frozen (p := ⟨w.heap.size, o, none⟩) (by first | omega | (simp <;> omega))
              have c_w3_w_0_0 := c_w3_w_0 0
              conv at c_w3_w_0_0 => rhs; simp [go_sem, *]
              have f_w3_w_0_0 := f_w3_w_0 0
              conv at f_w3_w_0_0 => rhs; simp [go_sem, *]
              have c_w3_w_0_1 := c_w3_w_0 1
              conv at c_w3_w_0_1 => rhs; simp [go_sem, *]
              have f_w3_w_0_1 := f_w3_w_0 1
              conv at f_w3_w_0_1 => rhs; simp [go_sem, *]
              have c_w3_w_0_2 := c_w3_w_0 2
              conv at c_w3_w_0_2 => rhs; simp [go_sem, *]
              have f_w3_w_0_2 := f_w3_w_0 2
              conv at f_w3_w_0_2 => rhs; simp [go_sem, *]
              have c_w3_w_0_3 := c_w3_w_0 3
              conv at c_w3_w_0_3 => rhs; simp [go_sem, *]
              have f_w3_w_0_3 := f_w3_w_0 3
              conv at f_w3_w_0_3 => rhs; simp [go_sem, *]
              have c_w3_w_0_4 := c_w3_w_0 4
              conv at c_w3_w_0_4 => rhs; simp [go_sem, *]
              have f_w3_w_0_4 := f_w3_w_0 4
              conv at f_w3_w_0_4 => rhs; simp [go_sem, *]
              have c_w3_w_0_5 := c_w3_w_0 5
              conv at c_w3_w_0_5 => rhs; simp [go_sem, *]
              have f_w3_w_0_5 := f_w3_w_0 5
              conv at f_w3_w_0_5 => rhs; simp [go_sem, *]
              have c_w3_w_1 := fun o => hb_w3.cell (p := ⟨w.heap.size + 1, o, none⟩) (by first | omega | (simp <;> omega))
              have f_w3_w_1 := fun o => hb_w3.frozen (p := ⟨w.heap.size + 1, o, none⟩) (by first | omega | (simp <;> omega))
              have c_w3_w_1_0 := c_w3_w_1 0
              conv at c_w3_w_1_0 => rhs; simp [go_sem, *]
              have f_w3_w_1_0 := f_w3_w_1 0
              conv at f_w3_w_1_0 => rhs; simp [go_sem, *]
              have c_w3_w_1_1 := c_w3_w_1 1
              conv at c_w3_w_1_1 => rhs; simp [go_sem, *]
              have f_w3_w_1_1 := f_w3_w_1 1
              conv at f_w3_w_1_1 => rhs; simp [go_sem, *]
              have c_w3_w_1_2 := c_w3_w_1 2
              conv at c_w3_w_1_2 => rhs; simp [go_sem, *]
              have f_w3_w_1_2 := f_w3_w_1 2
              conv at f_w3_w_1_2 => rhs; simp [go_sem, *]
              have c_w3_w_1_3 := c_w3_w_1 3
              conv at c_w3_w_1_3 => rhs; simp [go_sem, *]
              have f_w3_w_1_3 := f_w3_w_1 3
              conv at f_w3_w_1_3 => rhs; simp [go_sem, *]
              have c_w3_w_1_4 := c_w3_w_1 4
              conv at c_w3_w_1_4 => rhs; simp [go_sem, *]
              have f_w3_w_1_4 := f_w3_w_1 4
              conv at f_w3_w_1_4 => rhs; simp [go_sem, *]
              have c_w3_w_1_5 := c_w3_w_1 5
              conv at c_w3_w_1_5 => rhs; simp [go_sem, *]
              have f_w3_w_1_5 := f_w3_w_1 5
              conv at f_w3_w_1_5 => rhs; simp [go_sem, *]
              have c_w3_w_2 := fun o => hb_w3.cell (p := ⟨w.heap.size + 2, o, none⟩) (by first | omega | (simp <;> omega))
              have f_w3_w_2 := fun o => hb_w3.frozen (p := ⟨w.heap.size + 2, o, none⟩) (by first | omega | (simp <;> omega))
              have c_w3_w_2_0 := c_w3_w_2 0
              conv at c_w3_w_2_0 => rhs; simp [go_sem, *]
              have f_w3_w_2_0 := f_w3_w_2 0
              conv at f_w3_w_2_0 => rhs; simp [go_sem, *]
              have c_w3_w_2_1 := c_w3_w_2 1
              conv at c_w3_w_2_1 => rhs; simp [go_sem, *]
              have f_w3_w_2_1 := f_w3_w_2 1
              conv at f_w3_w_2_1 => rhs; simp [go_sem, *]
              have c_w3_w_2_2 := c_w3_w_2 2
              conv at c_w3_w_2_2 => rhs; simp [go_sem, *]
              have f_w3_w_2_2 := f_w3_w_2 2
              conv at f_w3_w_2_2 => rhs; simp [go_sem, *]
              have c_w3_w_2_3 := c_w3_w_2 3
              conv at c_w3_w_2_3 => rhs; simp [go_sem, *]
              have f_w3_w_2_3 := f_w3_w_2 3
              conv at f_w3_w_2_3 => rhs; simp [go_sem, *]
              have c_w3_w_2_4 := c_w3_w_2 4
              conv at c_w3_w_2_4 => rhs; simp [go_sem, *]
              have f_w3_w_2_4 := f_w3_w_2 4
              conv at f_w3_w_2_4 => rhs; simp [go_sem, *]
              have c_w3_w_2_5 := c_w3_w_2 5
              conv at c_w3_w_2_5 => rhs; simp [go_sem, *]
              have f_w3_w_2_5 := f_w3_w_2 5
              conv at f_w3_w_2_5 => rhs; simp [go_sem, *]
              have c_w3_w2_0 := fun o => hb_w3.cell (p := ⟨w2.heap.size, o, none⟩) (by first | omega | (simp <;> omega))
              have f_w3_w2_0 := fun o => hb_w3.frozen (p := ⟨w2.heap.size, o, none⟩) (by first | omega | (simp <;> omega))
              have c_w3_w2_0_0 := c_w3_w2_0 0
              conv at c_w3_w2_0_0 => rhs; simp [go_sem, *]
              have f_w3_w2_0_0 := f_w3_w2_0 0
              conv at f_w3_w2_0_0 => rhs; simp [go_sem, *]
              have c_w3_w2_0_1 := c_w3_w2_0 1
              conv at c_w3_w2_0_1 => rhs; simp [go_sem, *]
              have f_w3_w2_0_1 := f_w3_w2_0 1
              conv at f_w3_w2_0_1 => rhs; simp [go_sem, *]
              have c_w3_w2_0_2 := c_w3_w2_0 2
              conv at c_w3_w2_0_2 => rhs; simp [go_sem, *]
              have f_w3_w2_0_2 := f_w3_w2_0 2
              conv at f_w3_w2_0_2 => rhs; simp [go_sem, *]
              have c_w3_w2_0_3 := c_w3_w2_0 3
              conv at c_w3_w2_0_3 => rhs; simp [go_sem, *]
              have f_w3_w2_0_3 := f_w3_w2_0 3
              conv at f_w3_w2_0_3 => rhs; simp [go_sem, *]
              have c_w3_w2_0_4 := c_w3_w2_0 4
              conv at c_w3_w2_0_4 => rhs; simp [go_sem, *]
              have f_w3_w2_0_4 := f_w3_w2_0 4
              conv at f_w3_w2_0_4 => rhs; simp [go_sem, *]
              have c_w3_w2_0_5 := c_w3_w2_0 5
              conv at c_w3_w2_0_5 => rhs; simp [go_sem, *]
              have f_w3_w2_0_5 := f_w3_w2_0 5
              conv at f_w3_w2_0_5 => rhs; simp [go_sem, *]
              have hB_w3 : Below w.heap.size w w3 := Below.trans (by (repeat (first | (with_reducible exact Below.refl _ _) | (with_reducible assumption) | (with_reducible refine Below.drew ?_) | (focus ((with_reducible refine Below.setCell ?_ ?_ _); rotate_left; (first | omega | (simp <;> omega)))) | (focus ((with_reducible refine Below.alloc ?_ ?_ _); rotate_left; (first | omega | (simp <;> omega)))) | exact Below.refl _ _ | assumption | refine Below.drew ?_ | refine Below.alloc ?_ (by first | omega | (simp <;> omega)) _ | refine Below.setCell ?_ (by first | omega | (simp <;> omega)) _))) (hb_w3.mono (by first | omega | (simp <;> omega)))
              clear hb_w3 c_w3_w_0 f_w3_w_0 c_w3_w_1 f_w3_w_1 c_w3_w_2 f_w3_w_2 c_w3_w2_0 f_w3_w2_0
              try clear c_w4_w_2_0
              try clear f_w4_w_2_0
              try clear c_w4_w_2_1
              try clear f_w4_w_2_1
              try clear c_w4_w_2_2
              try clear f_w4_w_2_2
              try clear c_w4_w_2_3
              try clear f_w4_w_2_3
              try clear c_w4_w_2_4
              try clear f_w4_w_2_4
              try clear c_w4_w_2_5
              try clear f_w4_w_2_5
              try clear c_w4_w2_0_0
              try clear f_w4_w2_0_0
              try clear c_w4_w2_0_1
              try clear f_w4_w2_0_1
              try clear c_w4_w2_0_2
              try clear f_w4_w2_0_2
              try clear c_w4_w2_0_3
              try clear f_w4_w2_0_3
              try clear c_w4_w2_0_4
              try clear f_w4_w2_0_4
              try clear c_w4_w2_0_5
              try clear f_w4_w2_0_5
              try clear far_w4_w_2
              try clear far_w4_w2_0
              try clear hB_w4
              have far_w3_w_0 := far (show w.heap.size < w3.heap.size by omega)
              have far_w3_w_1 := far (show w.heap.size + 1 < w3.heap.size by omega)
              have far_w3_w_2 := far (show w.heap.size + 2 < w3.heap.size by omega)
              have far_w3_w2_0 := far (show w2.heap.size < w3.heap.size by omega)
              have HOx := Lib.hid (show ro = ⟨true, bh, bn, cleanL (bp.take k1 ++ up), uq, uy⟩ by rw [HO.out]; simp [HPx.out, HPy.out])
              go_wp2_with fail
              refine Calls.mono (C3.out _ _ _ _ _ _ HOx.out _ (by (repeat (first | (with_reducible exact Below.refl _ _) | (with_reducible assumption) | (with_reducible refine Below.drew ?_) | (focus ((with_reducible refine Below.setCell ?_ ?_ _); rotate_left; (first | omega | (simp <;> omega)))) | (focus ((with_reducible refine Below.alloc ?_ ?_ _); rotate_left; (first | omega | (simp <;> omega)))) | exact Below.refl _ _ | assumption | refine Below.drew ?_ | refine Below.alloc ?_ (by first | omega | (simp <;> omega)) _ | refine Below.setCell ?_ (by first | omega | (simp <;> omega)) _)))) ?_
              rintro e w4 ⟨rfl, hb_w4⟩
              have hz_w4 := hb_w4.size
              try simp at hz_w4
              obtain ⟨c_w4_w_2, f_w4_w_2⟩ := bk hb_w4 (w.heap.size + 2) (by first | omega | (simp <;> omega))
              have c_w4_w_2_0 := c_w4_w_2 0
              conv at c_w4_w_2_0 => rhs; simp [go_sem, *]
              have f_w4_w_2_0 := f_w4_w_2 0
              conv at f_w4_w_2_0 => rhs; simp [go_sem, *]
              have c_w4_w_2_1 := c_w4_w_2 1
              conv at c_w4_w_2_1 => rhs; simp [go_sem, *]
              have f_w4_w_2_1 := f_w4_w_2 1
              conv at f_w4_w_2_1 => rhs; simp [go_sem, *]
              have c_w4_w_2_2 := c_w4_w_2 2
              conv at c_w4_w_2_2 => rhs; simp [go_sem, *]
              have f_w4_w_2_2 := f_w4_w_2 2
              conv at f_w4_w_2_2 => rhs; simp [go_sem, *]
              have c_w4_w_2_3 := c_w4_w_2 3
              conv at c_w4_w_2_3 => rhs; simp [go_sem, *]
              have f_w4_w_2_3 := f_w4_w_2 3
              conv at f_w4_w_2_3 => rhs; simp [go_sem, *]
              have c_w4_w_2_4 := c_w4_w_2 4
              conv at c_w4_w_2_4 => rhs; simp [go_sem, *]
              have f_w4_w_2_4 := f_w4_w_2 4
              conv at f_w4_w_2_4 => rhs; simp [go_sem, *]
              have c_w4_w_2_5 := c_w4_w_2 5
              conv at c_w4_w_2_5 => rhs; simp [go_sem, *]
              have f_w4_w_2_5 := f_w4_w_2 5
              conv at f_w4_w_2_5 => rhs; simp [go_sem, *]
              obtain ⟨c_w4_w2_0, f_w4_w2_0⟩ := bk hb_w4 (w2.heap.size) (by first | omega | (simp <;> omega))
              have c_w4_w2_0_0 := c_w4_w2_0 0
              conv at c_w4_w2_0_0 => rhs; simp [go_sem, *]
              have f_w4_w2_0_0 := f_w4_w2_0 0
              conv at f_w4_w2_0_0 => rhs; simp [go_sem, *]
              have c_w4_w2_0_1 := c_w4_w2_0 1
              conv at c_w4_w2_0_1 => rhs; simp [go_sem, *]
              have f_w4_w2_0_1 := f_w4_w2_0 1
              conv at f_w4_w2_0_1 => rhs; simp [go_sem, *]
              have c_w4_w2_0_2 := c_w4_w2_0 2
              conv at c_w4_w2_0_2 => rhs; simp [go_sem, *]
              have f_w4_w2_0_2 := f_w4_w2_0 2
              conv at f_w4_w2_0_2 => rhs; simp [go_sem, *]
              have c_w4_w2_0_3 := c_w4_w2_0 3
              conv at c_w4_w2_0_3 => rhs; simp [go_sem, *]
              have f_w4_w2_0_3 := f_w4_w2_0 3
              conv at f_w4_w2_0_3 => rhs; simp [go_sem, *]
              have c_w4_w2_0_4 := c_w4_w2_0 4
              conv at c_w4_w2_0_4 => rhs; simp [go_sem, *]
              have f_w4_w2_0_4 := f_w4_w2_0 4
              conv at f_w4_w2_0_4 => rhs; simp [go_sem, *]
              have c_w4_w2_0_5 := c_w4_w2_0 5
              conv at c_w4_w2_0_5 => rhs; simp [go_sem, *]
              have f_w4_w2_0_5 := f_w4_w2_0 5
              conv at f_w4_w2_0_5 => rhs; simp [go_sem, *]
              have hB_w4 : Below w.heap.size w w4 := Below.trans (by (repeat (first | (with_reducible exact Below.refl _ _) | (with_reducible assumption) | (with_reducible refine Below.drew ?_) | (focus ((with_reducible refine Below.setCell ?_ ?_ _); rotate_left; (first | omega | (simp <;> omega)))) | (focus ((with_reducible refine Below.alloc ?_ ?_ _); rotate_left; (first | omega | (simp <;> omega)))) | exact Below.refl _ _ | assumption | refine Below.drew ?_ | refine Below.alloc ?_ (by first | omega | (simp <;> omega)) _ | refine Below.setCell ?_ (by first | omega | (simp <;> omega)) _))) (hb_w4.mono (by first | omega | (simp <;> omega)))
              clear hb_w4 c_w4_w_2 f_w4_w_2 c_w4_w2_0 f_w4_w2_0
              try clear c_w3_w_0_0
              try clear f_w3_w_0_0
              try clear c_w3_w_0_1
              try clear f_w3_w_0_1
              try clear c_w3_w_0_2
              try clear f_w3_w_0_2
              try clear c_w3_w_0_3
              try clear f_w3_w_0_3
              try clear c_w3_w_0_4
              try clear f_w3_w_0_4
              try clear c_w3_w_0_5
              try clear f_w3_w_0_5
              try clear c_w3_w_1_0
              try clear f_w3_w_1_0
              try clear c_w3_w_1_1
              try clear f_w3_w_1_1
              try clear c_w3_w_1_2
              try clear f_w3_w_1_2
              try clear c_w3_w_1_3
              try clear f_w3_w_1_3
              try clear c_w3_w_1_4
              try clear f_w3_w_1_4
              try clear c_w3_w_1_5
              try clear f_w3_w_1_5
              try clear c_w3_w_2_0
              try clear f_w3_w_2_0
              try clear c_w3_w_2_1
              try clear f_w3_w_2_1
              try clear c_w3_w_2_2
              try clear f_w3_w_2_2
              try clear c_w3_w_2_3
              try clear f_w3_w_2_3
              try clear c_w3_w_2_4
              try clear f_w3_w_2_4
              try clear c_w3_w_2_5
              try clear f_w3_w_2_5
              try clear c_w3_w2_0_0
              try clear f_w3_w2_0_0
              try clear c_w3_w2_0_1
              try clear f_w3_w2_0_1
              try clear c_w3_w2_0_2
              try clear f_w3_w2_0_2
              try clear c_w3_w2_0_3
              try clear f_w3_w2_0_3
              try clear c_w3_w2_0_4
              try clear f_w3_w2_0_4
              try clear c_w3_w2_0_5
              try clear f_w3_w2_0_5
              try clear far_w3_w_0
              try clear far_w3_w_1
              try clear far_w3_w_2
              try clear far_w3_w2_0
              try clear hB_w3
              have far_w4_w_2 := far (show w.heap.size + 2 < w4.heap.size by omega)
              have far_w4_w2_0 := far (show w2.heap.size < w4.heap.size by omega)
              cases ok with
              | false =>
                go_wp2
                exact bodyPost_ret (v := .tuple #[uv false [] 0 [] false [], .int .i64 2]) (by simp [results, Tryd.results7, go_sem, *]) rfl ⟨by rw [HRf.out (by simp)]; rfl, by (repeat (first | (with_reducible exact Below.refl _ _) | (with_reducible assumption) | (with_reducible refine Below.drew ?_) | (focus ((with_reducible refine Below.setCell ?_ ?_ _); rotate_left; (first | omega | (simp <;> omega)))) | (focus ((with_reducible refine Below.alloc ?_ ?_ _); rotate_left; (first | omega | (simp <;> omega)))) | exact Below.refl _ _ | assumption | refine Below.drew ?_ | refine Below.alloc ?_ (by first | omega | (simp <;> omega)) _ | refine Below.setCell ?_ (by first | omega | (simp <;> omega)) _))⟩
              | true =>
                go_wp2
                exact bodyPost_ret (v := .tuple #[uv true bh bn (cleanL (bp.take k1 ++ up)) uq uy, .int .i64 0]) (by simp [results, Tryd.results7, go_sem, *]) rfl ⟨by rw [HRt.out (by simp), HOx.out], by (repeat (first | (with_reducible exact Below.refl _ _) | (with_reducible assumption) | (with_reducible refine Below.drew ?_) | (focus ((with_reducible refine Below.setCell ?_ ?_ _); rotate_left; (first | omega | (simp <;> omega)))) | (focus ((with_reducible refine Below.alloc ?_ ?_ _); rotate_left; (first | omega | (simp <;> omega)))) | exact Below.refl _ _ | assumption | refine Below.drew ?_ | refine Below.alloc ?_ (by first | omega | (simp <;> omega)) _ | refine Below.setCell ?_ (by first | omega | (simp <;> omega)) _))⟩
        | true =>
          by_cases hp : up = []
          · have hp1 : (up == []) = true := by simpa using hp
            have HPx := Lib.hid (show rp = bp by rw [HP.out]; simp [hp])
            subst hp
            cases uq with
            | false =>
              go_wp2_with fail
              go_region
              have HOx := Lib.hid (show ro = ⟨true, uh, un, bp, bq, by'⟩ by rw [HO.out]; simp [HPx.out])
              go_wp2_with fail
              refine Calls.mono (C3.out _ _ _ _ _ _ HOx.out _ (by (repeat (first | (with_reducible exact Below.refl _ _) | (with_reducible assumption) | (with_reducible refine Below.drew ?_) | (focus ((with_reducible refine Below.setCell ?_ ?_ _); rotate_left; (first | omega | (simp <;> omega)))) | (focus ((with_reducible refine Below.alloc ?_ ?_ _); rotate_left; (first | omega | (simp <;> omega)))) | exact Below.refl _ _ | assumption | refine Below.drew ?_ | refine Below.alloc ?_ (by first | omega | (simp <;> omega)) _ | refine Below.setCell ?_ (by first | omega | (simp <;> omega)) _)))) ?_
              rintro e w4 ⟨rfl, hb_w4⟩
              have hz_w4 := hb_w4.size
              try simp at hz_w4
              obtain ⟨c_w4_w_2, f_w4_w_2⟩ := bk hb_w4 (w.heap.size + 2) (by first | omega | (simp <;> omega))
              have c_w4_w_2_0 := c_w4_w_2 0
              conv at c_w4_w_2_0 => rhs; simp [go_sem, *]
              have f_w4_w_2_0 := f_w4_w_2 0
              conv at f_w4_w_2_0 => rhs; simp [go_sem, *]
              have c_w4_w_2_1 := c_w4_w_2 1
              conv at c_w4_w_2_1 => rhs; simp [go_sem, *]
              have f_w4_w_2_1 := f_w4_w_2 1
              conv at f_w4_w_2_1 => rhs; simp [go_sem, *]
              have c_w4_w_2_2 := c_w4_w_2 2
              conv at c_w4_w_2_2 => rhs; simp [go_sem, *]
              have f_w4_w_2_2 := f_w4_w_2 2
              conv at f_w4_w_2_2 => rhs; simp [go_sem, *]
              have c_w4_w_2_3 := c_w4_w_2 3
              conv at c_w4_w_2_3 => rhs; simp [go_sem, *]
              have f_w4_w_2_3 := f_w4_w_2 3
              conv at f_w4_w_2_3 => rhs; simp [go_sem, *]
              have c_w4_w_2_4 := c_w4_w_2 4
              conv at c_w4_w_2_4 => rhs; simp [go_sem, *]
              have f_w4_w_2_4 := f_w4_w_2 4
              conv at f_w4_w_2_4 => rhs; simp [go_sem, *]
              have c_w4_w_2_5 := c_w4_w_2 5
              conv at c_w4_w_2_5 => rhs; simp [go_sem, *]
              have f_w4_w_2_5 := f_w4_w_2 5
              conv at f_w4_w_2_5 => rhs; simp [go_sem, *]
              obtain ⟨c_w4_w2_0, f_w4_w2_0⟩ := bk hb_w4 (w2.heap.size) (by first | omega | (simp <;> omega))
              have c_w4_w2_0_0 := c_w4_w2_0 0
              conv at c_w4_w2_0_0 => rhs; simp [go_sem, *]
              have f_w4_w2_0_0 := f_w4_w2_0 0
              conv at f_w4_w2_0_0 => rhs; simp [go_sem, *]
              have c_w4_w2_0_1 := c_w4_w2_0 1
              conv at c_w4_w2_0_1 => rhs; simp [go_sem, *]
              have f_w4_w2_0_1 := f_w4_w2_0 1
              conv at f_w4_w2_0_1 => rhs; simp [go_sem, *]
              have c_w4_w2_0_2 := c_w4_w2_0 2
              conv at c_w4_w2_0_2 => rhs; simp [go_sem, *]
              have f_w4_w2_0_2 := f_w4_w2_0 2
              conv at f_w4_w2_0_2 => rhs; simp [go_sem, *]
              have c_w4_w2_0_3 := c_w4_w2_0 3
              conv at c_w4_w2_0_3 => rhs; simp [go_sem, *]
              have f_w4_w2_0_3 := f_w4_w2_0 3
              conv at f_w4_w2_0_3 => rhs; simp [go_sem, *]
              have c_w4_w2_0_4 := c_w4_w2_0 4
              conv at c_w4_w2_0_4 => rhs; simp [go_sem, *]
              have f_w4_w2_0_4 := f_w4_w2_0 4
              conv at f_w4_w2_0_4 => rhs; simp [go_sem, *]
              have c_w4_w2_0_5 := c_w4_w2_0 5
              conv at c_w4_w2_0_5 => rhs; simp [go_sem, *]
              have f_w4_w2_0_5 := f_w4_w2_0 5
              conv at f_w4_w2_0_5 => rhs; simp [go_sem, *]
              have hB_w4 : Below w.heap.size w w4 := Below.trans (by (repeat (first | (with_reducible exact Below.refl _ _) | (with_reducible assumption) | (with_reducible refine Below.drew ?_) | (focus ((with_reducible refine Below.setCell ?_ ?_ _); rotate_left; (first | omega | (simp <;> omega)))) | (focus ((with_reducible refine Below.alloc ?_ ?_ _); rotate_left; (first | omega | (simp <;> omega)))) | exact Below.refl _ _ | assumption | refine Below.drew ?_ | refine Below.alloc ?_ (by first | omega | (simp <;> omega)) _ | refine Below.setCell ?_ (by first | omega | (simp <;> omega)) _))) (hb_w4.mono (by first | omega | (simp <;> omega)))
              clear hb_w4 c_w4_w_2 f_w4_w_2 c_w4_w2_0 f_w4_w2_0
              have far_w4_w_2 := far (show w.heap.size + 2 < w4.heap.size by omega)
              have far_w4_w2_0 := far (show w2.heap.size < w4.heap.size by omega)
              cases ok with
              | false =>
                go_wp2
                exact bodyPost_ret (v := .tuple #[uv false [] 0 [] false [], .int .i64 2]) (by simp [results, Tryd.results7, go_sem, *]) rfl ⟨by rw [HRf.out (by simp)]; rfl, by (repeat (first | (with_reducible exact Below.refl _ _) | (with_reducible assumption) | (with_reducible refine Below.drew ?_) | (focus ((with_reducible refine Below.setCell ?_ ?_ _); rotate_left; (first | omega | (simp <;> omega)))) | (focus ((with_reducible refine Below.alloc ?_ ?_ _); rotate_left; (first | omega | (simp <;> omega)))) | exact Below.refl _ _ | assumption | refine Below.drew ?_ | refine Below.alloc ?_ (by first | omega | (simp <;> omega)) _ | refine Below.setCell ?_ (by first | omega | (simp <;> omega)) _))⟩
              | true =>
                go_wp2
                exact bodyPost_ret (v := .tuple #[uv true uh un bp bq by', .int .i64 0]) (by simp [results, Tryd.results7, go_sem, *]) rfl ⟨by rw [HRt.out (by simp), HOx.out], by (repeat (first | (with_reducible exact Below.refl _ _) | (with_reducible assumption) | (with_reducible refine Below.drew ?_) | (focus ((with_reducible refine Below.setCell ?_ ?_ _); rotate_left; (first | omega | (simp <;> omega)))) | (focus ((with_reducible refine Below.alloc ?_ ?_ _); rotate_left; (first | omega | (simp <;> omega)))) | exact Below.refl _ _ | assumption | refine Below.drew ?_ | refine Below.alloc ?_ (by first | omega | (simp <;> omega)) _ | refine Below.setCell ?_ (by first | omega | (simp <;> omega)) _))⟩
            | true =>
              have HOx := Lib.hid (show ro = ⟨true, uh, un, bp, true, uy⟩ by rw [HO.out]; simp [HPx.out])
              go_wp2_with fail
              refine Calls.mono (C3.out _ _ _ _ _ _ HOx.out _ (by (repeat (first | (with_reducible exact Below.refl _ _) | (with_reducible assumption) | (with_reducible refine Below.drew ?_) | (focus ((with_reducible refine Below.setCell ?_ ?_ _); rotate_left; (first | omega | (simp <;> omega)))) | (focus ((with_reducible refine Below.alloc ?_ ?_ _); rotate_left; (first | omega | (simp <;> omega)))) | exact Below.refl _ _ | assumption | refine Below.drew ?_ | refine Below.alloc ?_ (by first | omega | (simp <;> omega)) _ | refine Below.setCell ?_ (by first | omega | (simp <;> omega)) _)))) ?_
              rintro e w4 ⟨rfl, hb_w4⟩
              have hz_w4 := hb_w4.size
              try simp at hz_w4
              obtain ⟨c_w4_w_2, f_w4_w_2⟩ := bk hb_w4 (w.heap.size + 2) (by first | omega | (simp <;> omega))
              have c_w4_w_2_0 := c_w4_w_2 0
              conv at c_w4_w_2_0 => rhs; simp [go_sem, *]
              have f_w4_w_2_0 := f_w4_w_2 0
              conv at f_w4_w_2_0 => rhs; simp [go_sem, *]
              have c_w4_w_2_1 := c_w4_w_2 1
              conv at c_w4_w_2_1 => rhs; simp [go_sem, *]
              have f_w4_w_2_1 := f_w4_w_2 1
              conv at f_w4_w_2_1 => rhs; simp [go_sem, *]
              have c_w4_w_2_2 := c_w4_w_2 2
              conv at c_w4_w_2_2 => rhs; simp [go_sem, *]
              have f_w4_w_2_2 := f_w4_w_2 2
              conv at f_w4_w_2_2 => rhs; simp [go_sem, *]
              have c_w4_w_2_3 := c_w4_w_2 3
              conv at c_w4_w_2_3 => rhs; simp [go_sem, *]
              have f_w4_w_2_3 := f_w4_w_2 3
              conv at f_w4_w_2_3 => rhs; simp [go_sem, *]
              have c_w4_w_2_4 := c_w4_w_2 4
              conv at c_w4_w_2_4 => rhs; simp [go_sem, *]
              have f_w4_w_2_4 := f_w4_w_2 4
              conv at f_w4_w_2_4 => rhs; simp [go_sem, *]
              have c_w4_w_2_5 := c_w4_w_2 5
              conv at c_w4_w_2_5 => rhs; simp [go_sem, *]
              have f_w4_w_2_5 := f_w4_w_2 5
              conv at f_w4_w_2_5 => rhs; simp [go_sem, *]
              obtain ⟨c_w4_w2_0, f_w4_w2_0⟩ := bk hb_w4 (w2.heap.size) (by first | omega | (simp <;> omega))
              have c_w4_w2_0_0 := c_w4_w2_0 0
              conv at c_w4_w2_0_0 => rhs; simp [go_sem, *]
              have f_w4_w2_0_0 := f_w4_w2_0 0
              conv at f_w4_w2_0_0 => rhs; simp [go_sem, *]
              have c_w4_w2_0_1 := c_w4_w2_0 1
              conv at c_w4_w2_0_1 => rhs; simp [go_sem, *]
              have f_w4_w2_0_1 := f_w4_w2_0 1
              conv at f_w4_w2_0_1 => rhs; simp [go_sem, *]
              have c_w4_w2_0_2 := c_w4_w2_0 2
              conv at c_w4_w2_0_2 => rhs; simp [go_sem, *]
              have f_w4_w2_0_2 := f_w4_w2_0 2
              conv at f_w4_w2_0_2 => rhs; simp [go_sem, *]
              have c_w4_w2_0_3 := c_w4_w2_0 3
              conv at c_w4_w2_0_3 => rhs; simp [go_sem, *]
              have f_w4_w2_0_3 := f_w4_w2_0 3
              conv at f_w4_w2_0_3 => rhs; simp [go_sem, *]
              have c_w4_w2_0_4 := c_w4_w2_0 4
              conv at c_w4_w2_0_4 => rhs; simp [go_sem, *]
              have f_w4_w2_0_4 := f_w4_w2_0 4
              conv at f_w4_w2_0_4 => rhs; simp [go_sem, *]
              have c_w4_w2_0_5 := c_w4_w2_0 5
              conv at c_w4_w2_0_5 => rhs; simp [go_sem, *]
              have f_w4_w2_0_5 := f_w4_w2_0 5
              conv at f_w4_w2_0_5 => rhs; simp [go_sem, *]
              have hB_w4 : Below w.heap.size w w4 := Below.trans (by (repeat (first | (with_reducible exact Below.refl _ _) | (with_reducible assumption) | (with_reducible refine Below.drew ?_) | (focus ((with_reducible refine Below.setCell ?_ ?_ _); rotate_left; (first | omega | (simp <;> omega)))) | (focus ((with_reducible refine Below.alloc ?_ ?_ _); rotate_left; (first | omega | (simp <;> omega)))) | exact Below.refl _ _ | assumption | refine Below.drew ?_ | refine Below.alloc ?_ (by first | omega | (simp <;> omega)) _ | refine Below.setCell ?_ (by first | omega | (simp <;> omega)) _))) (hb_w4.mono (by first | omega | (simp <;> omega)))
              clear hb_w4 c_w4_w_2 f_w4_w_2 c_w4_w2_0 f_w4_w2_0
              have far_w4_w_2 := far (show w.heap.size + 2 < w4.heap.size by omega)
              have far_w4_w2_0 := far (show w2.heap.size < w4.heap.size by omega)
              cases ok with
              | false =>
                go_wp2
                exact bodyPost_ret (v := .tuple #[uv false [] 0 [] false [], .int .i64 2]) (by simp [results, Tryd.results7, go_sem, *]) rfl ⟨by rw [HRf.out (by simp)]; rfl, by (repeat (first | (with_reducible exact Below.refl _ _) | (with_reducible assumption) | (with_reducible refine Below.drew ?_) | (focus ((with_reducible refine Below.setCell ?_ ?_ _); rotate_left; (first | omega | (simp <;> omega)))) | (focus ((with_reducible refine Below.alloc ?_ ?_ _); rotate_left; (first | omega | (simp <;> omega)))) | exact Below.refl _ _ | assumption | refine Below.drew ?_ | refine Below.alloc ?_ (by first | omega | (simp <;> omega)) _ | refine Below.setCell ?_ (by first | omega | (simp <;> omega)) _))⟩
              | true =>
                go_wp2
                exact bodyPost_ret (v := .tuple #[uv true uh un bp true uy, .int .i64 0]) (by simp [results, Tryd.results7, go_sem, *]) rfl ⟨by rw [HRt.out (by simp), HOx.out], by (repeat (first | (with_reducible exact Below.refl _ _) | (with_reducible assumption) | (with_reducible refine Below.drew ?_) | (focus ((with_reducible refine Below.setCell ?_ ?_ _); rotate_left; (first | omega | (simp <;> omega)))) | (focus ((with_reducible refine Below.alloc ?_ ?_ _); rotate_left; (first | omega | (simp <;> omega)))) | exact Below.refl _ _ | assumption | refine Below.drew ?_ | refine Below.alloc ?_ (by first | omega | (simp <;> omega)) _ | refine Below.setCell ?_ (by first | omega | (simp <;> omega)) _))⟩
          · have hp1 : (up == []) = false := by simpa using hp
            have hp2 : 0 < up.length := List.length_pos_iff.2 hp
            by_cases hs : bAt up 0 = 47
            · have hs1 : (bAt up 0 == 47) = true := by simpa using hs
              have HPx := Lib.hid (show rp = cleanL up by rw [HP.out]; simp [hp, hs])
              have HPy := Lib.hid hp
              clear hp
              go_wp2_with fail
              refine Calls.mono (CL.out up (by omega) _) ?_
              rintro e w3 ⟨rfl, hb_w3⟩
              have hz_w3 := hb_w3.size
              try simp at hz_w3
              obtain ⟨c_w3_w_0, f_w3_w_0⟩ := bk hb_w3 (w.heap.size) (by first | omega | (simp <;> omega))
              have c_w3_w_0_0 := c_w3_w_0 0
              conv at c_w3_w_0_0 => rhs; simp [go_sem, *]
              have f_w3_w_0_0 := f_w3_w_0 0
              conv at f_w3_w_0_0 => rhs; simp [go_sem, *]
              have c_w3_w_0_1 := c_w3_w_0 1
              conv at c_w3_w_0_1 => rhs; simp [go_sem, *]
              have f_w3_w_0_1 := f_w3_w_0 1
              conv at f_w3_w_0_1 => rhs; simp [go_sem, *]
              have c_w3_w_0_2 := c_w3_w_0 2
              conv at c_w3_w_0_2 => rhs; simp [go_sem, *]
              have f_w3_w_0_2 := f_w3_w_0 2
              conv at f_w3_w_0_2 => rhs; simp [go_sem, *]
              have c_w3_w_0_3 := c_w3_w_0 3
              conv at c_w3_w_0_3 => rhs; simp [go_sem, *]
              have f_w3_w_0_3 := f_w3_w_0 3
              conv at f_w3_w_0_3 => rhs; simp [go_sem, *]
              have c_w3_w_0_4 := c_w3_w_0 4
              conv at c_w3_w_0_4 => rhs; simp [go_sem, *]
              have f_w3_w_0_4 := f_w3_w_0 4
              conv at f_w3_w_0_4 => rhs; simp [go_sem, *]
              have c_w3_w_0_5 := c_w3_w_0 5
              conv at c_w3_w_0_5 => rhs; simp [go_sem, *]
              have f_w3_w_0_5 := f_w3_w_0 5
              conv at f_w3_w_0_5 => rhs; simp [go_sem, *]
              obtain ⟨c_w3_w_1, f_w3_w_1⟩ := bk hb_w3 (w.heap.size + 1) (by first | omega | (simp <;> omega))
              have c_w3_w_1_0 := c_w3_w_1 0
              conv at c_w3_w_1_0 => rhs; simp [go_sem, *]
              have f_w3_w_1_0 := f_w3_w_1 0
              conv at f_w3_w_1_0 => rhs; simp [go_sem, *]
              have c_w3_w_1_1 := c_w3_w_1 1
              conv at c_w3_w_1_1 => rhs; simp [go_sem, *]
              have f_w3_w_1_1 := f_w3_w_1 1
              conv at f_w3_w_1_1 => rhs; simp [go_sem, *]
              have c_w3_w_1_2 := c_w3_w_1 2
              conv at c_w3_w_1_2 => rhs; simp [go_sem, *]
              have f_w3_w_1_2 := f_w3_w_1 2
              conv at f_w3_w_1_2 => rhs; simp [go_sem, *]
              have c_w3_w_1_3 := c_w3_w_1 3
              conv at c_w3_w_1_3 => rhs; simp [go_sem, *]
              have f_w3_w_1_3 := f_w3_w_1 3
              conv at f_w3_w_1_3 => rhs; simp [go_sem, *]
              have c_w3_w_1_4 := c_w3_w_1 4
              conv at c_w3_w_1_4 => rhs; simp [go_sem, *]
              have f_w3_w_1_4 := f_w3_w_1 4
              conv at f_w3_w_1_4 => rhs; simp [go_sem, *]
              have c_w3_w_1_5 := c_w3_w_1 5
              conv at c_w3_w_1_5 => rhs; simp [go_sem, *]
              have f_w3_w_1_5 := f_w3_w_1 5
              conv at f_w3_w_1_5 => rhs; simp [go_sem, *]
              obtain ⟨c_w3_w_2, f_w3_w_2⟩ := bk hb_w3 (w.heap.size + 2) (by first | omega | (simp <;> omega))
              have c_w3_w_2_0 := c_w3_w_2 0
              conv at c_w3_w_2_0 => rhs; simp [go_sem, *]
              have f_w3_w_2_0 := f_w3_w_2 0
              conv at f_w3_w_2_0 => rhs; simp [go_sem, *]
              have c_w3_w_2_1 := c_w3_w_2 1
              conv at c_w3_w_2_1 => rhs; simp [go_sem, *]
              have f_w3_w_2_1 := f_w3_w_2 1
              conv at f_w3_w_2_1 => rhs; simp [go_sem, *]
              have c_w3_w_2_2 := c_w3_w_2 2
              conv at c_w3_w_2_2 => rhs; simp [go_sem, *]
              have f_w3_w_2_2 := f_w3_w_2 2
              conv at f_w3_w_2_2 => rhs; simp [go_sem, *]
              have c_w3_w_2_3 := c_w3_w_2 3
              conv at c_w3_w_2_3 => rhs; simp [go_sem, *]
              have f_w3_w_2_3 := f_w3_w_2 3
              conv at f_w3_w_2_3 => rhs; simp [go_sem, *]
              have c_w3_w_2_4 := c_w3_w_2 4
              conv at c_w3_w_2_4 => rhs; simp [go_sem, *]
              have f_w3_w_2_4 := f_w3_w_2 4
              conv at f_w3_w_2_4 => rhs; simp [go_sem, *]
              have c_w3_w_2_5 := c_w3_w_2 5
              conv at c_w3_w_2_5 => rhs; simp [go_sem, *]
              have f_w3_w_2_5 := f_w3_w_2 5
              conv at f_w3_w_2_5 => rhs; simp [go_sem, *]
              obtain ⟨c_w3_w2_0, f_w3_w2_0⟩ := bk hb_w3 (w2.heap.size) (by first | omega | (simp <;> omega))
              have c_w3_w2_0_0 := c_w3_w2_0 0
              conv at c_w3_w2_0_0 => rhs; simp [go_sem, *]
              have f_w3_w2_0_0 := f_w3_w2_0 0
              conv at f_w3_w2_0_0 => rhs; simp [go_sem, *]
              have c_w3_w2_0_1 := c_w3_w2_0 1
              conv at c_w3_w2_0_1 => rhs; simp [go_sem, *]
              have f_w3_w2_0_1 := f_w3_w2_0 1
              conv at f_w3_w2_0_1 => rhs; simp [go_sem, *]
              have c_w3_w2_0_2 := c_w3_w2_0 2
              conv at c_w3_w2_0_2 => rhs; simp [go_sem, *]
              have f_w3_w2_0_2 := f_w3_w2_0 2
              conv at f_w3_w2_0_2 => rhs; simp [go_sem, *]
              have c_w3_w2_0_3 := c_w3_w2_0 3
              conv at c_w3_w2_0_3 => rhs; simp [go_sem, *]
              have f_w3_w2_0_3 := f_w3_w2_0 3
              conv at f_w3_w2_0_3 => rhs; simp [go_sem, *]
              have c_w3_w2_0_4 := c_w3_w2_0 4
              conv at c_w3_w2_0_4 => rhs; simp [go_sem, *]
              have f_w3_w2_0_4 := f_w3_w2_0 4
              conv at f_w3_w2_0_4 => rhs; simp [go_sem, *]
              have c_w3_w2_0_5 := c_w3_w2_0 5
              conv at c_w3_w2_0_5 => rhs; simp [go_sem, *]
              have f_w3_w2_0_5 := f_w3_w2_0 5
              conv at f_w3_w2_0_5 => rhs; simp [go_sem, *]
              have hB_w3 : Below w.heap.size w w3 := Below.trans (by (repeat (first | (with_reducible exact Below.refl _ _) | (with_reducible assumption) | (with_reducible refine Below.drew ?_) | (focus ((with_reducible refine Below.setCell ?_ ?_ _); rotate_left; (first | omega | (simp <;> omega)))) | (focus ((with_reducible refine Below.alloc ?_ ?_ _); rotate_left; (first | omega | (simp <;> omega)))) | exact Below.refl _ _ | assumption | refine Below.drew ?_ | refine Below.alloc ?_ (by first | omega | (simp <;> omega)) _ | refine Below.setCell ?_ (by first | omega | (simp <;> omega)) _))) (hb_w3.mono (by first | omega | (simp <;> omega)))
              clear hb_w3 c_w3_w_0 f_w3_w_0 c_w3_w_1 f_w3_w_1 c_w3_w_2 f_w3_w_2 c_w3_w2_0 f_w3_w2_0
              try clear c_w4_w_2_0
              try clear f_w4_w_2_0
              try clear c_w4_w_2_1
              try clear f_w4_w_2_1
              try clear c_w4_w_2_2
              try clear f_w4_w_2_2
              try clear c_w4_w_2_3
              try clear f_w4_w_2_3
              try clear c_w4_w_2_4
              try clear f_w4_w_2_4
              try clear c_w4_w_2_5
              try clear f_w4_w_2_5
              try clear c_w4_w2_0_0
              try clear f_w4_w2_0_0
              try clear c_w4_w2_0_1
              try clear f_w4_w2_0_1
              try clear c_w4_w2_0_2
              try clear f_w4_w2_0_2
              try clear c_w4_w2_0_3
              try clear f_w4_w2_0_3
              try clear c_w4_w2_0_4
              try clear f_w4_w2_0_4
              try clear c_w4_w2_0_5
              try clear f_w4_w2_0_5
              try clear far_w4_w_2
              try clear far_w4_w2_0
              try clear hB_w4
              have far_w3_w_0 := far (show w.heap.size < w3.heap.size by omega)
              have far_w3_w_1 := far (show w.heap.size + 1 < w3.heap.size by omega)
              have far_w3_w_2 := far (show w.heap.size + 2 < w3.heap.size by omega)
              have far_w3_w2_0 := far (show w2.heap.size < w3.heap.size by omega)
              have HOx := Lib.hid (show ro = ⟨true, uh, un, cleanL up, uq, uy⟩ by rw [HO.out]; simp [HPx.out, HPy.out])
              go_wp2_with fail
              refine Calls.mono (C3.out _ _ _ _ _ _ HOx.out _ (by (repeat (first | (with_reducible exact Below.refl _ _) | (with_reducible assumption) | (with_reducible refine Below.drew ?_) | (focus ((with_reducible refine Below.setCell ?_ ?_ _); rotate_left; (first | omega | (simp <;> omega)))) | (focus ((with_reducible refine Below.alloc ?_ ?_ _); rotate_left; (first | omega | (simp <;> omega)))) | exact Below.refl _ _ | assumption | refine Below.drew ?_ | refine Below.alloc ?_ (by first | omega | (simp <;> omega)) _ | refine Below.setCell ?_ (by first | omega | (simp <;> omega)) _)))) ?_
              rintro e w4 ⟨rfl, hb_w4⟩
              have hz_w4 := hb_w4.size
              try simp at hz_w4
              obtain ⟨c_w4_w_2, f_w4_w_2⟩ := bk hb_w4 (w.heap.size + 2) (by first | omega | (simp <;> omega))
              have c_w4_w_2_0 := c_w4_w_2 0
              conv at c_w4_w_2_0 => rhs; simp [go_sem, *]
              have f_w4_w_2_0 := f_w4_w_2 0
              conv at f_w4_w_2_0 => rhs; simp [go_sem, *]
              have c_w4_w_2_1 := c_w4_w_2 1
              conv at c_w4_w_2_1 => rhs; simp [go_sem, *]
              have f_w4_w_2_1 := f_w4_w_2 1
              conv at f_w4_w_2_1 => rhs; simp [go_sem, *]
              have c_w4_w_2_2 := c_w4_w_2 2
              conv at c_w4_w_2_2 => rhs; simp [go_sem, *]
              have f_w4_w_2_2 := f_w4_w_2 2
              conv at f_w4_w_2_2 => rhs; simp [go_sem, *]
              have c_w4_w_2_3 := c_w4_w_2 3
              conv at c_w4_w_2_3 => rhs; simp [go_sem, *]
              have f_w4_w_2_3 := f_w4_w_2 3
              conv at f_w4_w_2_3 => rhs; simp [go_sem, *]
              have c_w4_w_2_4 := c_w4_w_2 4
              conv at c_w4_w_2_4 => rhs; simp [go_sem, *]
              have f_w4_w_2_4 := f_w4_w_2 4
              conv at f_w4_w_2_4 => rhs; simp [go_sem, *]
              have c_w4_w_2_5 := c_w4_w_2 5
              conv at c_w4_w_2_5 => rhs; simp [go_sem, *]
              have f_w4_w_2_5 := f_w4_w_2 5
              conv at f_w4_w_2_5 => rhs; simp [go_sem, *]
              obtain ⟨c_w4_w2_0, f_w4_w2_0⟩ := bk hb_w4 (w2.heap.size) (by first | omega | (simp <;> omega))
              have c_w4_w2_0_0 := c_w4_w2_0 0
              conv at c_w4_w2_0_0 => rhs; simp [go_sem, *]
              have f_w4_w2_0_0 := f_w4_w2_0 0
              conv at f_w4_w2_0_0 => rhs; simp [go_sem, *]
              have c_w4_w2_0_1 := c_w4_w2_0 1
              conv at c_w4_w2_0_1 => rhs; simp [go_sem, *]
              have f_w4_w2_0_1 := f_w4_w2_0 1
              conv at f_w4_w2_0_1 => rhs; simp [go_sem, *]
              have c_w4_w2_0_2 := c_w4_w2_0 2
              conv at c_w4_w2_0_2 => rhs; simp [go_sem, *]
              have f_w4_w2_0_2 := f_w4_w2_0 2
              conv at f_w4_w2_0_2 => rhs; simp [go_sem, *]
              have c_w4_w2_0_3 := c_w4_w2_0 3
              conv at c_w4_w2_0_3 => rhs; simp [go_sem, *]
              have f_w4_w2_0_3 := f_w4_w2_0 3
              conv at f_w4_w2_0_3 => rhs; simp [go_sem, *]
              have c_w4_w2_0_4 := c_w4_w2_0 4
              conv at c_w4_w2_0_4 => rhs; simp [go_sem, *]
              have f_w4_w2_0_4 := f_w4_w2_0 4
              conv at f_w4_w2_0_4 => rhs; simp [go_sem, *]
              have c_w4_w2_0_5 := c_w4_w2_0 5
              conv at c_w4_w2_0_5 => rhs; simp [go_sem, *]
              have f_w4_w2_0_5 := f_w4_w2_0 5
              conv at f_w4_w2_0_5 => rhs; simp [go_sem, *]
              have hB_w4 : Below w.heap.size w w4 := Below.trans (by (repeat (first | (with_reducible exact Below.refl _ _) | (with_reducible assumption) | (with_reducible refine Below.drew ?_) | (focus ((with_reducible refine Below.setCell ?_ ?_ _); rotate_left; (first | omega | (simp <;> omega)))) | (focus ((with_reducible refine Below.alloc ?_ ?_ _); rotate_left; (first | omega | (simp <;> omega)))) | exact Below.refl _ _ | assumption | refine Below.drew ?_ | refine Below.alloc ?_ (by first | omega | (simp <;> omega)) _ | refine Below.setCell ?_ (by first | omega | (simp <;> omega)) _))) (hb_w4.mono (by first | omega | (simp <;> omega)))
              clear hb_w4 c_w4_w_2 f_w4_w_2 c_w4_w2_0 f_w4_w2_0
              try clear c_w3_w_0_0
              try clear f_w3_w_0_0
              try clear c_w3_w_0_1
              try clear f_w3_w_0_1
              try clear c_w3_w_0_2
              try clear f_w3_w_0_2
              try clear c_w3_w_0_3
              try clear f_w3_w_0_3
              try clear c_w3_w_0_4
              try clear f_w3_w_0_4
              try clear c_w3_w_0_5
              try clear f_w3_w_0_5
              try clear c_w3_w_1_0
              try clear f_w3_w_1_0
              try clear c_w3_w_1_1
              try clear f_w3_w_1_1
              try clear c_w3_w_1_2
              try clear f_w3_w_1_2
              try clear c_w3_w_1_3
              try clear f_w3_w_1_3
              try clear c_w3_w_1_4
              try clear f_w3_w_1_4
              try clear c_w3_w_1_5
              try clear f_w3_w_1_5
              try clear c_w3_w_2_0
              try clear f_w3_w_2_0
              try clear c_w3_w_2_1
              try clear f_w3_w_2_1
              try clear c_w3_w_2_2
              try clear f_w3_w_2_2
              try clear c_w3_w_2_3
              try clear f_w3_w_2_3
              try clear c_w3_w_2_4
              try clear f_w3_w_2_4
              try clear c_w3_w_2_5
              try clear f_w3_w_2_5
              try clear c_w3_w2_0_0
              try clear f_w3_w2_0_0
              try clear c_w3_w2_0_1
              try clear f_w3_w2_0_1
              try clear c_w3_w2_0_2
              try clear f_w3_w2_0_2
              try clear c_w3_w2_0_3
              try clear f_w3_w2_0_3
              try clear c_w3_w2_0_4
              try clear f_w3_w2_0_4
              try clear c_w3_w2_0_5
              try clear f_w3_w2_0_5
              try clear far_w3_w_0
              try clear far_w3_w_1
              try clear far_w3_w_2
              try clear far_w3_w2_0
              try clear hB_w3
              have far_w4_w_2 := far (show w.heap.size + 2 < w4.heap.size by omega)
              have far_w4_w2_0 := far (show w2.heap.size < w4.heap.size by omega)
              cases ok with
              | false =>
                go_wp2
                exact bodyPost_ret (v := .tuple #[uv false [] 0 [] false [], .int .i64 2]) (by simp [results, Tryd.results7, go_sem, *]) rfl ⟨by rw [HRf.out (by simp)]; rfl, by (repeat (first | (with_reducible exact Below.refl _ _) | (with_reducible assumption) | (with_reducible refine Below.drew ?_) | (focus ((with_reducible refine Below.setCell ?_ ?_ _); rotate_left; (first | omega | (simp <;> omega)))) | (focus ((with_reducible refine Below.alloc ?_ ?_ _); rotate_left; (first | omega | (simp <;> omega)))) | exact Below.refl _ _ | assumption | refine Below.drew ?_ | refine Below.alloc ?_ (by first | omega | (simp <;> omega)) _ | refine Below.setCell ?_ (by first | omega | (simp <;> omega)) _))⟩
              | true =>
                go_wp2
                exact bodyPost_ret (v := .tuple #[uv true uh un (cleanL up) uq uy, .int .i64 0]) (by simp [results, Tryd.results7, go_sem, *]) rfl ⟨by rw [HRt.out (by simp), HOx.out], by (repeat (first | (with_reducible exact Below.refl _ _) | (with_reducible assumption) | (with_reducible refine Below.drew ?_) | (focus ((with_reducible refine Below.setCell ?_ ?_ _); rotate_left; (first | omega | (simp <;> omega)))) | (focus ((with_reducible refine Below.alloc ?_ ?_ _); rotate_left; (first | omega | (simp <;> omega)))) | exact Below.refl _ _ | assumption | refine Below.drew ?_ | refine Below.alloc ?_ (by first | omega | (simp <;> omega)) _ | refine Below.setCell ?_ (by first | omega | (simp <;> omega)) _))⟩
            · have hs1 : (bAt up 0 == 47) = false := by simpa using hs
              have HPx := Lib.hid (show rp = cleanL (bp.take k1 ++ up) by rw [HP.out]; simp [hp, hs])
              have HPy := Lib.hid hp
              clear hp
              have hct : (bp.take k1 ++ up).length ≤ 100000 := by rw [List.length_append, List.length_take]; omega
              go_wp2_with fail
              refine wp_region_later_tail (w2.heap.size + 1) 12 (by kernel_rfl) (by kernel_rfl) ?_
              simp only [List.take_succ_cons, List.take_zero, List.drop_succ_cons, List.drop_zero]
              have l_w3_w_0 := @Later.at (w2.heap.size + 1) (w.heap.size) (by omega)
              have l_w3_w_1 := @Later.at (w2.heap.size + 1) (w.heap.size + 1) (by omega)
              have l_w3_w_2 := @Later.at (w2.heap.size + 1) (w.heap.size + 2) (by omega)
              have l_w3_w2_0 := @Later.at (w2.heap.size + 1) (w2.heap.size) (by omega)
              repeat (go_big_quiet_step (first | (go_at_call 15; refine later_same (LI.out _)) | (go_at_call 11; refine later_of (by (first | omega | (simp <;> omega))) (CL.out _ hct _))))
              refine wpQuiet_nil ?_
              rintro w3 ⟨⟨_, hb_w3⟩, rfl⟩
              clear l_w3_w_0 l_w3_w_1 l_w3_w_2 l_w3_w2_0
              try simp only [] at hb_w3 ⊢
              have hz_w3 := hb_w3.size
              try simp at hz_w3
              have c_w3_w_0 := fun o => hb_w3.cell (p := ⟨w.heap.size, o, none⟩) (by first | omega | (simp <;> omega))
              have f_w3_w_0 := fun o => hb_w3.frozen (p := ⟨w.heap.size, o, none⟩) (by first | omega | (simp <;> omega))
              have c_w3_w_0_0 := c_w3_w_0 0
              conv at c_w3_w_0_0 => rhs; simp [go_sem, *]
              have f_w3_w_0_0 := f_w3_w_0 0
              conv at f_w3_w_0_0 => rhs; simp [go_sem, *]
              have c_w3_w_0_1 := c_w3_w_0 1
              conv at c_w3_w_0_1 => rhs; simp [go_sem, *]
              have f_w3_w_0_1 := f_w3_w_0 1
              conv at f_w3_w_0_1 => rhs; simp [go_sem, *]
              have c_w3_w_0_2 := c_w3_w_0 2
              conv at c_w3_w_0_2 => rhs; simp [go_sem, *]
              have f_w3_w_0_2 := f_w3_w_0 2
              conv at f_w3_w_0_2 => rhs; simp [go_sem, *]
              have c_w3_w_0_3 := c_w3_w_0 3
              conv at c_w3_w_0_3 => rhs; simp [go_sem, *]
              have f_w3_w_0_3 := f_w3_w_0 3
              conv at f_w3_w_0_3 => rhs; simp [go_sem, *]
              have c_w3_w_0_4 := c_w3_w_0 4
              conv at c_w3_w_0_4 => rhs; simp [go_sem, *]
              have f_w3_w_0_4 := f_w3_w_0 4
              conv at f_w3_w_0_4 => rhs; simp [go_sem, *]
              have c_w3_w_0_5 := c_w3_w_0 5
              conv at c_w3_w_0_5 => rhs; simp [go_sem, *]
              have f_w3_w_0_5 := f_w3_w_0 5
              conv at f_w3_w_0_5 => rhs; simp [go_sem, *]
              have c_w3_w_1 := fun o => hb_w3.cell (p := ⟨w.heap.size + 1, o, none⟩) (by first | omega | (simp <;> omega))
              have f_w3_w_1 := fun o => hb_w3.frozen (p := ⟨w.heap.size + 1, o, none⟩) (by first | omega | (simp <;> omega))
              have c_w3_w_1_0 := c_w3_w_1 0
              conv at c_w3_w_1_0 => rhs; simp [go_sem, *]
              have f_w3_w_1_0 := f_w3_w_1 0
              conv at f_w3_w_1_0 => rhs; simp [go_sem, *]
              have c_w3_w_1_1 := c_w3_w_1 1
              conv at c_w3_w_1_1 => rhs; simp [go_sem, *]
              have f_w3_w_1_1 := f_w3_w_1 1
              conv at f_w3_w_1_1 => rhs; simp [go_sem, *]
              have c_w3_w_1_2 := c_w3_w_1 2
              conv at c_w3_w_1_2 => rhs; simp [go_sem, *]
              have f_w3_w_1_2 := f_w3_w_1 2
              conv at f_w3_w_1_2 => rhs; simp [go_sem, *]
              have c_w3_w_1_3 := c_w3_w_1 3
              conv at c_w3_w_1_3 => rhs; simp [go_sem, *]
              have f_w3_w_1_3 := f_w3_w_1 3
              conv at f_w3_w_1_3 => rhs; simp [go_sem, *]
              have c_w3_w_1_4 := c_w3_w_1 4
              conv at c_w3_w_1_4 => rhs; simp [go_sem, *]
              have f_w3_w_1_4 := f_w3_w_1 4
              conv at f_w3_w_1_4 => rhs; simp [go_sem, *]
              have c_w3_w_1_5 := c_w3_w_1 5
              conv at c_w3_w_1_5 => rhs; simp [go_sem, *]
              have f_w3_w_1_5 := f_w3_w_1 5
              conv at f_w3_w_1_5 => rhs; simp [go_sem, *]
              have c_w3_w_2 := fun o => hb_w3.cell (p := ⟨w.heap.size + 2, o, none⟩) (by first | omega | (simp <;> omega))
              have f_w3_w_2 := fun o => hb_w3.frozen (p := ⟨w.heap.size + 2, o, none⟩) (by first | omega | (simp <;> omega))
              have c_w3_w_2_0 := c_w3_w_2 0
              conv at c_w3_w_2_0 => rhs; simp [go_sem, *]
              have f_w3_w_2_0 := f_w3_w_2 0
              conv at f_w3_w_2_0 => rhs; simp [go_sem, *]
              have c_w3_w_2_1 := c_w3_w_2 1
              conv at c_w3_w_2_1 => rhs; simp [go_sem, *]
              have f_w3_w_2_1 := f_w3_w_2 1
              conv at f_w3_w_2_1 => rhs; simp [go_sem, *]
              have c_w3_w_2_2 := c_w3_w_2 2
              conv at c_w3_w_2_2 => rhs; simp [go_sem, *]
              have f_w3_w_2_2 := f_w3_w_2 2
              conv at f_w3_w_2_2 => rhs; simp [go_sem, *]
              have c_w3_w_2_3 := c_w3_w_2 3
              conv at c_w3_w_2_3 => rhs; simp [go_sem, *]
              have f_w3_w_2_3 := f_w3_w_2 3
              conv at f_w3_w_2_3 => rhs; simp [go_sem, *]
              have c_w3_w_2_4 := c_w3_w_2 4
              conv at c_w3_w_2_4 => rhs; simp [go_sem, *]
              have f_w3_w_2_4 := f_w3_w_2 4
              conv at f_w3_w_2_4 => rhs; simp [go_sem, *]
              have c_w3_w_2_5 := c_w3_w_2 5
              conv at c_w3_w_2_5 => rhs; simp [go_sem, *]
              have f_w3_w_2_5 := f_w3_w_2 5
              conv at f_w3_w_2_5 => rhs; simp [go_sem, *]
              have c_w3_w2_0 := fun o => hb_w3.cell (p := ⟨w2.heap.size, o, none⟩) (by first | omega | (simp <;> omega))
              have f_w3_w2_0 := fun o => hb_w3.frozen (p := ⟨w2.heap.size, o, none⟩) (by first | omega | (simp <;> omega))
              have c_w3_w2_0_0 := c_w3_w2_0 0
              conv at c_w3_w2_0_0 => rhs; simp [go_sem, *]
              have f_w3_w2_0_0 := f_w3_w2_0 0
              conv at f_w3_w2_0_0 => rhs; simp [go_sem, *]
              have c_w3_w2_0_1 := c_w3_w2_0 1
              conv at c_w3_w2_0_1 => rhs; simp [go_sem, *]
              have f_w3_w2_0_1 := f_w3_w2_0 1
              conv at f_w3_w2_0_1 => rhs; simp [go_sem, *]
              have c_w3_w2_0_2 := c_w3_w2_0 2
              conv at c_w3_w2_0_2 => rhs; simp [go_sem, *]
              have f_w3_w2_0_2 := f_w3_w2_0 2
              conv at f_w3_w2_0_2 => rhs; simp [go_sem, *]
              have c_w3_w2_0_3 := c_w3_w2_0 3
              conv at c_w3_w2_0_3 => rhs; simp [go_sem, *]
              have f_w3_w2_0_3 := f_w3_w2_0 3
              conv at f_w3_w2_0_3 => rhs; simp [go_sem, *]
              have c_w3_w2_0_4 := c_w3_w2_0 4
              conv at c_w3_w2_0_4 => rhs; simp [go_sem, *]
              have f_w3_w2_0_4 := f_w3_w2_0 4
              conv at f_w3_w2_0_4 => rhs; simp [go_sem, *]
              have c_w3_w2_0_5 := c_w3_w2_0 5
              conv at c_w3_w2_0_5 => rhs; simp [go_sem, *]
              have f_w3_w2_0_5 := f_w3_w2_0 5
              conv at f_w3_w2_0_5 => rhs; simp [go_sem, *]
              have hB_w3 : Below w.heap.size w w3 := Below.trans (by (repeat (first | (with_reducible exact Below.refl _ _) | (with_reducible assumption) | (with_reducible refine Below.drew ?_) | (focus ((with_reducible refine Below.setCell ?_ ?_ _); rotate_left; (first | omega | (simp <;> omega)))) | (focus ((with_reducible refine Below.alloc ?_ ?_ _); rotate_left; (first | omega | (simp <;> omega)))) | exact Below.refl _ _ | assumption | refine Below.drew ?_ | refine Below.alloc ?_ (by first | omega | (simp <;> omega)) _ | refine Below.setCell ?_ (by first | omega | (simp <;> omega)) _))) (hb_w3.mono (by first | omega | (simp <;> omega)))
              clear hb_w3 c_w3_w_0 f_w3_w_0 c_w3_w_1 f_w3_w_1 c_w3_w_2 f_w3_w_2 c_w3_w2_0 f_w3_w2_0
              try clear c_w4_w_2_0
              try clear f_w4_w_2_0
              try clear c_w4_w_2_1
              try clear f_w4_w_2_1
              try clear c_w4_w_2_2
              try clear f_w4_w_2_2
              try clear c_w4_w_2_3
              try clear f_w4_w_2_3
              try clear c_w4_w_2_4
              try clear f_w4_w_2_4
              try clear c_w4_w_2_5
              try clear f_w4_w_2_5
              try clear c_w4_w2_0_0
              try clear f_w4_w2_0_0
              try clear c_w4_w2_0_1
              try clear f_w4_w2_0_1
              try clear c_w4_w2_0_2
              try clear f_w4_w2_0_2
              try clear c_w4_w2_0_3
              try clear f_w4_w2_0_3
              try clear c_w4_w2_0_4
              try clear f_w4_w2_0_4
              try clear c_w4_w2_0_5
              try clear f_w4_w2_0_5
              try clear far_w4_w_2
              try clear far_w4_w2_0
              try clear hB_w4
              have far_w3_w_0 := far (show w.heap.size < w3.heap.size by omega)
              have far_w3_w_1 := far (show w.heap.size + 1 < w3.heap.size by omega)
              have far_w3_w_2 := far (show w.heap.size + 2 < w3.heap.size by omega)
              have far_w3_w2_0 := far (show w2.heap.size < w3.heap.size by omega)
              have HOx := Lib.hid (show ro = ⟨true, uh, un, cleanL (bp.take k1 ++ up), uq, uy⟩ by rw [HO.out]; simp [HPx.out, HPy.out])
              go_wp2_with fail
              refine Calls.mono (C3.out _ _ _ _ _ _ HOx.out _ (by (repeat (first | (with_reducible exact Below.refl _ _) | (with_reducible assumption) | (with_reducible refine Below.drew ?_) | (focus ((with_reducible refine Below.setCell ?_ ?_ _); rotate_left; (first | omega | (simp <;> omega)))) | (focus ((with_reducible refine Below.alloc ?_ ?_ _); rotate_left; (first | omega | (simp <;> omega)))) | exact Below.refl _ _ | assumption | refine Below.drew ?_ | refine Below.alloc ?_ (by first | omega | (simp <;> omega)) _ | refine Below.setCell ?_ (by first | omega | (simp <;> omega)) _)))) ?_
              rintro e w4 ⟨rfl, hb_w4⟩
              have hz_w4 := hb_w4.size
              try simp at hz_w4
              obtain ⟨c_w4_w_2, f_w4_w_2⟩ := bk hb_w4 (w.heap.size + 2) (by first | omega | (simp <;> omega))
              have c_w4_w_2_0 := c_w4_w_2 0
              conv at c_w4_w_2_0 => rhs; simp [go_sem, *]
              have f_w4_w_2_0 := f_w4_w_2 0
              conv at f_w4_w_2_0 => rhs; simp [go_sem, *]
              have c_w4_w_2_1 := c_w4_w_2 1
              conv at c_w4_w_2_1 => rhs; simp [go_sem, *]
              have f_w4_w_2_1 := f_w4_w_2 1
              conv at f_w4_w_2_1 => rhs; simp [go_sem, *]
              have c_w4_w_2_2 := c_w4_w_2 2
              conv at c_w4_w_2_2 => rhs; simp [go_sem, *]
              have f_w4_w_2_2 := f_w4_w_2 2
              conv at f_w4_w_2_2 => rhs; simp [go_sem, *]
              have c_w4_w_2_3 := c_w4_w_2 3
              conv at c_w4_w_2_3 => rhs; simp [go_sem, *]
              have f_w4_w_2_3 := f_w4_w_2 3
              conv at f_w4_w_2_3 => rhs; simp [go_sem, *]
              have c_w4_w_2_4 := c_w4_w_2 4
              conv at c_w4_w_2_4 => rhs; simp [go_sem, *]
              have f_w4_w_2_4 := f_w4_w_2 4
              conv at f_w4_w_2_4 => rhs; simp [go_sem, *]
              have c_w4_w_2_5 := c_w4_w_2 5
              conv at c_w4_w_2_5 => rhs; simp [go_sem, *]
              have f_w4_w_2_5 := f_w4_w_2 5
              conv at f_w4_w_2_5 => rhs; simp [go_sem, *]
              obtain ⟨c_w4_w2_0, f_w4_w2_0⟩ := bk hb_w4 (w2.heap.size) (by first | omega | (simp <;> omega))
              have c_w4_w2_0_0 := c_w4_w2_0 0
              conv at c_w4_w2_0_0 => rhs; simp [go_sem, *]
              have f_w4_w2_0_0 := f_w4_w2_0 0
              conv at f_w4_w2_0_0 => rhs; simp [go_sem, *]
              have c_w4_w2_0_1 := c_w4_w2_0 1
              conv at c_w4_w2_0_1 => rhs; simp [go_sem, *]
              have f_w4_w2_0_1 := f_w4_w2_0 1
              conv at f_w4_w2_0_1 => rhs; simp [go_sem, *]
              have c_w4_w2_0_2 := c_w4_w2_0 2
              conv at c_w4_w2_0_2 => rhs; simp [go_sem, *]
              have f_w4_w2_0_2 := f_w4_w2_0 2
              conv at f_w4_w2_0_2 => rhs; simp [go_sem, *]
              have c_w4_w2_0_3 := c_w4_w2_0 3
              conv at c_w4_w2_0_3 => rhs; simp [go_sem, *]
              have f_w4_w2_0_3 := f_w4_w2_0 3
              conv at f_w4_w2_0_3 => rhs; simp [go_sem, *]
              have c_w4_w2_0_4 := c_w4_w2_0 4
              conv at c_w4_w2_0_4 => rhs; simp [go_sem, *]
              have f_w4_w2_0_4 := f_w4_w2_0 4
              conv at f_w4_w2_0_4 => rhs; simp [go_sem, *]
              have c_w4_w2_0_5 := c_w4_w2_0 5
              conv at c_w4_w2_0_5 => rhs; simp [go_sem, *]
              have f_w4_w2_0_5 := f_w4_w2_0 5
              conv at f_w4_w2_0_5 => rhs; simp [go_sem, *]
              have hB_w4 : Below w.heap.size w w4 := Below.trans (by (repeat (first | (with_reducible exact Below.refl _ _) | (with_reducible assumption) | (with_reducible refine Below.drew ?_) | (focus ((with_reducible refine Below.setCell ?_ ?_ _); rotate_left; (first | omega | (simp <;> omega)))) | (focus ((with_reducible refine Below.alloc ?_ ?_ _); rotate_left; (first | omega | (simp <;> omega)))) | exact Below.refl _ _ | assumption | refine Below.drew ?_ | refine Below.alloc ?_ (by first | omega | (simp <;> omega)) _ | refine Below.setCell ?_ (by first | omega | (simp <;> omega)) _))) (hb_w4.mono (by first | omega | (simp <;> omega)))
              clear hb_w4 c_w4_w_2 f_w4_w_2 c_w4_w2_0 f_w4_w2_0
              try clear c_w3_w_0_0
              try clear f_w3_w_0_0
              try clear c_w3_w_0_1
              try clear f_w3_w_0_1
              try clear c_w3_w_0_2
              try clear f_w3_w_0_2
              try clear c_w3_w_0_3
              try clear f_w3_w_0_3
              try clear c_w3_w_0_4
              try clear f_w3_w_0_4
              try clear c_w3_w_0_5
              try clear f_w3_w_0_5
              try clear c_w3_w_1_0
              try clear f_w3_w_1_0
              try clear c_w3_w_1_1
              try clear f_w3_w_1_1
              try clear c_w3_w_1_2
              try clear f_w3_w_1_2
              try clear c_w3_w_1_3
              try clear f_w3_w_1_3
              try clear c_w3_w_1_4
              try clear f_w3_w_1_4
              try clear c_w3_w_1_5
              try clear f_w3_w_1_5
              try clear c_w3_w_2_0
              try clear f_w3_w_2_0
              try clear c_w3_w_2_1
              try clear f_w3_w_2_1
              try clear c_w3_w_2_2
              try clear f_w3_w_2_2
              try clear c_w3_w_2_3
              try clear f_w3_w_2_3
              try clear c_w3_w_2_4
              try clear f_w3_w_2_4
              try clear c_w3_w_2_5
              try clear f_w3_w_2_5
              try clear c_w3_w2_0_0
              try clear f_w3_w2_0_0
              try clear c_w3_w2_0_1
              try clear f_w3_w2_0_1
              try clear c_w3_w2_0_2
              try clear f_w3_w2_0_2
              try clear c_w3_w2_0_3
              try clear f_w3_w2_0_3
              try clear c_w3_w2_0_4
              try clear f_w3_w2_0_4
              try clear c_w3_w2_0_5
              try clear f_w3_w2_0_5
              try clear far_w3_w_0
              try clear far_w3_w_1
              try clear far_w3_w_2
              try clear far_w3_w2_0
              try clear hB_w3
              have far_w4_w_2 := far (show w.heap.size + 2 < w4.heap.size by omega)
              have far_w4_w2_0 := far (show w2.heap.size < w4.heap.size by omega)
              cases ok with
              | false =>
                go_wp2
                exact bodyPost_ret (v := .tuple #[uv false [] 0 [] false [], .int .i64 2]) (by simp [results, Tryd.results7, go_sem, *]) rfl ⟨by rw [HRf.out (by simp)]; rfl, by (repeat (first | (with_reducible exact Below.refl _ _) | (with_reducible assumption) | (with_reducible refine Below.drew ?_) | (focus ((with_reducible refine Below.setCell ?_ ?_ _); rotate_left; (first | omega | (simp <;> omega)))) | (focus ((with_reducible refine Below.alloc ?_ ?_ _); rotate_left; (first | omega | (simp <;> omega)))) | exact Below.refl _ _ | assumption | refine Below.drew ?_ | refine Below.alloc ?_ (by first | omega | (simp <;> omega)) _ | refine Below.setCell ?_ (by first | omega | (simp <;> omega)) _))⟩
              | true =>
                go_wp2
                exact bodyPost_ret (v := .tuple #[uv true uh un (cleanL (bp.take k1 ++ up)) uq uy, .int .i64 0]) (by simp [results, Tryd.results7, go_sem, *]) rfl ⟨by rw [HRt.out (by simp), HOx.out], by (repeat (first | (with_reducible exact Below.refl _ _) | (with_reducible assumption) | (with_reducible refine Below.drew ?_) | (focus ((with_reducible refine Below.setCell ?_ ?_ _); rotate_left; (first | omega | (simp <;> omega)))) | (focus ((with_reducible refine Below.alloc ?_ ?_ _); rotate_left; (first | omega | (simp <;> omega)))) | exact Below.refl _ _ | assumption | refine Below.drew ?_ | refine Below.alloc ?_ (by first | omega | (simp <;> omega)) _ | refine Below.setCell ?_ (by first | omega | (simp <;> omega)) _))⟩
end Go.Proofs.YtcjekdoooekmlaaDoor
