/- The law UriStays: one way of its walk. Written by tools/uristays.py. -/
import Derived.Test.YtcjekdoooekmlaaDoorStaysBase
namespace Go.Proofs.YtcjekdoooekmlaaDoor
open Go.RowKit Go.Shelf
set_option linter.unusedVariables false

set_option maxHeartbeats 6400000 in
set_option maxRecDepth 100000 in
theorem staysC (b u o bc uc oc : UU) (hbc : b.cut = bc) (huc : u.cut = uc) (hoc : o.cut = oc) (hb : b.h.length ≤ 9223372036854775807 ∧ b.p.length ≤ 9223372036854775807 ∧ b.y.length ≤ 9223372036854775807) (hu : u.h.length ≤ 9223372036854775807 ∧ u.p.length ≤ 9223372036854775807 ∧ u.y.length ≤ 9223372036854775807)
    (ho : o.h.length ≤ 9223372036854775807 ∧ o.p.length ≤ 9223372036854775807 ∧ o.y.length ≤ 9223372036854775807) (l0 l cl p0 : List UInt8) (qs : List (List UInt8)) (k : Nat) (hk : min (l0.length : Int) 300 = k) (hk1 : k ≤ l0.length) (hk2 : k ≤ 300) (hl : l0.take k = l) (hc : cleanL l = cl) (hps : Lib.split cl [47] = p0 :: qs)
    (hpf : Lib.hasPrefix l [47] = false) (hq0 : qs.length = 0) (w : World) (hL : Laid w) (hM : ∃ m, w.cell? ⟨0, 0, none⟩ = some (.int .i64 m)) (hw0 : 0 < w.heap.size) :
    Calls Tryd.prog 5 #[b.v, u.v, o.v, .string (S l0)] w fun e w' => e = .returned (.bool true) ∧ Below w.heap.size w w' := by
  have F1 := Lib.hid (fun W => show Calls Tryd.prog 6 #[b.v] W fun e w' => e = .returned bc.v ∧ Below W.heap.size W w' from hbc ▸ fewC b hb W)
  have F2 := Lib.hid (fun W => show Calls Tryd.prog 6 #[u.v] W fun e w' => e = .returned uc.v ∧ Below W.heap.size W w' from huc ▸ fewC u hu W)
  have F3 := Lib.hid (fun W => show Calls Tryd.prog 6 #[o.v] W fun e w' => e = .returned oc.v ∧ Below W.heap.size W w' from hoc ▸ fewC o ho W)
  have hbs : bc.small := hbc ▸ b.cut_small
  have hus : uc.small := huc ▸ u.cut_small
  have hos : oc.small := hoc ▸ o.cut_small
  have hll : l.length ≤ 300 := by rw [← hl, List.length_take]; omega
  have C1 := Lib.hid (fun W => clean_any (l := l) (r := cl) (by omega) hc W)
  have hcl : cl.length ≤ 300 := by rw [← hc]; exact Nat.le_trans (cleanL_len l) hll
  have SP := Lib.hid (fun W (hW : Below w.heap.size w W) => split1_tail hps (by omega) W (by obtain ⟨m, hm⟩ := hM; exact ⟨m, (hW.cell (p := ⟨0, 0, none⟩) hw0).trans hm⟩))
  have HP := Lib.hid (fun W => hasPrefix_S (s := l) (p := [47]) hpf W)
  have hnb : qs.length ≤ 1000000 := by
    have h1 := (split_cells cl 47).2
    have h2 := Lib.countB_le (S [47]) (by rw [S_size]; simp) _ (S cl) (Nat.le_refl _)
    rw [S_size] at h2
    rw [hps] at h1
    simp at h1
    omega
  clear hps hc hpf
  have R1 := Lib.hid (fun W (hbl : Below w.heap.size w W) => uriResolve bc uc hbs hus W (hL.on hbl))
  have RG := Lib.hid (resolve_good bc uc)
  have RB := Lib.hid (resolve_bad bc uc)
  have RO := Lib.hid (fun W (hbl : Below w.heap.size w W) => refRightC oc hos.mid (W := W) hL hbl)
  have HL := Lib.hid hL
  have HSO := Lib.hid hos
  obtain ⟨⟨⟨ra, rh, rn, rp, rq, ry⟩, re⟩, hr⟩ : ∃ x, resolve bc uc = x := ⟨_, rfl⟩
  rw [hr] at R1 RG RB
  clear hr hbs hus hos hbc huc hoc hL
  obtain ⟨xa, xh, xn, xp, xq, xy⟩ := bc
  obtain ⟨za, zh, zn, zp, zq, zy⟩ := uc
  obtain ⟨va, vh, vn, vp, vq, vy⟩ := oc
  obtain ⟨ba, bh, bn, bp, bq, by'⟩ := b
  obtain ⟨ua, uh, un, up, uq, uy⟩ := u
  obtain ⟨oa, oh, on, op, oq, oy⟩ := o
  clear hb hu ho
  simp only [UU.v] at F1 F2 F3 R1 ⊢
  simp only at RG RB
  go_enter Tryd.func5, Tryd.ntmps5
  go_wp2_with fail
  refine wp_region_callsV (w.heap.size + 3) [fun W => ((((((W.setCell ⟨w.heap.size, 0, none⟩ (.bool xa)).setCell ⟨w.heap.size, 1, none⟩ (.string (S xh))).setCell ⟨w.heap.size, 2, none⟩ (.int .i64 xn)).setCell ⟨w.heap.size, 3, none⟩ (.string (S xp))).setCell ⟨w.heap.size, 4, none⟩ (.bool xq)).setCell ⟨w.heap.size, 5, none⟩ (.string (S xy))), fun W => ((((((W.setCell ⟨w.heap.size + 1, 0, none⟩ (.bool za)).setCell ⟨w.heap.size + 1, 1, none⟩ (.string (S zh))).setCell ⟨w.heap.size + 1, 2, none⟩ (.int .i64 zn)).setCell ⟨w.heap.size + 1, 3, none⟩ (.string (S zp))).setCell ⟨w.heap.size + 1, 4, none⟩ (.bool zq)).setCell ⟨w.heap.size + 1, 5, none⟩ (.string (S zy))), fun W => ((((((W.setCell ⟨w.heap.size + 2, 0, none⟩ (.bool va)).setCell ⟨w.heap.size + 2, 1, none⟩ (.string (S vh))).setCell ⟨w.heap.size + 2, 2, none⟩ (.int .i64 vn)).setCell ⟨w.heap.size + 2, 3, none⟩ (.string (S vp))).setCell ⟨w.heap.size + 2, 4, none⟩ (.bool vq)).setCell ⟨w.heap.size + 2, 5, none⟩ (.string (S vy))), fun W => W] [3] (fun r => [11, 12, 13, 14].getD r 0) (fun i => [0, 0, 0, 0, 0, 0, 3, 3, 3, 3, 3, 0, 1, 2, 3].getD i 4) [(17, uv ba bh bn bp bq by'), (18, uv xa xh xn xp xq xy), (19, uv ua uh un up uq uy), (20, uv za zh zn zp zq zy), (21, uv oa oh on op oq oy), (22, uv va vh vn vp vq vy), (23, .string (S l0)), (24, .string (S l0)), (25, .int .i64 l0.length), (26, .int .i64 k), (27, .string (S l)), (3, .string (S l))] [(3, .string (S l0))] (by kernel_rfl) (by kernel_rfl) rfl ?_ ?_ ?_ ?_ ?_
  · simp only [puts, List.foldl_cons, List.foldl_nil, Act.put, List.setIfInBounds_toArray, List.set_cons_succ, List.set_cons_zero]; repeat (first | exact trivial | refine ⟨by first | exact Or.inr rfl | exact Or.inl (by kernel_rfl), ?_⟩)
  · simp only [puts, List.foldl_cons, List.foldl_nil, Act.put, List.setIfInBounds_toArray, List.set_cons_succ, List.set_cons_zero]; repeat (first | exact trivial | refine ⟨by first | exact Or.inr rfl | exact Or.inl (by kernel_rfl), ?_⟩)
  · simp only [puts, List.foldl_cons, List.foldl_nil, Act.put, List.setIfInBounds_toArray, List.set_cons_succ, List.set_cons_zero]; repeat (first | exact trivial | refine ⟨by first | exact Or.inr rfl | exact Or.inl (by kernel_rfl), ?_⟩)
  · simp only [puts, List.foldl_cons, List.foldl_nil, Act.put, List.setIfInBounds_toArray, List.set_cons_succ, List.set_cons_zero]
    refine And.intro ?_ ?_
    · exact opOK_headC 0 (by rfl) (upto0 (by exact oneC_val rfl rfl (fun x hx => by have cc0 := fun o => (show Below _ _ x from hx).cell (p := ⟨w.heap.size, o, none⟩) (by first | omega | (simp <;> omega)); have ff0 := fun o => (show Below _ _ x from hx).frozen (p := ⟨w.heap.size, o, none⟩) (by first | omega | (simp <;> omega)); have cc1 := fun o => (show Below _ _ x from hx).cell (p := ⟨w.heap.size + 1, o, none⟩) (by first | omega | (simp <;> omega)); have ff1 := fun o => (show Below _ _ x from hx).frozen (p := ⟨w.heap.size + 1, o, none⟩) (by first | omega | (simp <;> omega)); have cc2 := fun o => (show Below _ _ x from hx).cell (p := ⟨w.heap.size + 2, o, none⟩) (by first | omega | (simp <;> omega)); have ff2 := fun o => (show Below _ _ x from hx).frozen (p := ⟨w.heap.size + 2, o, none⟩) (by first | omega | (simp <;> omega)); simp [go_sem, *])))
    refine And.intro ?_ ?_
    · exact opOK_headC 0 (by rfl) (upto0 (by exact oneC_call rfl rfl (fun x hx => by have cc0 := fun o => (show Below _ _ x from hx).cell (p := ⟨w.heap.size, o, none⟩) (by first | omega | (simp <;> omega)); have ff0 := fun o => (show Below _ _ x from hx).frozen (p := ⟨w.heap.size, o, none⟩) (by first | omega | (simp <;> omega)); have cc1 := fun o => (show Below _ _ x from hx).cell (p := ⟨w.heap.size + 1, o, none⟩) (by first | omega | (simp <;> omega)); have ff1 := fun o => (show Below _ _ x from hx).frozen (p := ⟨w.heap.size + 1, o, none⟩) (by first | omega | (simp <;> omega)); have cc2 := fun o => (show Below _ _ x from hx).cell (p := ⟨w.heap.size + 2, o, none⟩) (by first | omega | (simp <;> omega)); have ff2 := fun o => (show Below _ _ x from hx).frozen (p := ⟨w.heap.size + 2, o, none⟩) (by first | omega | (simp <;> omega)); simp [go_sem, *]) (fun x hx => call_cls hx (by have := (show Below _ _ x from hx).size; simp at this; omega) (F1.out _))))
    refine And.intro ?_ ?_
    · exact opOK_headC 0 (by rfl) (upto0 (by exact oneC_val rfl rfl (fun x hx => by have cc0 := fun o => (show Below _ _ x from hx).cell (p := ⟨w.heap.size, o, none⟩) (by first | omega | (simp <;> omega)); have ff0 := fun o => (show Below _ _ x from hx).frozen (p := ⟨w.heap.size, o, none⟩) (by first | omega | (simp <;> omega)); have cc1 := fun o => (show Below _ _ x from hx).cell (p := ⟨w.heap.size + 1, o, none⟩) (by first | omega | (simp <;> omega)); have ff1 := fun o => (show Below _ _ x from hx).frozen (p := ⟨w.heap.size + 1, o, none⟩) (by first | omega | (simp <;> omega)); have cc2 := fun o => (show Below _ _ x from hx).cell (p := ⟨w.heap.size + 2, o, none⟩) (by first | omega | (simp <;> omega)); have ff2 := fun o => (show Below _ _ x from hx).frozen (p := ⟨w.heap.size + 2, o, none⟩) (by first | omega | (simp <;> omega)); simp [go_sem, *])))
    refine And.intro ?_ ?_
    · exact opOK_headC 0 (by rfl) (upto0 (by exact oneC_call rfl rfl (fun x hx => by have cc0 := fun o => (show Below _ _ x from hx).cell (p := ⟨w.heap.size, o, none⟩) (by first | omega | (simp <;> omega)); have ff0 := fun o => (show Below _ _ x from hx).frozen (p := ⟨w.heap.size, o, none⟩) (by first | omega | (simp <;> omega)); have cc1 := fun o => (show Below _ _ x from hx).cell (p := ⟨w.heap.size + 1, o, none⟩) (by first | omega | (simp <;> omega)); have ff1 := fun o => (show Below _ _ x from hx).frozen (p := ⟨w.heap.size + 1, o, none⟩) (by first | omega | (simp <;> omega)); have cc2 := fun o => (show Below _ _ x from hx).cell (p := ⟨w.heap.size + 2, o, none⟩) (by first | omega | (simp <;> omega)); have ff2 := fun o => (show Below _ _ x from hx).frozen (p := ⟨w.heap.size + 2, o, none⟩) (by first | omega | (simp <;> omega)); simp [go_sem, *]) (fun x hx => call_cls hx (by have := (show Below _ _ x from hx).size; simp at this; omega) (F2.out _))))
    refine And.intro ?_ ?_
    · exact opOK_headC 0 (by rfl) (upto0 (by exact oneC_val rfl rfl (fun x hx => by have cc0 := fun o => (show Below _ _ x from hx).cell (p := ⟨w.heap.size, o, none⟩) (by first | omega | (simp <;> omega)); have ff0 := fun o => (show Below _ _ x from hx).frozen (p := ⟨w.heap.size, o, none⟩) (by first | omega | (simp <;> omega)); have cc1 := fun o => (show Below _ _ x from hx).cell (p := ⟨w.heap.size + 1, o, none⟩) (by first | omega | (simp <;> omega)); have ff1 := fun o => (show Below _ _ x from hx).frozen (p := ⟨w.heap.size + 1, o, none⟩) (by first | omega | (simp <;> omega)); have cc2 := fun o => (show Below _ _ x from hx).cell (p := ⟨w.heap.size + 2, o, none⟩) (by first | omega | (simp <;> omega)); have ff2 := fun o => (show Below _ _ x from hx).frozen (p := ⟨w.heap.size + 2, o, none⟩) (by first | omega | (simp <;> omega)); simp [go_sem, *])))
    refine And.intro ?_ ?_
    · exact opOK_headC 0 (by rfl) (upto0 (by exact oneC_call rfl rfl (fun x hx => by have cc0 := fun o => (show Below _ _ x from hx).cell (p := ⟨w.heap.size, o, none⟩) (by first | omega | (simp <;> omega)); have ff0 := fun o => (show Below _ _ x from hx).frozen (p := ⟨w.heap.size, o, none⟩) (by first | omega | (simp <;> omega)); have cc1 := fun o => (show Below _ _ x from hx).cell (p := ⟨w.heap.size + 1, o, none⟩) (by first | omega | (simp <;> omega)); have ff1 := fun o => (show Below _ _ x from hx).frozen (p := ⟨w.heap.size + 1, o, none⟩) (by first | omega | (simp <;> omega)); have cc2 := fun o => (show Below _ _ x from hx).cell (p := ⟨w.heap.size + 2, o, none⟩) (by first | omega | (simp <;> omega)); have ff2 := fun o => (show Below _ _ x from hx).frozen (p := ⟨w.heap.size + 2, o, none⟩) (by first | omega | (simp <;> omega)); simp [go_sem, *]) (fun x hx => call_cls hx (by have := (show Below _ _ x from hx).size; simp at this; omega) (F3.out _))))
    refine And.intro ?_ ?_
    · exact opOK_headC 3 (by rfl) (upto3 (by exact oneC_val rfl rfl (fun x hx => by have cc0 := fun o => (show Below _ _ x from hx).cell (p := ⟨w.heap.size, o, none⟩) (by first | omega | (simp <;> omega)); have ff0 := fun o => (show Below _ _ x from hx).frozen (p := ⟨w.heap.size, o, none⟩) (by first | omega | (simp <;> omega)); have cc1 := fun o => (show Below _ _ x from hx).cell (p := ⟨w.heap.size + 1, o, none⟩) (by first | omega | (simp <;> omega)); have ff1 := fun o => (show Below _ _ x from hx).frozen (p := ⟨w.heap.size + 1, o, none⟩) (by first | omega | (simp <;> omega)); have cc2 := fun o => (show Below _ _ x from hx).cell (p := ⟨w.heap.size + 2, o, none⟩) (by first | omega | (simp <;> omega)); have ff2 := fun o => (show Below _ _ x from hx).frozen (p := ⟨w.heap.size + 2, o, none⟩) (by first | omega | (simp <;> omega)); simp [go_sem, *])) (by exact oneC_val rfl rfl (fun x hx => by have cc0 := fun o => (show Below _ _ x from hx).cell (p := ⟨w.heap.size, o, none⟩) (by first | omega | (simp <;> omega)); have ff0 := fun o => (show Below _ _ x from hx).frozen (p := ⟨w.heap.size, o, none⟩) (by first | omega | (simp <;> omega)); have cc1 := fun o => (show Below _ _ x from hx).cell (p := ⟨w.heap.size + 1, o, none⟩) (by first | omega | (simp <;> omega)); have ff1 := fun o => (show Below _ _ x from hx).frozen (p := ⟨w.heap.size + 1, o, none⟩) (by first | omega | (simp <;> omega)); have cc2 := fun o => (show Below _ _ x from hx).cell (p := ⟨w.heap.size + 2, o, none⟩) (by first | omega | (simp <;> omega)); have ff2 := fun o => (show Below _ _ x from hx).frozen (p := ⟨w.heap.size + 2, o, none⟩) (by first | omega | (simp <;> omega)); simp [go_sem, *])) (by exact oneC_val rfl rfl (fun x hx => by have cc0 := fun o => (show Below _ _ x from hx).cell (p := ⟨w.heap.size, o, none⟩) (by first | omega | (simp <;> omega)); have ff0 := fun o => (show Below _ _ x from hx).frozen (p := ⟨w.heap.size, o, none⟩) (by first | omega | (simp <;> omega)); have cc1 := fun o => (show Below _ _ x from hx).cell (p := ⟨w.heap.size + 1, o, none⟩) (by first | omega | (simp <;> omega)); have ff1 := fun o => (show Below _ _ x from hx).frozen (p := ⟨w.heap.size + 1, o, none⟩) (by first | omega | (simp <;> omega)); have cc2 := fun o => (show Below _ _ x from hx).cell (p := ⟨w.heap.size + 2, o, none⟩) (by first | omega | (simp <;> omega)); have ff2 := fun o => (show Below _ _ x from hx).frozen (p := ⟨w.heap.size + 2, o, none⟩) (by first | omega | (simp <;> omega)); simp [go_sem, *])) (by exact oneC_val rfl rfl (fun x hx => by have cc0 := fun o => (show Below _ _ x from hx).cell (p := ⟨w.heap.size, o, none⟩) (by first | omega | (simp <;> omega)); have ff0 := fun o => (show Below _ _ x from hx).frozen (p := ⟨w.heap.size, o, none⟩) (by first | omega | (simp <;> omega)); have cc1 := fun o => (show Below _ _ x from hx).cell (p := ⟨w.heap.size + 1, o, none⟩) (by first | omega | (simp <;> omega)); have ff1 := fun o => (show Below _ _ x from hx).frozen (p := ⟨w.heap.size + 1, o, none⟩) (by first | omega | (simp <;> omega)); have cc2 := fun o => (show Below _ _ x from hx).cell (p := ⟨w.heap.size + 2, o, none⟩) (by first | omega | (simp <;> omega)); have ff2 := fun o => (show Below _ _ x from hx).frozen (p := ⟨w.heap.size + 2, o, none⟩) (by first | omega | (simp <;> omega)); simp [go_sem, *])))
    refine And.intro ?_ ?_
    · exact opOK_headC 3 (by rfl) (upto3 (by exact oneC_val rfl rfl (fun x hx => by have cc0 := fun o => (show Below _ _ x from hx).cell (p := ⟨w.heap.size, o, none⟩) (by first | omega | (simp <;> omega)); have ff0 := fun o => (show Below _ _ x from hx).frozen (p := ⟨w.heap.size, o, none⟩) (by first | omega | (simp <;> omega)); have cc1 := fun o => (show Below _ _ x from hx).cell (p := ⟨w.heap.size + 1, o, none⟩) (by first | omega | (simp <;> omega)); have ff1 := fun o => (show Below _ _ x from hx).frozen (p := ⟨w.heap.size + 1, o, none⟩) (by first | omega | (simp <;> omega)); have cc2 := fun o => (show Below _ _ x from hx).cell (p := ⟨w.heap.size + 2, o, none⟩) (by first | omega | (simp <;> omega)); have ff2 := fun o => (show Below _ _ x from hx).frozen (p := ⟨w.heap.size + 2, o, none⟩) (by first | omega | (simp <;> omega)); simp [go_sem, *])) (by exact oneC_val rfl rfl (fun x hx => by have cc0 := fun o => (show Below _ _ x from hx).cell (p := ⟨w.heap.size, o, none⟩) (by first | omega | (simp <;> omega)); have ff0 := fun o => (show Below _ _ x from hx).frozen (p := ⟨w.heap.size, o, none⟩) (by first | omega | (simp <;> omega)); have cc1 := fun o => (show Below _ _ x from hx).cell (p := ⟨w.heap.size + 1, o, none⟩) (by first | omega | (simp <;> omega)); have ff1 := fun o => (show Below _ _ x from hx).frozen (p := ⟨w.heap.size + 1, o, none⟩) (by first | omega | (simp <;> omega)); have cc2 := fun o => (show Below _ _ x from hx).cell (p := ⟨w.heap.size + 2, o, none⟩) (by first | omega | (simp <;> omega)); have ff2 := fun o => (show Below _ _ x from hx).frozen (p := ⟨w.heap.size + 2, o, none⟩) (by first | omega | (simp <;> omega)); simp [go_sem, *])) (by exact oneC_val rfl rfl (fun x hx => by have cc0 := fun o => (show Below _ _ x from hx).cell (p := ⟨w.heap.size, o, none⟩) (by first | omega | (simp <;> omega)); have ff0 := fun o => (show Below _ _ x from hx).frozen (p := ⟨w.heap.size, o, none⟩) (by first | omega | (simp <;> omega)); have cc1 := fun o => (show Below _ _ x from hx).cell (p := ⟨w.heap.size + 1, o, none⟩) (by first | omega | (simp <;> omega)); have ff1 := fun o => (show Below _ _ x from hx).frozen (p := ⟨w.heap.size + 1, o, none⟩) (by first | omega | (simp <;> omega)); have cc2 := fun o => (show Below _ _ x from hx).cell (p := ⟨w.heap.size + 2, o, none⟩) (by first | omega | (simp <;> omega)); have ff2 := fun o => (show Below _ _ x from hx).frozen (p := ⟨w.heap.size + 2, o, none⟩) (by first | omega | (simp <;> omega)); simp [go_sem, *])) (by exact oneC_val rfl rfl (fun x hx => by have cc0 := fun o => (show Below _ _ x from hx).cell (p := ⟨w.heap.size, o, none⟩) (by first | omega | (simp <;> omega)); have ff0 := fun o => (show Below _ _ x from hx).frozen (p := ⟨w.heap.size, o, none⟩) (by first | omega | (simp <;> omega)); have cc1 := fun o => (show Below _ _ x from hx).cell (p := ⟨w.heap.size + 1, o, none⟩) (by first | omega | (simp <;> omega)); have ff1 := fun o => (show Below _ _ x from hx).frozen (p := ⟨w.heap.size + 1, o, none⟩) (by first | omega | (simp <;> omega)); have cc2 := fun o => (show Below _ _ x from hx).cell (p := ⟨w.heap.size + 2, o, none⟩) (by first | omega | (simp <;> omega)); have ff2 := fun o => (show Below _ _ x from hx).frozen (p := ⟨w.heap.size + 2, o, none⟩) (by first | omega | (simp <;> omega)); simp [go_sem, *])))
    refine And.intro ?_ ?_
    · exact opOK_headC 3 (by rfl) (upto3 (by exact oneC_val rfl rfl (fun x hx => by have cc0 := fun o => (show Below _ _ x from hx).cell (p := ⟨w.heap.size, o, none⟩) (by first | omega | (simp <;> omega)); have ff0 := fun o => (show Below _ _ x from hx).frozen (p := ⟨w.heap.size, o, none⟩) (by first | omega | (simp <;> omega)); have cc1 := fun o => (show Below _ _ x from hx).cell (p := ⟨w.heap.size + 1, o, none⟩) (by first | omega | (simp <;> omega)); have ff1 := fun o => (show Below _ _ x from hx).frozen (p := ⟨w.heap.size + 1, o, none⟩) (by first | omega | (simp <;> omega)); have cc2 := fun o => (show Below _ _ x from hx).cell (p := ⟨w.heap.size + 2, o, none⟩) (by first | omega | (simp <;> omega)); have ff2 := fun o => (show Below _ _ x from hx).frozen (p := ⟨w.heap.size + 2, o, none⟩) (by first | omega | (simp <;> omega)); simp [go_sem, *])) (by exact oneC_val rfl rfl (fun x hx => by have cc0 := fun o => (show Below _ _ x from hx).cell (p := ⟨w.heap.size, o, none⟩) (by first | omega | (simp <;> omega)); have ff0 := fun o => (show Below _ _ x from hx).frozen (p := ⟨w.heap.size, o, none⟩) (by first | omega | (simp <;> omega)); have cc1 := fun o => (show Below _ _ x from hx).cell (p := ⟨w.heap.size + 1, o, none⟩) (by first | omega | (simp <;> omega)); have ff1 := fun o => (show Below _ _ x from hx).frozen (p := ⟨w.heap.size + 1, o, none⟩) (by first | omega | (simp <;> omega)); have cc2 := fun o => (show Below _ _ x from hx).cell (p := ⟨w.heap.size + 2, o, none⟩) (by first | omega | (simp <;> omega)); have ff2 := fun o => (show Below _ _ x from hx).frozen (p := ⟨w.heap.size + 2, o, none⟩) (by first | omega | (simp <;> omega)); simp [go_sem, *])) (by exact oneC_val rfl rfl (fun x hx => by have cc0 := fun o => (show Below _ _ x from hx).cell (p := ⟨w.heap.size, o, none⟩) (by first | omega | (simp <;> omega)); have ff0 := fun o => (show Below _ _ x from hx).frozen (p := ⟨w.heap.size, o, none⟩) (by first | omega | (simp <;> omega)); have cc1 := fun o => (show Below _ _ x from hx).cell (p := ⟨w.heap.size + 1, o, none⟩) (by first | omega | (simp <;> omega)); have ff1 := fun o => (show Below _ _ x from hx).frozen (p := ⟨w.heap.size + 1, o, none⟩) (by first | omega | (simp <;> omega)); have cc2 := fun o => (show Below _ _ x from hx).cell (p := ⟨w.heap.size + 2, o, none⟩) (by first | omega | (simp <;> omega)); have ff2 := fun o => (show Below _ _ x from hx).frozen (p := ⟨w.heap.size + 2, o, none⟩) (by first | omega | (simp <;> omega)); simp [go_sem, *])) (by exact oneC_val rfl rfl (fun x hx => by have cc0 := fun o => (show Below _ _ x from hx).cell (p := ⟨w.heap.size, o, none⟩) (by first | omega | (simp <;> omega)); have ff0 := fun o => (show Below _ _ x from hx).frozen (p := ⟨w.heap.size, o, none⟩) (by first | omega | (simp <;> omega)); have cc1 := fun o => (show Below _ _ x from hx).cell (p := ⟨w.heap.size + 1, o, none⟩) (by first | omega | (simp <;> omega)); have ff1 := fun o => (show Below _ _ x from hx).frozen (p := ⟨w.heap.size + 1, o, none⟩) (by first | omega | (simp <;> omega)); have cc2 := fun o => (show Below _ _ x from hx).cell (p := ⟨w.heap.size + 2, o, none⟩) (by first | omega | (simp <;> omega)); have ff2 := fun o => (show Below _ _ x from hx).frozen (p := ⟨w.heap.size + 2, o, none⟩) (by first | omega | (simp <;> omega)); simp [go_sem, *])))
    refine And.intro ?_ ?_
    · exact opOK_headC 3 (by rfl) (upto3 (by exact oneC_val rfl rfl (fun x hx => by have cc0 := fun o => (show Below _ _ x from hx).cell (p := ⟨w.heap.size, o, none⟩) (by first | omega | (simp <;> omega)); have ff0 := fun o => (show Below _ _ x from hx).frozen (p := ⟨w.heap.size, o, none⟩) (by first | omega | (simp <;> omega)); have cc1 := fun o => (show Below _ _ x from hx).cell (p := ⟨w.heap.size + 1, o, none⟩) (by first | omega | (simp <;> omega)); have ff1 := fun o => (show Below _ _ x from hx).frozen (p := ⟨w.heap.size + 1, o, none⟩) (by first | omega | (simp <;> omega)); have cc2 := fun o => (show Below _ _ x from hx).cell (p := ⟨w.heap.size + 2, o, none⟩) (by first | omega | (simp <;> omega)); have ff2 := fun o => (show Below _ _ x from hx).frozen (p := ⟨w.heap.size + 2, o, none⟩) (by first | omega | (simp <;> omega)); simp [go_sem, *])) (by exact oneC_val rfl rfl (fun x hx => by have cc0 := fun o => (show Below _ _ x from hx).cell (p := ⟨w.heap.size, o, none⟩) (by first | omega | (simp <;> omega)); have ff0 := fun o => (show Below _ _ x from hx).frozen (p := ⟨w.heap.size, o, none⟩) (by first | omega | (simp <;> omega)); have cc1 := fun o => (show Below _ _ x from hx).cell (p := ⟨w.heap.size + 1, o, none⟩) (by first | omega | (simp <;> omega)); have ff1 := fun o => (show Below _ _ x from hx).frozen (p := ⟨w.heap.size + 1, o, none⟩) (by first | omega | (simp <;> omega)); have cc2 := fun o => (show Below _ _ x from hx).cell (p := ⟨w.heap.size + 2, o, none⟩) (by first | omega | (simp <;> omega)); have ff2 := fun o => (show Below _ _ x from hx).frozen (p := ⟨w.heap.size + 2, o, none⟩) (by first | omega | (simp <;> omega)); simp [go_sem, *])) (by exact oneC_val rfl rfl (fun x hx => by have cc0 := fun o => (show Below _ _ x from hx).cell (p := ⟨w.heap.size, o, none⟩) (by first | omega | (simp <;> omega)); have ff0 := fun o => (show Below _ _ x from hx).frozen (p := ⟨w.heap.size, o, none⟩) (by first | omega | (simp <;> omega)); have cc1 := fun o => (show Below _ _ x from hx).cell (p := ⟨w.heap.size + 1, o, none⟩) (by first | omega | (simp <;> omega)); have ff1 := fun o => (show Below _ _ x from hx).frozen (p := ⟨w.heap.size + 1, o, none⟩) (by first | omega | (simp <;> omega)); have cc2 := fun o => (show Below _ _ x from hx).cell (p := ⟨w.heap.size + 2, o, none⟩) (by first | omega | (simp <;> omega)); have ff2 := fun o => (show Below _ _ x from hx).frozen (p := ⟨w.heap.size + 2, o, none⟩) (by first | omega | (simp <;> omega)); simp [go_sem, *])) (by exact oneC_val rfl rfl (fun x hx => by have cc0 := fun o => (show Below _ _ x from hx).cell (p := ⟨w.heap.size, o, none⟩) (by first | omega | (simp <;> omega)); have ff0 := fun o => (show Below _ _ x from hx).frozen (p := ⟨w.heap.size, o, none⟩) (by first | omega | (simp <;> omega)); have cc1 := fun o => (show Below _ _ x from hx).cell (p := ⟨w.heap.size + 1, o, none⟩) (by first | omega | (simp <;> omega)); have ff1 := fun o => (show Below _ _ x from hx).frozen (p := ⟨w.heap.size + 1, o, none⟩) (by first | omega | (simp <;> omega)); have cc2 := fun o => (show Below _ _ x from hx).cell (p := ⟨w.heap.size + 2, o, none⟩) (by first | omega | (simp <;> omega)); have ff2 := fun o => (show Below _ _ x from hx).frozen (p := ⟨w.heap.size + 2, o, none⟩) (by first | omega | (simp <;> omega)); simp [go_sem, *])))
    refine And.intro ?_ ?_
    · exact opOK_headC 3 (by rfl) (upto3 (by exact oneC_val rfl rfl (fun x hx => by have cc0 := fun o => (show Below _ _ x from hx).cell (p := ⟨w.heap.size, o, none⟩) (by first | omega | (simp <;> omega)); have ff0 := fun o => (show Below _ _ x from hx).frozen (p := ⟨w.heap.size, o, none⟩) (by first | omega | (simp <;> omega)); have cc1 := fun o => (show Below _ _ x from hx).cell (p := ⟨w.heap.size + 1, o, none⟩) (by first | omega | (simp <;> omega)); have ff1 := fun o => (show Below _ _ x from hx).frozen (p := ⟨w.heap.size + 1, o, none⟩) (by first | omega | (simp <;> omega)); have cc2 := fun o => (show Below _ _ x from hx).cell (p := ⟨w.heap.size + 2, o, none⟩) (by first | omega | (simp <;> omega)); have ff2 := fun o => (show Below _ _ x from hx).frozen (p := ⟨w.heap.size + 2, o, none⟩) (by first | omega | (simp <;> omega)); simp [go_sem, *])) (by exact oneC_val rfl rfl (fun x hx => by have cc0 := fun o => (show Below _ _ x from hx).cell (p := ⟨w.heap.size, o, none⟩) (by first | omega | (simp <;> omega)); have ff0 := fun o => (show Below _ _ x from hx).frozen (p := ⟨w.heap.size, o, none⟩) (by first | omega | (simp <;> omega)); have cc1 := fun o => (show Below _ _ x from hx).cell (p := ⟨w.heap.size + 1, o, none⟩) (by first | omega | (simp <;> omega)); have ff1 := fun o => (show Below _ _ x from hx).frozen (p := ⟨w.heap.size + 1, o, none⟩) (by first | omega | (simp <;> omega)); have cc2 := fun o => (show Below _ _ x from hx).cell (p := ⟨w.heap.size + 2, o, none⟩) (by first | omega | (simp <;> omega)); have ff2 := fun o => (show Below _ _ x from hx).frozen (p := ⟨w.heap.size + 2, o, none⟩) (by first | omega | (simp <;> omega)); simp [go_sem, *])) (by exact oneC_val rfl rfl (fun x hx => by have cc0 := fun o => (show Below _ _ x from hx).cell (p := ⟨w.heap.size, o, none⟩) (by first | omega | (simp <;> omega)); have ff0 := fun o => (show Below _ _ x from hx).frozen (p := ⟨w.heap.size, o, none⟩) (by first | omega | (simp <;> omega)); have cc1 := fun o => (show Below _ _ x from hx).cell (p := ⟨w.heap.size + 1, o, none⟩) (by first | omega | (simp <;> omega)); have ff1 := fun o => (show Below _ _ x from hx).frozen (p := ⟨w.heap.size + 1, o, none⟩) (by first | omega | (simp <;> omega)); have cc2 := fun o => (show Below _ _ x from hx).cell (p := ⟨w.heap.size + 2, o, none⟩) (by first | omega | (simp <;> omega)); have ff2 := fun o => (show Below _ _ x from hx).frozen (p := ⟨w.heap.size + 2, o, none⟩) (by first | omega | (simp <;> omega)); simp [go_sem, *])) (by exact oneC_val rfl rfl (fun x hx => by have cc0 := fun o => (show Below _ _ x from hx).cell (p := ⟨w.heap.size, o, none⟩) (by first | omega | (simp <;> omega)); have ff0 := fun o => (show Below _ _ x from hx).frozen (p := ⟨w.heap.size, o, none⟩) (by first | omega | (simp <;> omega)); have cc1 := fun o => (show Below _ _ x from hx).cell (p := ⟨w.heap.size + 1, o, none⟩) (by first | omega | (simp <;> omega)); have ff1 := fun o => (show Below _ _ x from hx).frozen (p := ⟨w.heap.size + 1, o, none⟩) (by first | omega | (simp <;> omega)); have cc2 := fun o => (show Below _ _ x from hx).cell (p := ⟨w.heap.size + 2, o, none⟩) (by first | omega | (simp <;> omega)); have ff2 := fun o => (show Below _ _ x from hx).frozen (p := ⟨w.heap.size + 2, o, none⟩) (by first | omega | (simp <;> omega)); simp [go_sem, *])))
    refine And.intro ?_ ?_
    · exact opOK_atC 0 (by rfl) (oneC_store (g := fun W => ((((((W.setCell ⟨w.heap.size, 0, none⟩ (.bool xa)).setCell ⟨w.heap.size, 1, none⟩ (.string (S xh))).setCell ⟨w.heap.size, 2, none⟩ (.int .i64 xn)).setCell ⟨w.heap.size, 3, none⟩ (.string (S xp))).setCell ⟨w.heap.size, 4, none⟩ (.bool xq)).setCell ⟨w.heap.size, 5, none⟩ (.string (S xy)))) rfl (fun x hx => ⟨by have cc0 := fun o => (show Below _ _ x from hx).cell (p := ⟨w.heap.size, o, none⟩) (by first | omega | (simp <;> omega)); have ff0 := fun o => (show Below _ _ x from hx).frozen (p := ⟨w.heap.size, o, none⟩) (by first | omega | (simp <;> omega)); have cc1 := fun o => (show Below _ _ x from hx).cell (p := ⟨w.heap.size + 1, o, none⟩) (by first | omega | (simp <;> omega)); have ff1 := fun o => (show Below _ _ x from hx).frozen (p := ⟨w.heap.size + 1, o, none⟩) (by first | omega | (simp <;> omega)); have cc2 := fun o => (show Below _ _ x from hx).cell (p := ⟨w.heap.size + 2, o, none⟩) (by first | omega | (simp <;> omega)); have ff2 := fun o => (show Below _ _ x from hx).frozen (p := ⟨w.heap.size + 2, o, none⟩) (by first | omega | (simp <;> omega)); simp [go_sem, *], by simp only [Cls, List.take_succ_cons, List.take_zero, List.foldl_cons, List.foldl_nil] at hx ⊢; repeat (first | (with_reducible exact hx) | (with_reducible refine below_both ?_ _ _))⟩))
    refine And.intro ?_ ?_
    · exact opOK_atC 1 (by rfl) (oneC_store (g := fun W => ((((((W.setCell ⟨w.heap.size + 1, 0, none⟩ (.bool za)).setCell ⟨w.heap.size + 1, 1, none⟩ (.string (S zh))).setCell ⟨w.heap.size + 1, 2, none⟩ (.int .i64 zn)).setCell ⟨w.heap.size + 1, 3, none⟩ (.string (S zp))).setCell ⟨w.heap.size + 1, 4, none⟩ (.bool zq)).setCell ⟨w.heap.size + 1, 5, none⟩ (.string (S zy)))) rfl (fun x hx => ⟨by have cc0 := fun o => (show Below _ _ x from hx).cell (p := ⟨w.heap.size, o, none⟩) (by first | omega | (simp <;> omega)); have ff0 := fun o => (show Below _ _ x from hx).frozen (p := ⟨w.heap.size, o, none⟩) (by first | omega | (simp <;> omega)); have cc1 := fun o => (show Below _ _ x from hx).cell (p := ⟨w.heap.size + 1, o, none⟩) (by first | omega | (simp <;> omega)); have ff1 := fun o => (show Below _ _ x from hx).frozen (p := ⟨w.heap.size + 1, o, none⟩) (by first | omega | (simp <;> omega)); have cc2 := fun o => (show Below _ _ x from hx).cell (p := ⟨w.heap.size + 2, o, none⟩) (by first | omega | (simp <;> omega)); have ff2 := fun o => (show Below _ _ x from hx).frozen (p := ⟨w.heap.size + 2, o, none⟩) (by first | omega | (simp <;> omega)); simp [go_sem, *], by simp only [Cls, List.take_succ_cons, List.take_zero, List.foldl_cons, List.foldl_nil] at hx ⊢; repeat (first | (with_reducible exact hx) | (with_reducible refine below_both ?_ _ _))⟩))
    refine And.intro ?_ ?_
    · exact opOK_atC 2 (by rfl) (oneC_store (g := fun W => ((((((W.setCell ⟨w.heap.size + 2, 0, none⟩ (.bool va)).setCell ⟨w.heap.size + 2, 1, none⟩ (.string (S vh))).setCell ⟨w.heap.size + 2, 2, none⟩ (.int .i64 vn)).setCell ⟨w.heap.size + 2, 3, none⟩ (.string (S vp))).setCell ⟨w.heap.size + 2, 4, none⟩ (.bool vq)).setCell ⟨w.heap.size + 2, 5, none⟩ (.string (S vy)))) rfl (fun x hx => ⟨by have cc0 := fun o => (show Below _ _ x from hx).cell (p := ⟨w.heap.size, o, none⟩) (by first | omega | (simp <;> omega)); have ff0 := fun o => (show Below _ _ x from hx).frozen (p := ⟨w.heap.size, o, none⟩) (by first | omega | (simp <;> omega)); have cc1 := fun o => (show Below _ _ x from hx).cell (p := ⟨w.heap.size + 1, o, none⟩) (by first | omega | (simp <;> omega)); have ff1 := fun o => (show Below _ _ x from hx).frozen (p := ⟨w.heap.size + 1, o, none⟩) (by first | omega | (simp <;> omega)); have cc2 := fun o => (show Below _ _ x from hx).cell (p := ⟨w.heap.size + 2, o, none⟩) (by first | omega | (simp <;> omega)); have ff2 := fun o => (show Below _ _ x from hx).frozen (p := ⟨w.heap.size + 2, o, none⟩) (by first | omega | (simp <;> omega)); simp [go_sem, *], by simp only [Cls, List.take_succ_cons, List.take_zero, List.foldl_cons, List.foldl_nil] at hx ⊢; repeat (first | (with_reducible exact hx) | (with_reducible refine below_both ?_ _ _))⟩))
    refine And.intro ?_ ?_
    · exact opOK_atC 3 (by rfl) (oneC_assign rfl rfl (fun x hx => ⟨by have cc0 := fun o => (show Below _ _ x from hx).cell (p := ⟨w.heap.size, o, none⟩) (by first | omega | (simp <;> omega)); have ff0 := fun o => (show Below _ _ x from hx).frozen (p := ⟨w.heap.size, o, none⟩) (by first | omega | (simp <;> omega)); have cc1 := fun o => (show Below _ _ x from hx).cell (p := ⟨w.heap.size + 1, o, none⟩) (by first | omega | (simp <;> omega)); have ff1 := fun o => (show Below _ _ x from hx).frozen (p := ⟨w.heap.size + 1, o, none⟩) (by first | omega | (simp <;> omega)); have cc2 := fun o => (show Below _ _ x from hx).cell (p := ⟨w.heap.size + 2, o, none⟩) (by first | omega | (simp <;> omega)); have ff2 := fun o => (show Below _ _ x from hx).frozen (p := ⟨w.heap.size + 2, o, none⟩) (by first | omega | (simp <;> omega)); simp [go_sem, *], by simp only [Cls, List.take_succ_cons, List.take_zero, List.foldl_cons, List.foldl_nil] at hx ⊢; (with_reducible exact hx)⟩))
    exact trivial
  simp only [puts, List.foldl_cons, List.foldl_nil, Act.put, List.setIfInBounds_toArray, List.set_cons_succ, List.set_cons_zero]
  intro w1 hb_w1
  have hz_w1 := hb_w1.size
  try simp at hz_w1
  have c_w1_w_0 := fun o => hb_w1.cell (p := ⟨w.heap.size, o, none⟩) (by first | omega | (simp <;> omega))
  have f_w1_w_0 := fun o => hb_w1.frozen (p := ⟨w.heap.size, o, none⟩) (by first | omega | (simp <;> omega))
  have c_w1_w_0_0 := c_w1_w_0 0
  conv at c_w1_w_0_0 => rhs; simp [go_sem, *]
  have f_w1_w_0_0 := f_w1_w_0 0
  conv at f_w1_w_0_0 => rhs; simp [go_sem, *]
  have c_w1_w_0_1 := c_w1_w_0 1
  conv at c_w1_w_0_1 => rhs; simp [go_sem, *]
  have f_w1_w_0_1 := f_w1_w_0 1
  conv at f_w1_w_0_1 => rhs; simp [go_sem, *]
  have c_w1_w_0_2 := c_w1_w_0 2
  conv at c_w1_w_0_2 => rhs; simp [go_sem, *]
  have f_w1_w_0_2 := f_w1_w_0 2
  conv at f_w1_w_0_2 => rhs; simp [go_sem, *]
  have c_w1_w_0_3 := c_w1_w_0 3
  conv at c_w1_w_0_3 => rhs; simp [go_sem, *]
  have f_w1_w_0_3 := f_w1_w_0 3
  conv at f_w1_w_0_3 => rhs; simp [go_sem, *]
  have c_w1_w_0_4 := c_w1_w_0 4
  conv at c_w1_w_0_4 => rhs; simp [go_sem, *]
  have f_w1_w_0_4 := f_w1_w_0 4
  conv at f_w1_w_0_4 => rhs; simp [go_sem, *]
  have c_w1_w_0_5 := c_w1_w_0 5
  conv at c_w1_w_0_5 => rhs; simp [go_sem, *]
  have f_w1_w_0_5 := f_w1_w_0 5
  conv at f_w1_w_0_5 => rhs; simp [go_sem, *]
  have c_w1_w_1 := fun o => hb_w1.cell (p := ⟨w.heap.size + 1, o, none⟩) (by first | omega | (simp <;> omega))
  have f_w1_w_1 := fun o => hb_w1.frozen (p := ⟨w.heap.size + 1, o, none⟩) (by first | omega | (simp <;> omega))
  have c_w1_w_1_0 := c_w1_w_1 0
  conv at c_w1_w_1_0 => rhs; simp [go_sem, *]
  have f_w1_w_1_0 := f_w1_w_1 0
  conv at f_w1_w_1_0 => rhs; simp [go_sem, *]
  have c_w1_w_1_1 := c_w1_w_1 1
  conv at c_w1_w_1_1 => rhs; simp [go_sem, *]
  have f_w1_w_1_1 := f_w1_w_1 1
  conv at f_w1_w_1_1 => rhs; simp [go_sem, *]
  have c_w1_w_1_2 := c_w1_w_1 2
  conv at c_w1_w_1_2 => rhs; simp [go_sem, *]
  have f_w1_w_1_2 := f_w1_w_1 2
  conv at f_w1_w_1_2 => rhs; simp [go_sem, *]
  have c_w1_w_1_3 := c_w1_w_1 3
  conv at c_w1_w_1_3 => rhs; simp [go_sem, *]
  have f_w1_w_1_3 := f_w1_w_1 3
  conv at f_w1_w_1_3 => rhs; simp [go_sem, *]
  have c_w1_w_1_4 := c_w1_w_1 4
  conv at c_w1_w_1_4 => rhs; simp [go_sem, *]
  have f_w1_w_1_4 := f_w1_w_1 4
  conv at f_w1_w_1_4 => rhs; simp [go_sem, *]
  have c_w1_w_1_5 := c_w1_w_1 5
  conv at c_w1_w_1_5 => rhs; simp [go_sem, *]
  have f_w1_w_1_5 := f_w1_w_1 5
  conv at f_w1_w_1_5 => rhs; simp [go_sem, *]
  have c_w1_w_2 := fun o => hb_w1.cell (p := ⟨w.heap.size + 2, o, none⟩) (by first | omega | (simp <;> omega))
  have f_w1_w_2 := fun o => hb_w1.frozen (p := ⟨w.heap.size + 2, o, none⟩) (by first | omega | (simp <;> omega))
  have c_w1_w_2_0 := c_w1_w_2 0
  conv at c_w1_w_2_0 => rhs; simp [go_sem, *]
  have f_w1_w_2_0 := f_w1_w_2 0
  conv at f_w1_w_2_0 => rhs; simp [go_sem, *]
  have c_w1_w_2_1 := c_w1_w_2 1
  conv at c_w1_w_2_1 => rhs; simp [go_sem, *]
  have f_w1_w_2_1 := f_w1_w_2 1
  conv at f_w1_w_2_1 => rhs; simp [go_sem, *]
  have c_w1_w_2_2 := c_w1_w_2 2
  conv at c_w1_w_2_2 => rhs; simp [go_sem, *]
  have f_w1_w_2_2 := f_w1_w_2 2
  conv at f_w1_w_2_2 => rhs; simp [go_sem, *]
  have c_w1_w_2_3 := c_w1_w_2 3
  conv at c_w1_w_2_3 => rhs; simp [go_sem, *]
  have f_w1_w_2_3 := f_w1_w_2 3
  conv at f_w1_w_2_3 => rhs; simp [go_sem, *]
  have c_w1_w_2_4 := c_w1_w_2 4
  conv at c_w1_w_2_4 => rhs; simp [go_sem, *]
  have f_w1_w_2_4 := f_w1_w_2 4
  conv at f_w1_w_2_4 => rhs; simp [go_sem, *]
  have c_w1_w_2_5 := c_w1_w_2 5
  conv at c_w1_w_2_5 => rhs; simp [go_sem, *]
  have f_w1_w_2_5 := f_w1_w_2 5
  conv at f_w1_w_2_5 => rhs; simp [go_sem, *]
  have hB_w1 : Below w.heap.size w w1 := Below.trans (by (repeat (first | (with_reducible exact Below.refl _ _) | (with_reducible assumption) | (with_reducible refine Below.drew ?_) | (focus ((with_reducible refine Below.setCell ?_ ?_ _); rotate_left; (first | omega | (simp <;> omega)))) | (focus ((with_reducible refine Below.alloc ?_ ?_ _); rotate_left; (first | omega | (simp <;> omega)))) | exact Below.refl _ _ | assumption | refine Below.drew ?_ | refine Below.alloc ?_ (by first | omega | (simp <;> omega)) _ | refine Below.setCell ?_ (by first | omega | (simp <;> omega)) _))) (hb_w1.mono (by first | omega | (simp <;> omega)))
  clear hb_w1 c_w1_w_0 f_w1_w_0 c_w1_w_1 f_w1_w_1 c_w1_w_2 f_w1_w_2
  have far_w1_w_0 := far (show w.heap.size < w1.heap.size by omega)
  have far_w1_w_1 := far (show w.heap.size + 1 < w1.heap.size by omega)
  have far_w1_w_2 := far (show w.heap.size + 2 < w1.heap.size by omega)
  go_wp2_with fail
  refine Calls.mono (C1.out _) ?_
  rintro e w2 ⟨rfl, hb_w2⟩
  have hz_w2 := hb_w2.size
  try simp at hz_w2
  obtain ⟨c_w2_w_0, f_w2_w_0⟩ := bk hb_w2 (w.heap.size) (by first | omega | (simp <;> omega))
  have c_w2_w_0_0 := c_w2_w_0 0
  conv at c_w2_w_0_0 => rhs; simp [go_sem, *]
  have f_w2_w_0_0 := f_w2_w_0 0
  conv at f_w2_w_0_0 => rhs; simp [go_sem, *]
  have c_w2_w_0_1 := c_w2_w_0 1
  conv at c_w2_w_0_1 => rhs; simp [go_sem, *]
  have f_w2_w_0_1 := f_w2_w_0 1
  conv at f_w2_w_0_1 => rhs; simp [go_sem, *]
  have c_w2_w_0_2 := c_w2_w_0 2
  conv at c_w2_w_0_2 => rhs; simp [go_sem, *]
  have f_w2_w_0_2 := f_w2_w_0 2
  conv at f_w2_w_0_2 => rhs; simp [go_sem, *]
  have c_w2_w_0_3 := c_w2_w_0 3
  conv at c_w2_w_0_3 => rhs; simp [go_sem, *]
  have f_w2_w_0_3 := f_w2_w_0 3
  conv at f_w2_w_0_3 => rhs; simp [go_sem, *]
  have c_w2_w_0_4 := c_w2_w_0 4
  conv at c_w2_w_0_4 => rhs; simp [go_sem, *]
  have f_w2_w_0_4 := f_w2_w_0 4
  conv at f_w2_w_0_4 => rhs; simp [go_sem, *]
  have c_w2_w_0_5 := c_w2_w_0 5
  conv at c_w2_w_0_5 => rhs; simp [go_sem, *]
  have f_w2_w_0_5 := f_w2_w_0 5
  conv at f_w2_w_0_5 => rhs; simp [go_sem, *]
  obtain ⟨c_w2_w_1, f_w2_w_1⟩ := bk hb_w2 (w.heap.size + 1) (by first | omega | (simp <;> omega))
  have c_w2_w_1_0 := c_w2_w_1 0
  conv at c_w2_w_1_0 => rhs; simp [go_sem, *]
  have f_w2_w_1_0 := f_w2_w_1 0
  conv at f_w2_w_1_0 => rhs; simp [go_sem, *]
  have c_w2_w_1_1 := c_w2_w_1 1
  conv at c_w2_w_1_1 => rhs; simp [go_sem, *]
  have f_w2_w_1_1 := f_w2_w_1 1
  conv at f_w2_w_1_1 => rhs; simp [go_sem, *]
  have c_w2_w_1_2 := c_w2_w_1 2
  conv at c_w2_w_1_2 => rhs; simp [go_sem, *]
  have f_w2_w_1_2 := f_w2_w_1 2
  conv at f_w2_w_1_2 => rhs; simp [go_sem, *]
  have c_w2_w_1_3 := c_w2_w_1 3
  conv at c_w2_w_1_3 => rhs; simp [go_sem, *]
  have f_w2_w_1_3 := f_w2_w_1 3
  conv at f_w2_w_1_3 => rhs; simp [go_sem, *]
  have c_w2_w_1_4 := c_w2_w_1 4
  conv at c_w2_w_1_4 => rhs; simp [go_sem, *]
  have f_w2_w_1_4 := f_w2_w_1 4
  conv at f_w2_w_1_4 => rhs; simp [go_sem, *]
  have c_w2_w_1_5 := c_w2_w_1 5
  conv at c_w2_w_1_5 => rhs; simp [go_sem, *]
  have f_w2_w_1_5 := f_w2_w_1 5
  conv at f_w2_w_1_5 => rhs; simp [go_sem, *]
  obtain ⟨c_w2_w_2, f_w2_w_2⟩ := bk hb_w2 (w.heap.size + 2) (by first | omega | (simp <;> omega))
  have c_w2_w_2_0 := c_w2_w_2 0
  conv at c_w2_w_2_0 => rhs; simp [go_sem, *]
  have f_w2_w_2_0 := f_w2_w_2 0
  conv at f_w2_w_2_0 => rhs; simp [go_sem, *]
  have c_w2_w_2_1 := c_w2_w_2 1
  conv at c_w2_w_2_1 => rhs; simp [go_sem, *]
  have f_w2_w_2_1 := f_w2_w_2 1
  conv at f_w2_w_2_1 => rhs; simp [go_sem, *]
  have c_w2_w_2_2 := c_w2_w_2 2
  conv at c_w2_w_2_2 => rhs; simp [go_sem, *]
  have f_w2_w_2_2 := f_w2_w_2 2
  conv at f_w2_w_2_2 => rhs; simp [go_sem, *]
  have c_w2_w_2_3 := c_w2_w_2 3
  conv at c_w2_w_2_3 => rhs; simp [go_sem, *]
  have f_w2_w_2_3 := f_w2_w_2 3
  conv at f_w2_w_2_3 => rhs; simp [go_sem, *]
  have c_w2_w_2_4 := c_w2_w_2 4
  conv at c_w2_w_2_4 => rhs; simp [go_sem, *]
  have f_w2_w_2_4 := f_w2_w_2 4
  conv at f_w2_w_2_4 => rhs; simp [go_sem, *]
  have c_w2_w_2_5 := c_w2_w_2 5
  conv at c_w2_w_2_5 => rhs; simp [go_sem, *]
  have f_w2_w_2_5 := f_w2_w_2 5
  conv at f_w2_w_2_5 => rhs; simp [go_sem, *]
  have hB_w2 : Below w.heap.size w w2 := Below.trans (by (repeat (first | (with_reducible exact Below.refl _ _) | (with_reducible assumption) | (with_reducible refine Below.drew ?_) | (focus ((with_reducible refine Below.setCell ?_ ?_ _); rotate_left; (first | omega | (simp <;> omega)))) | (focus ((with_reducible refine Below.alloc ?_ ?_ _); rotate_left; (first | omega | (simp <;> omega)))) | exact Below.refl _ _ | assumption | refine Below.drew ?_ | refine Below.alloc ?_ (by first | omega | (simp <;> omega)) _ | refine Below.setCell ?_ (by first | omega | (simp <;> omega)) _))) (hb_w2.mono (by first | omega | (simp <;> omega)))
  clear hb_w2 c_w2_w_0 f_w2_w_0 c_w2_w_1 f_w2_w_1 c_w2_w_2 f_w2_w_2
  try clear c_w1_w_0_0
  try clear f_w1_w_0_0
  try clear c_w1_w_0_1
  try clear f_w1_w_0_1
  try clear c_w1_w_0_2
  try clear f_w1_w_0_2
  try clear c_w1_w_0_3
  try clear f_w1_w_0_3
  try clear c_w1_w_0_4
  try clear f_w1_w_0_4
  try clear c_w1_w_0_5
  try clear f_w1_w_0_5
  try clear c_w1_w_1_0
  try clear f_w1_w_1_0
  try clear c_w1_w_1_1
  try clear f_w1_w_1_1
  try clear c_w1_w_1_2
  try clear f_w1_w_1_2
  try clear c_w1_w_1_3
  try clear f_w1_w_1_3
  try clear c_w1_w_1_4
  try clear f_w1_w_1_4
  try clear c_w1_w_1_5
  try clear f_w1_w_1_5
  try clear c_w1_w_2_0
  try clear f_w1_w_2_0
  try clear c_w1_w_2_1
  try clear f_w1_w_2_1
  try clear c_w1_w_2_2
  try clear f_w1_w_2_2
  try clear c_w1_w_2_3
  try clear f_w1_w_2_3
  try clear c_w1_w_2_4
  try clear f_w1_w_2_4
  try clear c_w1_w_2_5
  try clear f_w1_w_2_5
  try clear far_w1_w_0
  try clear far_w1_w_1
  try clear far_w1_w_2
  try clear hB_w1
  have far_w2_w_0 := far (show w.heap.size < w2.heap.size by omega)
  have far_w2_w_1 := far (show w.heap.size + 1 < w2.heap.size by omega)
  have far_w2_w_2 := far (show w.heap.size + 2 < w2.heap.size by omega)
  go_wp2_with fail
  refine Calls.mono (SP.out _ (by (repeat (first | (with_reducible exact Below.refl _ _) | (with_reducible assumption) | (with_reducible refine Below.drew ?_) | (focus ((with_reducible refine Below.setCell ?_ ?_ _); rotate_left; (first | omega | (simp <;> omega)))) | (focus ((with_reducible refine Below.alloc ?_ ?_ _); rotate_left; (first | omega | (simp <;> omega)))) | exact Below.refl _ _ | assumption | refine Below.drew ?_ | refine Below.alloc ?_ (by first | omega | (simp <;> omega)) _ | refine Below.setCell ?_ (by first | omega | (simp <;> omega)) _)))) ?_
  rintro e w3 ⟨rfl, hb_w3, hsz3, hrow3⟩
  have hz_w3 := hb_w3.size
  try simp at hz_w3
  obtain ⟨c_w3_w_0, f_w3_w_0⟩ := bk hb_w3 (w.heap.size) (by first | omega | (simp <;> omega))
  have c_w3_w_0_0 := c_w3_w_0 0
  conv at c_w3_w_0_0 => rhs; simp [go_sem, *]
  have f_w3_w_0_0 := f_w3_w_0 0
  conv at f_w3_w_0_0 => rhs; simp [go_sem, *]
  have c_w3_w_0_1 := c_w3_w_0 1
  conv at c_w3_w_0_1 => rhs; simp [go_sem, *]
  have f_w3_w_0_1 := f_w3_w_0 1
  conv at f_w3_w_0_1 => rhs; simp [go_sem, *]
  have c_w3_w_0_2 := c_w3_w_0 2
  conv at c_w3_w_0_2 => rhs; simp [go_sem, *]
  have f_w3_w_0_2 := f_w3_w_0 2
  conv at f_w3_w_0_2 => rhs; simp [go_sem, *]
  have c_w3_w_0_3 := c_w3_w_0 3
  conv at c_w3_w_0_3 => rhs; simp [go_sem, *]
  have f_w3_w_0_3 := f_w3_w_0 3
  conv at f_w3_w_0_3 => rhs; simp [go_sem, *]
  have c_w3_w_0_4 := c_w3_w_0 4
  conv at c_w3_w_0_4 => rhs; simp [go_sem, *]
  have f_w3_w_0_4 := f_w3_w_0 4
  conv at f_w3_w_0_4 => rhs; simp [go_sem, *]
  have c_w3_w_0_5 := c_w3_w_0 5
  conv at c_w3_w_0_5 => rhs; simp [go_sem, *]
  have f_w3_w_0_5 := f_w3_w_0 5
  conv at f_w3_w_0_5 => rhs; simp [go_sem, *]
  obtain ⟨c_w3_w_1, f_w3_w_1⟩ := bk hb_w3 (w.heap.size + 1) (by first | omega | (simp <;> omega))
  have c_w3_w_1_0 := c_w3_w_1 0
  conv at c_w3_w_1_0 => rhs; simp [go_sem, *]
  have f_w3_w_1_0 := f_w3_w_1 0
  conv at f_w3_w_1_0 => rhs; simp [go_sem, *]
  have c_w3_w_1_1 := c_w3_w_1 1
  conv at c_w3_w_1_1 => rhs; simp [go_sem, *]
  have f_w3_w_1_1 := f_w3_w_1 1
  conv at f_w3_w_1_1 => rhs; simp [go_sem, *]
  have c_w3_w_1_2 := c_w3_w_1 2
  conv at c_w3_w_1_2 => rhs; simp [go_sem, *]
  have f_w3_w_1_2 := f_w3_w_1 2
  conv at f_w3_w_1_2 => rhs; simp [go_sem, *]
  have c_w3_w_1_3 := c_w3_w_1 3
  conv at c_w3_w_1_3 => rhs; simp [go_sem, *]
  have f_w3_w_1_3 := f_w3_w_1 3
  conv at f_w3_w_1_3 => rhs; simp [go_sem, *]
  have c_w3_w_1_4 := c_w3_w_1 4
  conv at c_w3_w_1_4 => rhs; simp [go_sem, *]
  have f_w3_w_1_4 := f_w3_w_1 4
  conv at f_w3_w_1_4 => rhs; simp [go_sem, *]
  have c_w3_w_1_5 := c_w3_w_1 5
  conv at c_w3_w_1_5 => rhs; simp [go_sem, *]
  have f_w3_w_1_5 := f_w3_w_1 5
  conv at f_w3_w_1_5 => rhs; simp [go_sem, *]
  obtain ⟨c_w3_w_2, f_w3_w_2⟩ := bk hb_w3 (w.heap.size + 2) (by first | omega | (simp <;> omega))
  have c_w3_w_2_0 := c_w3_w_2 0
  conv at c_w3_w_2_0 => rhs; simp [go_sem, *]
  have f_w3_w_2_0 := f_w3_w_2 0
  conv at f_w3_w_2_0 => rhs; simp [go_sem, *]
  have c_w3_w_2_1 := c_w3_w_2 1
  conv at c_w3_w_2_1 => rhs; simp [go_sem, *]
  have f_w3_w_2_1 := f_w3_w_2 1
  conv at f_w3_w_2_1 => rhs; simp [go_sem, *]
  have c_w3_w_2_2 := c_w3_w_2 2
  conv at c_w3_w_2_2 => rhs; simp [go_sem, *]
  have f_w3_w_2_2 := f_w3_w_2 2
  conv at f_w3_w_2_2 => rhs; simp [go_sem, *]
  have c_w3_w_2_3 := c_w3_w_2 3
  conv at c_w3_w_2_3 => rhs; simp [go_sem, *]
  have f_w3_w_2_3 := f_w3_w_2 3
  conv at f_w3_w_2_3 => rhs; simp [go_sem, *]
  have c_w3_w_2_4 := c_w3_w_2 4
  conv at c_w3_w_2_4 => rhs; simp [go_sem, *]
  have f_w3_w_2_4 := f_w3_w_2 4
  conv at f_w3_w_2_4 => rhs; simp [go_sem, *]
  have c_w3_w_2_5 := c_w3_w_2 5
  conv at c_w3_w_2_5 => rhs; simp [go_sem, *]
  have f_w3_w_2_5 := f_w3_w_2 5
  conv at f_w3_w_2_5 => rhs; simp [go_sem, *]
  have hB_w3 : Below w.heap.size w w3 := Below.trans (by (repeat (first | (with_reducible exact Below.refl _ _) | (with_reducible assumption) | (with_reducible refine Below.drew ?_) | (focus ((with_reducible refine Below.setCell ?_ ?_ _); rotate_left; (first | omega | (simp <;> omega)))) | (focus ((with_reducible refine Below.alloc ?_ ?_ _); rotate_left; (first | omega | (simp <;> omega)))) | exact Below.refl _ _ | assumption | refine Below.drew ?_ | refine Below.alloc ?_ (by first | omega | (simp <;> omega)) _ | refine Below.setCell ?_ (by first | omega | (simp <;> omega)) _))) (hb_w3.mono (by first | omega | (simp <;> omega)))
  clear hb_w3 c_w3_w_0 f_w3_w_0 c_w3_w_1 f_w3_w_1 c_w3_w_2 f_w3_w_2
  try clear c_w2_w_0_0
  try clear f_w2_w_0_0
  try clear c_w2_w_0_1
  try clear f_w2_w_0_1
  try clear c_w2_w_0_2
  try clear f_w2_w_0_2
  try clear c_w2_w_0_3
  try clear f_w2_w_0_3
  try clear c_w2_w_0_4
  try clear f_w2_w_0_4
  try clear c_w2_w_0_5
  try clear f_w2_w_0_5
  try clear c_w2_w_1_0
  try clear f_w2_w_1_0
  try clear c_w2_w_1_1
  try clear f_w2_w_1_1
  try clear c_w2_w_1_2
  try clear f_w2_w_1_2
  try clear c_w2_w_1_3
  try clear f_w2_w_1_3
  try clear c_w2_w_1_4
  try clear f_w2_w_1_4
  try clear c_w2_w_1_5
  try clear f_w2_w_1_5
  try clear c_w2_w_2_0
  try clear f_w2_w_2_0
  try clear c_w2_w_2_1
  try clear f_w2_w_2_1
  try clear c_w2_w_2_2
  try clear f_w2_w_2_2
  try clear c_w2_w_2_3
  try clear f_w2_w_2_3
  try clear c_w2_w_2_4
  try clear f_w2_w_2_4
  try clear c_w2_w_2_5
  try clear f_w2_w_2_5
  try clear far_w2_w_0
  try clear far_w2_w_1
  try clear far_w2_w_2
  try clear hB_w2
  have far_w3_w_0 := far (show w.heap.size < w3.heap.size by omega)
  have far_w3_w_1 := far (show w.heap.size + 1 < w3.heap.size by omega)
  have far_w3_w_2 := far (show w.heap.size + 2 < w3.heap.size by omega)
  have hcap : 0 ≤ (qs.length : Int) := by omega
  have hq1 : (qs.length : Int) = 0 := by omega
  go_wp2_with fail
  go_loop [34] (fun iv => iv = .int .i64 0) (fun iv => 0)
  case atStart => rfl
  case round =>
    subst hrel
    clear hrow3
    go_wp2_with (go_at_call 13; refine (HP.out _).mono ?_; rintro e w4 ⟨rfl, rfl⟩)
    go_wp2_with fail
    refine Calls.mono (R1.out _ (by (repeat (first | (with_reducible exact Below.refl _ _) | (with_reducible assumption) | (with_reducible refine Below.drew ?_) | (focus ((with_reducible refine Below.setCell ?_ ?_ _); rotate_left; (first | omega | (simp <;> omega)))) | (focus ((with_reducible refine Below.alloc ?_ ?_ _); rotate_left; (first | omega | (simp <;> omega)))) | exact Below.refl _ _ | assumption | refine Below.drew ?_ | refine Below.alloc ?_ (by first | omega | (simp <;> omega)) _ | refine Below.setCell ?_ (by first | omega | (simp <;> omega)) _)))) ?_
    rintro e w5 ⟨rfl, hb_w5⟩
    have hz_w5 := hb_w5.size
    try simp at hz_w5
    obtain ⟨c_w5_w_1, f_w5_w_1⟩ := bk hb_w5 (w.heap.size + 1) (by first | omega | (simp <;> omega))
    have c_w5_w_1_0 := c_w5_w_1 0
    conv at c_w5_w_1_0 => rhs; simp [go_sem, *]
    have f_w5_w_1_0 := f_w5_w_1 0
    conv at f_w5_w_1_0 => rhs; simp [go_sem, *]
    have c_w5_w_1_1 := c_w5_w_1 1
    conv at c_w5_w_1_1 => rhs; simp [go_sem, *]
    have f_w5_w_1_1 := f_w5_w_1 1
    conv at f_w5_w_1_1 => rhs; simp [go_sem, *]
    have c_w5_w_1_2 := c_w5_w_1 2
    conv at c_w5_w_1_2 => rhs; simp [go_sem, *]
    have f_w5_w_1_2 := f_w5_w_1 2
    conv at f_w5_w_1_2 => rhs; simp [go_sem, *]
    have c_w5_w_1_3 := c_w5_w_1 3
    conv at c_w5_w_1_3 => rhs; simp [go_sem, *]
    have f_w5_w_1_3 := f_w5_w_1 3
    conv at f_w5_w_1_3 => rhs; simp [go_sem, *]
    have c_w5_w_1_4 := c_w5_w_1 4
    conv at c_w5_w_1_4 => rhs; simp [go_sem, *]
    have f_w5_w_1_4 := f_w5_w_1 4
    conv at f_w5_w_1_4 => rhs; simp [go_sem, *]
    have c_w5_w_1_5 := c_w5_w_1 5
    conv at c_w5_w_1_5 => rhs; simp [go_sem, *]
    have f_w5_w_1_5 := f_w5_w_1 5
    conv at f_w5_w_1_5 => rhs; simp [go_sem, *]
    obtain ⟨c_w5_w_2, f_w5_w_2⟩ := bk hb_w5 (w.heap.size + 2) (by first | omega | (simp <;> omega))
    have c_w5_w_2_0 := c_w5_w_2 0
    conv at c_w5_w_2_0 => rhs; simp [go_sem, *]
    have f_w5_w_2_0 := f_w5_w_2 0
    conv at f_w5_w_2_0 => rhs; simp [go_sem, *]
    have c_w5_w_2_1 := c_w5_w_2 1
    conv at c_w5_w_2_1 => rhs; simp [go_sem, *]
    have f_w5_w_2_1 := f_w5_w_2 1
    conv at f_w5_w_2_1 => rhs; simp [go_sem, *]
    have c_w5_w_2_2 := c_w5_w_2 2
    conv at c_w5_w_2_2 => rhs; simp [go_sem, *]
    have f_w5_w_2_2 := f_w5_w_2 2
    conv at f_w5_w_2_2 => rhs; simp [go_sem, *]
    have c_w5_w_2_3 := c_w5_w_2 3
    conv at c_w5_w_2_3 => rhs; simp [go_sem, *]
    have f_w5_w_2_3 := f_w5_w_2 3
    conv at f_w5_w_2_3 => rhs; simp [go_sem, *]
    have c_w5_w_2_4 := c_w5_w_2 4
    conv at c_w5_w_2_4 => rhs; simp [go_sem, *]
    have f_w5_w_2_4 := f_w5_w_2 4
    conv at f_w5_w_2_4 => rhs; simp [go_sem, *]
    have c_w5_w_2_5 := c_w5_w_2 5
    conv at c_w5_w_2_5 => rhs; simp [go_sem, *]
    have f_w5_w_2_5 := f_w5_w_2 5
    conv at f_w5_w_2_5 => rhs; simp [go_sem, *]
    have hB_w5 : Below w.heap.size w w5 := Below.trans (by (repeat (first | (with_reducible exact Below.refl _ _) | (with_reducible assumption) | (with_reducible refine Below.drew ?_) | (focus ((with_reducible refine Below.setCell ?_ ?_ _); rotate_left; (first | omega | (simp <;> omega)))) | (focus ((with_reducible refine Below.alloc ?_ ?_ _); rotate_left; (first | omega | (simp <;> omega)))) | exact Below.refl _ _ | assumption | refine Below.drew ?_ | refine Below.alloc ?_ (by first | omega | (simp <;> omega)) _ | refine Below.setCell ?_ (by first | omega | (simp <;> omega)) _))) (hb_w5.mono (by first | omega | (simp <;> omega)))
    clear hb_w5 c_w5_w_1 f_w5_w_1 c_w5_w_2 f_w5_w_2
    try clear c_w3_w_0_0
    try clear f_w3_w_0_0
    try clear c_w3_w_0_1
    try clear f_w3_w_0_1
    try clear c_w3_w_0_2
    try clear f_w3_w_0_2
    try clear c_w3_w_0_3
    try clear f_w3_w_0_3
    try clear c_w3_w_0_4
    try clear f_w3_w_0_4
    try clear c_w3_w_0_5
    try clear f_w3_w_0_5
    try clear c_w3_w_1_0
    try clear f_w3_w_1_0
    try clear c_w3_w_1_1
    try clear f_w3_w_1_1
    try clear c_w3_w_1_2
    try clear f_w3_w_1_2
    try clear c_w3_w_1_3
    try clear f_w3_w_1_3
    try clear c_w3_w_1_4
    try clear f_w3_w_1_4
    try clear c_w3_w_1_5
    try clear f_w3_w_1_5
    try clear c_w3_w_2_0
    try clear f_w3_w_2_0
    try clear c_w3_w_2_1
    try clear f_w3_w_2_1
    try clear c_w3_w_2_2
    try clear f_w3_w_2_2
    try clear c_w3_w_2_3
    try clear f_w3_w_2_3
    try clear c_w3_w_2_4
    try clear f_w3_w_2_4
    try clear c_w3_w_2_5
    try clear f_w3_w_2_5
    try clear far_w3_w_0
    try clear far_w3_w_1
    try clear far_w3_w_2
    try clear hB_w3
    have far_w5_w_1 := far (show w.heap.size + 1 < w5.heap.size by omega)
    have far_w5_w_2 := far (show w.heap.size + 2 < w5.heap.size by omega)
    by_cases hre : re = 0
    · subst hre
      obtain ⟨g1, g2, g3⟩ := RG.out (by simp)
      obtain rfl : ra = true := g2
      have hsm : UU.small ⟨true, rh, rn, rp, rq, ry⟩ := by
        have h1 := ok_small _ g1
        have h2 := ok_host _ g1 rfl
        exact ⟨by show rh.length ≤ _; have := h2; simp only at this; omega, by show rp.length ≤ _; have := h1.1; simp only at this; omega, by show ry.length ≤ _; have := h1.2; simp only at this; omega⟩
      have RR := Lib.hid (fun W (hbl : Below w.heap.size w W) => refRightC ⟨true, rh, rn, rp, rq, ry⟩ hsm.mid (W := W) HL.out hbl)
      have R2 := Lib.hid (fun W (hbl : Below w.heap.size w W) => uriResolve ⟨va, vh, vn, vp, vq, vy⟩ ⟨true, rh, rn, rp, rq, ry⟩ HSO.out hsm W (HL.out.on hbl))
      have CR := Lib.hid (fun W => clean_any (l := rp) (r := cleanL rp) (by have := hsm.2.1; simp only at this; omega) rfl W)
      rw [resolve_again _ _ g1 rfl] at R2
      rw [g1] at RR
      have HG := Lib.hid g3
      clear g1 g3 hsm
      obtain ⟨ok, hok⟩ : ∃ x, UU.ok ⟨va, vh, vn, vp, vq, vy⟩ = x := ⟨_, rfl⟩
      simp only [hok] at R2 RO
      clear hok
      simp only [UU.v] at RR RO
      go_wp2_with fail
      refine Calls.mono (RR.out _ (by (repeat (first | (with_reducible exact Below.refl _ _) | (with_reducible assumption) | (with_reducible refine Below.drew ?_) | (focus ((with_reducible refine Below.setCell ?_ ?_ _); rotate_left; (first | omega | (simp <;> omega)))) | (focus ((with_reducible refine Below.alloc ?_ ?_ _); rotate_left; (first | omega | (simp <;> omega)))) | exact Below.refl _ _ | assumption | refine Below.drew ?_ | refine Below.alloc ?_ (by first | omega | (simp <;> omega)) _ | refine Below.setCell ?_ (by first | omega | (simp <;> omega)) _)))) ?_
      rintro e w6 ⟨rfl, hb_w6⟩
      have hz_w6 := hb_w6.size
      try simp at hz_w6
      obtain ⟨c_w6_w_1, f_w6_w_1⟩ := bk hb_w6 (w.heap.size + 1) (by first | omega | (simp <;> omega))
      have c_w6_w_1_0 := c_w6_w_1 0
      conv at c_w6_w_1_0 => rhs; simp [go_sem, *]
      have f_w6_w_1_0 := f_w6_w_1 0
      conv at f_w6_w_1_0 => rhs; simp [go_sem, *]
      have c_w6_w_1_1 := c_w6_w_1 1
      conv at c_w6_w_1_1 => rhs; simp [go_sem, *]
      have f_w6_w_1_1 := f_w6_w_1 1
      conv at f_w6_w_1_1 => rhs; simp [go_sem, *]
      have c_w6_w_1_2 := c_w6_w_1 2
      conv at c_w6_w_1_2 => rhs; simp [go_sem, *]
      have f_w6_w_1_2 := f_w6_w_1 2
      conv at f_w6_w_1_2 => rhs; simp [go_sem, *]
      have c_w6_w_1_3 := c_w6_w_1 3
      conv at c_w6_w_1_3 => rhs; simp [go_sem, *]
      have f_w6_w_1_3 := f_w6_w_1 3
      conv at f_w6_w_1_3 => rhs; simp [go_sem, *]
      have c_w6_w_1_4 := c_w6_w_1 4
      conv at c_w6_w_1_4 => rhs; simp [go_sem, *]
      have f_w6_w_1_4 := f_w6_w_1 4
      conv at f_w6_w_1_4 => rhs; simp [go_sem, *]
      have c_w6_w_1_5 := c_w6_w_1 5
      conv at c_w6_w_1_5 => rhs; simp [go_sem, *]
      have f_w6_w_1_5 := f_w6_w_1 5
      conv at f_w6_w_1_5 => rhs; simp [go_sem, *]
      obtain ⟨c_w6_w_2, f_w6_w_2⟩ := bk hb_w6 (w.heap.size + 2) (by first | omega | (simp <;> omega))
      have c_w6_w_2_0 := c_w6_w_2 0
      conv at c_w6_w_2_0 => rhs; simp [go_sem, *]
      have f_w6_w_2_0 := f_w6_w_2 0
      conv at f_w6_w_2_0 => rhs; simp [go_sem, *]
      have c_w6_w_2_1 := c_w6_w_2 1
      conv at c_w6_w_2_1 => rhs; simp [go_sem, *]
      have f_w6_w_2_1 := f_w6_w_2 1
      conv at f_w6_w_2_1 => rhs; simp [go_sem, *]
      have c_w6_w_2_2 := c_w6_w_2 2
      conv at c_w6_w_2_2 => rhs; simp [go_sem, *]
      have f_w6_w_2_2 := f_w6_w_2 2
      conv at f_w6_w_2_2 => rhs; simp [go_sem, *]
      have c_w6_w_2_3 := c_w6_w_2 3
      conv at c_w6_w_2_3 => rhs; simp [go_sem, *]
      have f_w6_w_2_3 := f_w6_w_2 3
      conv at f_w6_w_2_3 => rhs; simp [go_sem, *]
      have c_w6_w_2_4 := c_w6_w_2 4
      conv at c_w6_w_2_4 => rhs; simp [go_sem, *]
      have f_w6_w_2_4 := f_w6_w_2 4
      conv at f_w6_w_2_4 => rhs; simp [go_sem, *]
      have c_w6_w_2_5 := c_w6_w_2 5
      conv at c_w6_w_2_5 => rhs; simp [go_sem, *]
      have f_w6_w_2_5 := f_w6_w_2 5
      conv at f_w6_w_2_5 => rhs; simp [go_sem, *]
      obtain ⟨c_w6_w5_0, f_w6_w5_0⟩ := bk hb_w6 (w5.heap.size) (by first | omega | (simp <;> omega))
      have c_w6_w5_0_0 := c_w6_w5_0 0
      conv at c_w6_w5_0_0 => rhs; simp [go_sem, *]
      have f_w6_w5_0_0 := f_w6_w5_0 0
      conv at f_w6_w5_0_0 => rhs; simp [go_sem, *]
      have c_w6_w5_0_1 := c_w6_w5_0 1
      conv at c_w6_w5_0_1 => rhs; simp [go_sem, *]
      have f_w6_w5_0_1 := f_w6_w5_0 1
      conv at f_w6_w5_0_1 => rhs; simp [go_sem, *]
      have c_w6_w5_0_2 := c_w6_w5_0 2
      conv at c_w6_w5_0_2 => rhs; simp [go_sem, *]
      have f_w6_w5_0_2 := f_w6_w5_0 2
      conv at f_w6_w5_0_2 => rhs; simp [go_sem, *]
      have c_w6_w5_0_3 := c_w6_w5_0 3
      conv at c_w6_w5_0_3 => rhs; simp [go_sem, *]
      have f_w6_w5_0_3 := f_w6_w5_0 3
      conv at f_w6_w5_0_3 => rhs; simp [go_sem, *]
      have c_w6_w5_0_4 := c_w6_w5_0 4
      conv at c_w6_w5_0_4 => rhs; simp [go_sem, *]
      have f_w6_w5_0_4 := f_w6_w5_0 4
      conv at f_w6_w5_0_4 => rhs; simp [go_sem, *]
      have c_w6_w5_0_5 := c_w6_w5_0 5
      conv at c_w6_w5_0_5 => rhs; simp [go_sem, *]
      have f_w6_w5_0_5 := f_w6_w5_0 5
      conv at f_w6_w5_0_5 => rhs; simp [go_sem, *]
      have hB_w6 : Below w.heap.size w w6 := Below.trans (by (repeat (first | (with_reducible exact Below.refl _ _) | (with_reducible assumption) | (with_reducible refine Below.drew ?_) | (focus ((with_reducible refine Below.setCell ?_ ?_ _); rotate_left; (first | omega | (simp <;> omega)))) | (focus ((with_reducible refine Below.alloc ?_ ?_ _); rotate_left; (first | omega | (simp <;> omega)))) | exact Below.refl _ _ | assumption | refine Below.drew ?_ | refine Below.alloc ?_ (by first | omega | (simp <;> omega)) _ | refine Below.setCell ?_ (by first | omega | (simp <;> omega)) _))) (hb_w6.mono (by first | omega | (simp <;> omega)))
      clear hb_w6 c_w6_w_1 f_w6_w_1 c_w6_w_2 f_w6_w_2 c_w6_w5_0 f_w6_w5_0
      try clear c_w5_w_1_0
      try clear f_w5_w_1_0
      try clear c_w5_w_1_1
      try clear f_w5_w_1_1
      try clear c_w5_w_1_2
      try clear f_w5_w_1_2
      try clear c_w5_w_1_3
      try clear f_w5_w_1_3
      try clear c_w5_w_1_4
      try clear f_w5_w_1_4
      try clear c_w5_w_1_5
      try clear f_w5_w_1_5
      try clear c_w5_w_2_0
      try clear f_w5_w_2_0
      try clear c_w5_w_2_1
      try clear f_w5_w_2_1
      try clear c_w5_w_2_2
      try clear f_w5_w_2_2
      try clear c_w5_w_2_3
      try clear f_w5_w_2_3
      try clear c_w5_w_2_4
      try clear f_w5_w_2_4
      try clear c_w5_w_2_5
      try clear f_w5_w_2_5
      try clear far_w5_w_1
      try clear far_w5_w_2
      try clear hB_w5
      have far_w6_w_1 := far (show w.heap.size + 1 < w6.heap.size by omega)
      have far_w6_w_2 := far (show w.heap.size + 2 < w6.heap.size by omega)
      have far_w6_w5_0 := far (show w5.heap.size < w6.heap.size by omega)
      cases ok with
      | false =>
        simp only [Bool.false_and, Bool.false_eq_true, if_false, UU.v, UU.nil] at R2
        go_wp2_with fail
        refine Calls.mono (R2.out _ (by (repeat (first | (with_reducible exact Below.refl _ _) | (with_reducible assumption) | (with_reducible refine Below.drew ?_) | (focus ((with_reducible refine Below.setCell ?_ ?_ _); rotate_left; (first | omega | (simp <;> omega)))) | (focus ((with_reducible refine Below.alloc ?_ ?_ _); rotate_left; (first | omega | (simp <;> omega)))) | exact Below.refl _ _ | assumption | refine Below.drew ?_ | refine Below.alloc ?_ (by first | omega | (simp <;> omega)) _ | refine Below.setCell ?_ (by first | omega | (simp <;> omega)) _)))) ?_
        rintro e w7 ⟨rfl, hb_w7⟩
        have hz_w7 := hb_w7.size
        try simp at hz_w7
        obtain ⟨c_w7_w_1, f_w7_w_1⟩ := bk hb_w7 (w.heap.size + 1) (by first | omega | (simp <;> omega))
        have c_w7_w_1_0 := c_w7_w_1 0
        conv at c_w7_w_1_0 => rhs; simp [go_sem, *]
        have f_w7_w_1_0 := f_w7_w_1 0
        conv at f_w7_w_1_0 => rhs; simp [go_sem, *]
        have c_w7_w_1_1 := c_w7_w_1 1
        conv at c_w7_w_1_1 => rhs; simp [go_sem, *]
        have f_w7_w_1_1 := f_w7_w_1 1
        conv at f_w7_w_1_1 => rhs; simp [go_sem, *]
        have c_w7_w_1_2 := c_w7_w_1 2
        conv at c_w7_w_1_2 => rhs; simp [go_sem, *]
        have f_w7_w_1_2 := f_w7_w_1 2
        conv at f_w7_w_1_2 => rhs; simp [go_sem, *]
        have c_w7_w_1_3 := c_w7_w_1 3
        conv at c_w7_w_1_3 => rhs; simp [go_sem, *]
        have f_w7_w_1_3 := f_w7_w_1 3
        conv at f_w7_w_1_3 => rhs; simp [go_sem, *]
        have c_w7_w_1_4 := c_w7_w_1 4
        conv at c_w7_w_1_4 => rhs; simp [go_sem, *]
        have f_w7_w_1_4 := f_w7_w_1 4
        conv at f_w7_w_1_4 => rhs; simp [go_sem, *]
        have c_w7_w_1_5 := c_w7_w_1 5
        conv at c_w7_w_1_5 => rhs; simp [go_sem, *]
        have f_w7_w_1_5 := f_w7_w_1 5
        conv at f_w7_w_1_5 => rhs; simp [go_sem, *]
        obtain ⟨c_w7_w_2, f_w7_w_2⟩ := bk hb_w7 (w.heap.size + 2) (by first | omega | (simp <;> omega))
        have c_w7_w_2_0 := c_w7_w_2 0
        conv at c_w7_w_2_0 => rhs; simp [go_sem, *]
        have f_w7_w_2_0 := f_w7_w_2 0
        conv at f_w7_w_2_0 => rhs; simp [go_sem, *]
        have c_w7_w_2_1 := c_w7_w_2 1
        conv at c_w7_w_2_1 => rhs; simp [go_sem, *]
        have f_w7_w_2_1 := f_w7_w_2 1
        conv at f_w7_w_2_1 => rhs; simp [go_sem, *]
        have c_w7_w_2_2 := c_w7_w_2 2
        conv at c_w7_w_2_2 => rhs; simp [go_sem, *]
        have f_w7_w_2_2 := f_w7_w_2 2
        conv at f_w7_w_2_2 => rhs; simp [go_sem, *]
        have c_w7_w_2_3 := c_w7_w_2 3
        conv at c_w7_w_2_3 => rhs; simp [go_sem, *]
        have f_w7_w_2_3 := f_w7_w_2 3
        conv at f_w7_w_2_3 => rhs; simp [go_sem, *]
        have c_w7_w_2_4 := c_w7_w_2 4
        conv at c_w7_w_2_4 => rhs; simp [go_sem, *]
        have f_w7_w_2_4 := f_w7_w_2 4
        conv at f_w7_w_2_4 => rhs; simp [go_sem, *]
        have c_w7_w_2_5 := c_w7_w_2 5
        conv at c_w7_w_2_5 => rhs; simp [go_sem, *]
        have f_w7_w_2_5 := f_w7_w_2 5
        conv at f_w7_w_2_5 => rhs; simp [go_sem, *]
        have hB_w7 : Below w.heap.size w w7 := Below.trans (by (repeat (first | (with_reducible exact Below.refl _ _) | (with_reducible assumption) | (with_reducible refine Below.drew ?_) | (focus ((with_reducible refine Below.setCell ?_ ?_ _); rotate_left; (first | omega | (simp <;> omega)))) | (focus ((with_reducible refine Below.alloc ?_ ?_ _); rotate_left; (first | omega | (simp <;> omega)))) | exact Below.refl _ _ | assumption | refine Below.drew ?_ | refine Below.alloc ?_ (by first | omega | (simp <;> omega)) _ | refine Below.setCell ?_ (by first | omega | (simp <;> omega)) _))) (hb_w7.mono (by first | omega | (simp <;> omega)))
        clear hb_w7 c_w7_w_1 f_w7_w_1 c_w7_w_2 f_w7_w_2
        try clear c_w6_w_1_0
        try clear f_w6_w_1_0
        try clear c_w6_w_1_1
        try clear f_w6_w_1_1
        try clear c_w6_w_1_2
        try clear f_w6_w_1_2
        try clear c_w6_w_1_3
        try clear f_w6_w_1_3
        try clear c_w6_w_1_4
        try clear f_w6_w_1_4
        try clear c_w6_w_1_5
        try clear f_w6_w_1_5
        try clear c_w6_w_2_0
        try clear f_w6_w_2_0
        try clear c_w6_w_2_1
        try clear f_w6_w_2_1
        try clear c_w6_w_2_2
        try clear f_w6_w_2_2
        try clear c_w6_w_2_3
        try clear f_w6_w_2_3
        try clear c_w6_w_2_4
        try clear f_w6_w_2_4
        try clear c_w6_w_2_5
        try clear f_w6_w_2_5
        try clear c_w6_w5_0_0
        try clear f_w6_w5_0_0
        try clear c_w6_w5_0_1
        try clear f_w6_w5_0_1
        try clear c_w6_w5_0_2
        try clear f_w6_w5_0_2
        try clear c_w6_w5_0_3
        try clear f_w6_w5_0_3
        try clear c_w6_w5_0_4
        try clear f_w6_w5_0_4
        try clear c_w6_w5_0_5
        try clear f_w6_w5_0_5
        try clear far_w6_w_1
        try clear far_w6_w_2
        try clear far_w6_w5_0
        try clear hB_w6
        have far_w7_w_1 := far (show w.heap.size + 1 < w7.heap.size by omega)
        have far_w7_w_2 := far (show w.heap.size + 2 < w7.heap.size by omega)
        go_wp2_with fail
        refine Calls.mono (RO.out _ (by (repeat (first | (with_reducible exact Below.refl _ _) | (with_reducible assumption) | (with_reducible refine Below.drew ?_) | (focus ((with_reducible refine Below.setCell ?_ ?_ _); rotate_left; (first | omega | (simp <;> omega)))) | (focus ((with_reducible refine Below.alloc ?_ ?_ _); rotate_left; (first | omega | (simp <;> omega)))) | exact Below.refl _ _ | assumption | refine Below.drew ?_ | refine Below.alloc ?_ (by first | omega | (simp <;> omega)) _ | refine Below.setCell ?_ (by first | omega | (simp <;> omega)) _)))) ?_
        rintro e w8 ⟨rfl, hb_w8⟩
        have hz_w8 := hb_w8.size
        try simp at hz_w8
        obtain ⟨c_w8_w_1, f_w8_w_1⟩ := bk hb_w8 (w.heap.size + 1) (by first | omega | (simp <;> omega))
        have c_w8_w_1_0 := c_w8_w_1 0
        conv at c_w8_w_1_0 => rhs; simp [go_sem, *]
        have f_w8_w_1_0 := f_w8_w_1 0
        conv at f_w8_w_1_0 => rhs; simp [go_sem, *]
        have c_w8_w_1_1 := c_w8_w_1 1
        conv at c_w8_w_1_1 => rhs; simp [go_sem, *]
        have f_w8_w_1_1 := f_w8_w_1 1
        conv at f_w8_w_1_1 => rhs; simp [go_sem, *]
        have c_w8_w_1_2 := c_w8_w_1 2
        conv at c_w8_w_1_2 => rhs; simp [go_sem, *]
        have f_w8_w_1_2 := f_w8_w_1 2
        conv at f_w8_w_1_2 => rhs; simp [go_sem, *]
        have c_w8_w_1_3 := c_w8_w_1 3
        conv at c_w8_w_1_3 => rhs; simp [go_sem, *]
        have f_w8_w_1_3 := f_w8_w_1 3
        conv at f_w8_w_1_3 => rhs; simp [go_sem, *]
        have c_w8_w_1_4 := c_w8_w_1 4
        conv at c_w8_w_1_4 => rhs; simp [go_sem, *]
        have f_w8_w_1_4 := f_w8_w_1 4
        conv at f_w8_w_1_4 => rhs; simp [go_sem, *]
        have c_w8_w_1_5 := c_w8_w_1 5
        conv at c_w8_w_1_5 => rhs; simp [go_sem, *]
        have f_w8_w_1_5 := f_w8_w_1 5
        conv at f_w8_w_1_5 => rhs; simp [go_sem, *]
        obtain ⟨c_w8_w_2, f_w8_w_2⟩ := bk hb_w8 (w.heap.size + 2) (by first | omega | (simp <;> omega))
        have c_w8_w_2_0 := c_w8_w_2 0
        conv at c_w8_w_2_0 => rhs; simp [go_sem, *]
        have f_w8_w_2_0 := f_w8_w_2 0
        conv at f_w8_w_2_0 => rhs; simp [go_sem, *]
        have c_w8_w_2_1 := c_w8_w_2 1
        conv at c_w8_w_2_1 => rhs; simp [go_sem, *]
        have f_w8_w_2_1 := f_w8_w_2 1
        conv at f_w8_w_2_1 => rhs; simp [go_sem, *]
        have c_w8_w_2_2 := c_w8_w_2 2
        conv at c_w8_w_2_2 => rhs; simp [go_sem, *]
        have f_w8_w_2_2 := f_w8_w_2 2
        conv at f_w8_w_2_2 => rhs; simp [go_sem, *]
        have c_w8_w_2_3 := c_w8_w_2 3
        conv at c_w8_w_2_3 => rhs; simp [go_sem, *]
        have f_w8_w_2_3 := f_w8_w_2 3
        conv at f_w8_w_2_3 => rhs; simp [go_sem, *]
        have c_w8_w_2_4 := c_w8_w_2 4
        conv at c_w8_w_2_4 => rhs; simp [go_sem, *]
        have f_w8_w_2_4 := f_w8_w_2 4
        conv at f_w8_w_2_4 => rhs; simp [go_sem, *]
        have c_w8_w_2_5 := c_w8_w_2 5
        conv at c_w8_w_2_5 => rhs; simp [go_sem, *]
        have f_w8_w_2_5 := f_w8_w_2 5
        conv at f_w8_w_2_5 => rhs; simp [go_sem, *]
        have hB_w8 : Below w.heap.size w w8 := Below.trans (by (repeat (first | (with_reducible exact Below.refl _ _) | (with_reducible assumption) | (with_reducible refine Below.drew ?_) | (focus ((with_reducible refine Below.setCell ?_ ?_ _); rotate_left; (first | omega | (simp <;> omega)))) | (focus ((with_reducible refine Below.alloc ?_ ?_ _); rotate_left; (first | omega | (simp <;> omega)))) | exact Below.refl _ _ | assumption | refine Below.drew ?_ | refine Below.alloc ?_ (by first | omega | (simp <;> omega)) _ | refine Below.setCell ?_ (by first | omega | (simp <;> omega)) _))) (hb_w8.mono (by first | omega | (simp <;> omega)))
        clear hb_w8 c_w8_w_1 f_w8_w_1 c_w8_w_2 f_w8_w_2
        try clear c_w7_w_1_0
        try clear f_w7_w_1_0
        try clear c_w7_w_1_1
        try clear f_w7_w_1_1
        try clear c_w7_w_1_2
        try clear f_w7_w_1_2
        try clear c_w7_w_1_3
        try clear f_w7_w_1_3
        try clear c_w7_w_1_4
        try clear f_w7_w_1_4
        try clear c_w7_w_1_5
        try clear f_w7_w_1_5
        try clear c_w7_w_2_0
        try clear f_w7_w_2_0
        try clear c_w7_w_2_1
        try clear f_w7_w_2_1
        try clear c_w7_w_2_2
        try clear f_w7_w_2_2
        try clear c_w7_w_2_3
        try clear f_w7_w_2_3
        try clear c_w7_w_2_4
        try clear f_w7_w_2_4
        try clear c_w7_w_2_5
        try clear f_w7_w_2_5
        try clear far_w7_w_1
        try clear far_w7_w_2
        try clear hB_w7
        have far_w8_w_1 := far (show w.heap.size + 1 < w8.heap.size by omega)
        have far_w8_w_2 := far (show w.heap.size + 2 < w8.heap.size by omega)
        go_wp2_with fail
        refine Calls.mono (clean_alive _) ?_
        rintro e w9 ⟨rfl, hb_w9⟩
        have hz_w9 := hb_w9.size
        try simp at hz_w9
        have hB_w9 : Below w.heap.size w w9 := Below.trans (by (repeat (first | (with_reducible exact Below.refl _ _) | (with_reducible assumption) | (with_reducible refine Below.drew ?_) | (focus ((with_reducible refine Below.setCell ?_ ?_ _); rotate_left; (first | omega | (simp <;> omega)))) | (focus ((with_reducible refine Below.alloc ?_ ?_ _); rotate_left; (first | omega | (simp <;> omega)))) | exact Below.refl _ _ | assumption | refine Below.drew ?_ | refine Below.alloc ?_ (by first | omega | (simp <;> omega)) _ | refine Below.setCell ?_ (by first | omega | (simp <;> omega)) _))) (hb_w9.mono (by first | omega | (simp <;> omega)))
        clear hb_w9
        try clear c_w8_w_1_0
        try clear f_w8_w_1_0
        try clear c_w8_w_1_1
        try clear f_w8_w_1_1
        try clear c_w8_w_1_2
        try clear f_w8_w_1_2
        try clear c_w8_w_1_3
        try clear f_w8_w_1_3
        try clear c_w8_w_1_4
        try clear f_w8_w_1_4
        try clear c_w8_w_1_5
        try clear f_w8_w_1_5
        try clear c_w8_w_2_0
        try clear f_w8_w_2_0
        try clear c_w8_w_2_1
        try clear f_w8_w_2_1
        try clear c_w8_w_2_2
        try clear f_w8_w_2_2
        try clear c_w8_w_2_3
        try clear f_w8_w_2_3
        try clear c_w8_w_2_4
        try clear f_w8_w_2_4
        try clear c_w8_w_2_5
        try clear f_w8_w_2_5
        try clear far_w8_w_1
        try clear far_w8_w_2
        try clear hB_w8
        go_wp2
        go_ret
        refine ⟨ret_bool (by simp), ?_⟩
        (repeat (first | (with_reducible exact Below.refl _ _) | (with_reducible assumption) | (with_reducible refine Below.drew ?_) | (focus ((with_reducible refine Below.setCell ?_ ?_ _); rotate_left; (first | omega | (simp <;> omega)))) | (focus ((with_reducible refine Below.alloc ?_ ?_ _); rotate_left; (first | omega | (simp <;> omega)))) | exact Below.refl _ _ | assumption | refine Below.drew ?_ | refine Below.alloc ?_ (by first | omega | (simp <;> omega)) _ | refine Below.setCell ?_ (by first | omega | (simp <;> omega)) _))
      | true =>
        cases va with
        | false =>
          simp only [Bool.and_false, Bool.false_eq_true, if_false, UU.v, UU.nil] at R2
          go_wp2_with fail
          refine Calls.mono (R2.out _ (by (repeat (first | (with_reducible exact Below.refl _ _) | (with_reducible assumption) | (with_reducible refine Below.drew ?_) | (focus ((with_reducible refine Below.setCell ?_ ?_ _); rotate_left; (first | omega | (simp <;> omega)))) | (focus ((with_reducible refine Below.alloc ?_ ?_ _); rotate_left; (first | omega | (simp <;> omega)))) | exact Below.refl _ _ | assumption | refine Below.drew ?_ | refine Below.alloc ?_ (by first | omega | (simp <;> omega)) _ | refine Below.setCell ?_ (by first | omega | (simp <;> omega)) _)))) ?_
          rintro e w7 ⟨rfl, hb_w7⟩
          have hz_w7 := hb_w7.size
          try simp at hz_w7
          obtain ⟨c_w7_w_1, f_w7_w_1⟩ := bk hb_w7 (w.heap.size + 1) (by first | omega | (simp <;> omega))
          have c_w7_w_1_0 := c_w7_w_1 0
          conv at c_w7_w_1_0 => rhs; simp [go_sem, *]
          have f_w7_w_1_0 := f_w7_w_1 0
          conv at f_w7_w_1_0 => rhs; simp [go_sem, *]
          have c_w7_w_1_1 := c_w7_w_1 1
          conv at c_w7_w_1_1 => rhs; simp [go_sem, *]
          have f_w7_w_1_1 := f_w7_w_1 1
          conv at f_w7_w_1_1 => rhs; simp [go_sem, *]
          have c_w7_w_1_2 := c_w7_w_1 2
          conv at c_w7_w_1_2 => rhs; simp [go_sem, *]
          have f_w7_w_1_2 := f_w7_w_1 2
          conv at f_w7_w_1_2 => rhs; simp [go_sem, *]
          have c_w7_w_1_3 := c_w7_w_1 3
          conv at c_w7_w_1_3 => rhs; simp [go_sem, *]
          have f_w7_w_1_3 := f_w7_w_1 3
          conv at f_w7_w_1_3 => rhs; simp [go_sem, *]
          have c_w7_w_1_4 := c_w7_w_1 4
          conv at c_w7_w_1_4 => rhs; simp [go_sem, *]
          have f_w7_w_1_4 := f_w7_w_1 4
          conv at f_w7_w_1_4 => rhs; simp [go_sem, *]
          have c_w7_w_1_5 := c_w7_w_1 5
          conv at c_w7_w_1_5 => rhs; simp [go_sem, *]
          have f_w7_w_1_5 := f_w7_w_1 5
          conv at f_w7_w_1_5 => rhs; simp [go_sem, *]
          obtain ⟨c_w7_w_2, f_w7_w_2⟩ := bk hb_w7 (w.heap.size + 2) (by first | omega | (simp <;> omega))
          have c_w7_w_2_0 := c_w7_w_2 0
          conv at c_w7_w_2_0 => rhs; simp [go_sem, *]
          have f_w7_w_2_0 := f_w7_w_2 0
          conv at f_w7_w_2_0 => rhs; simp [go_sem, *]
          have c_w7_w_2_1 := c_w7_w_2 1
          conv at c_w7_w_2_1 => rhs; simp [go_sem, *]
          have f_w7_w_2_1 := f_w7_w_2 1
          conv at f_w7_w_2_1 => rhs; simp [go_sem, *]
          have c_w7_w_2_2 := c_w7_w_2 2
          conv at c_w7_w_2_2 => rhs; simp [go_sem, *]
          have f_w7_w_2_2 := f_w7_w_2 2
          conv at f_w7_w_2_2 => rhs; simp [go_sem, *]
          have c_w7_w_2_3 := c_w7_w_2 3
          conv at c_w7_w_2_3 => rhs; simp [go_sem, *]
          have f_w7_w_2_3 := f_w7_w_2 3
          conv at f_w7_w_2_3 => rhs; simp [go_sem, *]
          have c_w7_w_2_4 := c_w7_w_2 4
          conv at c_w7_w_2_4 => rhs; simp [go_sem, *]
          have f_w7_w_2_4 := f_w7_w_2 4
          conv at f_w7_w_2_4 => rhs; simp [go_sem, *]
          have c_w7_w_2_5 := c_w7_w_2 5
          conv at c_w7_w_2_5 => rhs; simp [go_sem, *]
          have f_w7_w_2_5 := f_w7_w_2 5
          conv at f_w7_w_2_5 => rhs; simp [go_sem, *]
          have hB_w7 : Below w.heap.size w w7 := Below.trans (by (repeat (first | (with_reducible exact Below.refl _ _) | (with_reducible assumption) | (with_reducible refine Below.drew ?_) | (focus ((with_reducible refine Below.setCell ?_ ?_ _); rotate_left; (first | omega | (simp <;> omega)))) | (focus ((with_reducible refine Below.alloc ?_ ?_ _); rotate_left; (first | omega | (simp <;> omega)))) | exact Below.refl _ _ | assumption | refine Below.drew ?_ | refine Below.alloc ?_ (by first | omega | (simp <;> omega)) _ | refine Below.setCell ?_ (by first | omega | (simp <;> omega)) _))) (hb_w7.mono (by first | omega | (simp <;> omega)))
          clear hb_w7 c_w7_w_1 f_w7_w_1 c_w7_w_2 f_w7_w_2
          try clear hB_w9
          have far_w7_w_1 := far (show w.heap.size + 1 < w7.heap.size by omega)
          have far_w7_w_2 := far (show w.heap.size + 2 < w7.heap.size by omega)
          go_wp2_with fail
          refine Calls.mono (RO.out _ (by (repeat (first | (with_reducible exact Below.refl _ _) | (with_reducible assumption) | (with_reducible refine Below.drew ?_) | (focus ((with_reducible refine Below.setCell ?_ ?_ _); rotate_left; (first | omega | (simp <;> omega)))) | (focus ((with_reducible refine Below.alloc ?_ ?_ _); rotate_left; (first | omega | (simp <;> omega)))) | exact Below.refl _ _ | assumption | refine Below.drew ?_ | refine Below.alloc ?_ (by first | omega | (simp <;> omega)) _ | refine Below.setCell ?_ (by first | omega | (simp <;> omega)) _)))) ?_
          rintro e w8 ⟨rfl, hb_w8⟩
          have hz_w8 := hb_w8.size
          try simp at hz_w8
          obtain ⟨c_w8_w_1, f_w8_w_1⟩ := bk hb_w8 (w.heap.size + 1) (by first | omega | (simp <;> omega))
          have c_w8_w_1_0 := c_w8_w_1 0
          conv at c_w8_w_1_0 => rhs; simp [go_sem, *]
          have f_w8_w_1_0 := f_w8_w_1 0
          conv at f_w8_w_1_0 => rhs; simp [go_sem, *]
          have c_w8_w_1_1 := c_w8_w_1 1
          conv at c_w8_w_1_1 => rhs; simp [go_sem, *]
          have f_w8_w_1_1 := f_w8_w_1 1
          conv at f_w8_w_1_1 => rhs; simp [go_sem, *]
          have c_w8_w_1_2 := c_w8_w_1 2
          conv at c_w8_w_1_2 => rhs; simp [go_sem, *]
          have f_w8_w_1_2 := f_w8_w_1 2
          conv at f_w8_w_1_2 => rhs; simp [go_sem, *]
          have c_w8_w_1_3 := c_w8_w_1 3
          conv at c_w8_w_1_3 => rhs; simp [go_sem, *]
          have f_w8_w_1_3 := f_w8_w_1 3
          conv at f_w8_w_1_3 => rhs; simp [go_sem, *]
          have c_w8_w_1_4 := c_w8_w_1 4
          conv at c_w8_w_1_4 => rhs; simp [go_sem, *]
          have f_w8_w_1_4 := f_w8_w_1 4
          conv at f_w8_w_1_4 => rhs; simp [go_sem, *]
          have c_w8_w_1_5 := c_w8_w_1 5
          conv at c_w8_w_1_5 => rhs; simp [go_sem, *]
          have f_w8_w_1_5 := f_w8_w_1 5
          conv at f_w8_w_1_5 => rhs; simp [go_sem, *]
          obtain ⟨c_w8_w_2, f_w8_w_2⟩ := bk hb_w8 (w.heap.size + 2) (by first | omega | (simp <;> omega))
          have c_w8_w_2_0 := c_w8_w_2 0
          conv at c_w8_w_2_0 => rhs; simp [go_sem, *]
          have f_w8_w_2_0 := f_w8_w_2 0
          conv at f_w8_w_2_0 => rhs; simp [go_sem, *]
          have c_w8_w_2_1 := c_w8_w_2 1
          conv at c_w8_w_2_1 => rhs; simp [go_sem, *]
          have f_w8_w_2_1 := f_w8_w_2 1
          conv at f_w8_w_2_1 => rhs; simp [go_sem, *]
          have c_w8_w_2_2 := c_w8_w_2 2
          conv at c_w8_w_2_2 => rhs; simp [go_sem, *]
          have f_w8_w_2_2 := f_w8_w_2 2
          conv at f_w8_w_2_2 => rhs; simp [go_sem, *]
          have c_w8_w_2_3 := c_w8_w_2 3
          conv at c_w8_w_2_3 => rhs; simp [go_sem, *]
          have f_w8_w_2_3 := f_w8_w_2 3
          conv at f_w8_w_2_3 => rhs; simp [go_sem, *]
          have c_w8_w_2_4 := c_w8_w_2 4
          conv at c_w8_w_2_4 => rhs; simp [go_sem, *]
          have f_w8_w_2_4 := f_w8_w_2 4
          conv at f_w8_w_2_4 => rhs; simp [go_sem, *]
          have c_w8_w_2_5 := c_w8_w_2 5
          conv at c_w8_w_2_5 => rhs; simp [go_sem, *]
          have f_w8_w_2_5 := f_w8_w_2 5
          conv at f_w8_w_2_5 => rhs; simp [go_sem, *]
          have hB_w8 : Below w.heap.size w w8 := Below.trans (by (repeat (first | (with_reducible exact Below.refl _ _) | (with_reducible assumption) | (with_reducible refine Below.drew ?_) | (focus ((with_reducible refine Below.setCell ?_ ?_ _); rotate_left; (first | omega | (simp <;> omega)))) | (focus ((with_reducible refine Below.alloc ?_ ?_ _); rotate_left; (first | omega | (simp <;> omega)))) | exact Below.refl _ _ | assumption | refine Below.drew ?_ | refine Below.alloc ?_ (by first | omega | (simp <;> omega)) _ | refine Below.setCell ?_ (by first | omega | (simp <;> omega)) _))) (hb_w8.mono (by first | omega | (simp <;> omega)))
          clear hb_w8 c_w8_w_1 f_w8_w_1 c_w8_w_2 f_w8_w_2
          try clear c_w7_w_1_0
          try clear f_w7_w_1_0
          try clear c_w7_w_1_1
          try clear f_w7_w_1_1
          try clear c_w7_w_1_2
          try clear f_w7_w_1_2
          try clear c_w7_w_1_3
          try clear f_w7_w_1_3
          try clear c_w7_w_1_4
          try clear f_w7_w_1_4
          try clear c_w7_w_1_5
          try clear f_w7_w_1_5
          try clear c_w7_w_2_0
          try clear f_w7_w_2_0
          try clear c_w7_w_2_1
          try clear f_w7_w_2_1
          try clear c_w7_w_2_2
          try clear f_w7_w_2_2
          try clear c_w7_w_2_3
          try clear f_w7_w_2_3
          try clear c_w7_w_2_4
          try clear f_w7_w_2_4
          try clear c_w7_w_2_5
          try clear f_w7_w_2_5
          try clear far_w7_w_1
          try clear far_w7_w_2
          try clear hB_w7
          have far_w8_w_1 := far (show w.heap.size + 1 < w8.heap.size by omega)
          have far_w8_w_2 := far (show w.heap.size + 2 < w8.heap.size by omega)
          go_wp2_with fail
          refine Calls.mono (clean_alive _) ?_
          rintro e w9 ⟨rfl, hb_w9⟩
          have hz_w9 := hb_w9.size
          try simp at hz_w9
          have hB_w9 : Below w.heap.size w w9 := Below.trans (by (repeat (first | (with_reducible exact Below.refl _ _) | (with_reducible assumption) | (with_reducible refine Below.drew ?_) | (focus ((with_reducible refine Below.setCell ?_ ?_ _); rotate_left; (first | omega | (simp <;> omega)))) | (focus ((with_reducible refine Below.alloc ?_ ?_ _); rotate_left; (first | omega | (simp <;> omega)))) | exact Below.refl _ _ | assumption | refine Below.drew ?_ | refine Below.alloc ?_ (by first | omega | (simp <;> omega)) _ | refine Below.setCell ?_ (by first | omega | (simp <;> omega)) _))) (hb_w9.mono (by first | omega | (simp <;> omega)))
          clear hb_w9
          try clear c_w8_w_1_0
          try clear f_w8_w_1_0
          try clear c_w8_w_1_1
          try clear f_w8_w_1_1
          try clear c_w8_w_1_2
          try clear f_w8_w_1_2
          try clear c_w8_w_1_3
          try clear f_w8_w_1_3
          try clear c_w8_w_1_4
          try clear f_w8_w_1_4
          try clear c_w8_w_1_5
          try clear f_w8_w_1_5
          try clear c_w8_w_2_0
          try clear f_w8_w_2_0
          try clear c_w8_w_2_1
          try clear f_w8_w_2_1
          try clear c_w8_w_2_2
          try clear f_w8_w_2_2
          try clear c_w8_w_2_3
          try clear f_w8_w_2_3
          try clear c_w8_w_2_4
          try clear f_w8_w_2_4
          try clear c_w8_w_2_5
          try clear f_w8_w_2_5
          try clear far_w8_w_1
          try clear far_w8_w_2
          try clear hB_w8
          go_wp2
          go_ret
          refine ⟨ret_bool (by simp), ?_⟩
          (repeat (first | (with_reducible exact Below.refl _ _) | (with_reducible assumption) | (with_reducible refine Below.drew ?_) | (focus ((with_reducible refine Below.setCell ?_ ?_ _); rotate_left; (first | omega | (simp <;> omega)))) | (focus ((with_reducible refine Below.alloc ?_ ?_ _); rotate_left; (first | omega | (simp <;> omega)))) | exact Below.refl _ _ | assumption | refine Below.drew ?_ | refine Below.alloc ?_ (by first | omega | (simp <;> omega)) _ | refine Below.setCell ?_ (by first | omega | (simp <;> omega)) _))
        | true =>
          simp only [Bool.and_self, if_true, UU.v] at R2
          go_wp2_with fail
          refine Calls.mono (R2.out _ (by (repeat (first | (with_reducible exact Below.refl _ _) | (with_reducible assumption) | (with_reducible refine Below.drew ?_) | (focus ((with_reducible refine Below.setCell ?_ ?_ _); rotate_left; (first | omega | (simp <;> omega)))) | (focus ((with_reducible refine Below.alloc ?_ ?_ _); rotate_left; (first | omega | (simp <;> omega)))) | exact Below.refl _ _ | assumption | refine Below.drew ?_ | refine Below.alloc ?_ (by first | omega | (simp <;> omega)) _ | refine Below.setCell ?_ (by first | omega | (simp <;> omega)) _)))) ?_
          rintro e w7 ⟨rfl, hb_w7⟩
          have hz_w7 := hb_w7.size
          try simp at hz_w7
          obtain ⟨c_w7_w_1, f_w7_w_1⟩ := bk hb_w7 (w.heap.size + 1) (by first | omega | (simp <;> omega))
          have c_w7_w_1_0 := c_w7_w_1 0
          conv at c_w7_w_1_0 => rhs; simp [go_sem, *]
          have f_w7_w_1_0 := f_w7_w_1 0
          conv at f_w7_w_1_0 => rhs; simp [go_sem, *]
          have c_w7_w_1_1 := c_w7_w_1 1
          conv at c_w7_w_1_1 => rhs; simp [go_sem, *]
          have f_w7_w_1_1 := f_w7_w_1 1
          conv at f_w7_w_1_1 => rhs; simp [go_sem, *]
          have c_w7_w_1_2 := c_w7_w_1 2
          conv at c_w7_w_1_2 => rhs; simp [go_sem, *]
          have f_w7_w_1_2 := f_w7_w_1 2
          conv at f_w7_w_1_2 => rhs; simp [go_sem, *]
          have c_w7_w_1_3 := c_w7_w_1 3
          conv at c_w7_w_1_3 => rhs; simp [go_sem, *]
          have f_w7_w_1_3 := f_w7_w_1 3
          conv at f_w7_w_1_3 => rhs; simp [go_sem, *]
          have c_w7_w_1_4 := c_w7_w_1 4
          conv at c_w7_w_1_4 => rhs; simp [go_sem, *]
          have f_w7_w_1_4 := f_w7_w_1 4
          conv at f_w7_w_1_4 => rhs; simp [go_sem, *]
          have c_w7_w_1_5 := c_w7_w_1 5
          conv at c_w7_w_1_5 => rhs; simp [go_sem, *]
          have f_w7_w_1_5 := f_w7_w_1 5
          conv at f_w7_w_1_5 => rhs; simp [go_sem, *]
          obtain ⟨c_w7_w_2, f_w7_w_2⟩ := bk hb_w7 (w.heap.size + 2) (by first | omega | (simp <;> omega))
          have c_w7_w_2_0 := c_w7_w_2 0
          conv at c_w7_w_2_0 => rhs; simp [go_sem, *]
          have f_w7_w_2_0 := f_w7_w_2 0
          conv at f_w7_w_2_0 => rhs; simp [go_sem, *]
          have c_w7_w_2_1 := c_w7_w_2 1
          conv at c_w7_w_2_1 => rhs; simp [go_sem, *]
          have f_w7_w_2_1 := f_w7_w_2 1
          conv at f_w7_w_2_1 => rhs; simp [go_sem, *]
          have c_w7_w_2_2 := c_w7_w_2 2
          conv at c_w7_w_2_2 => rhs; simp [go_sem, *]
          have f_w7_w_2_2 := f_w7_w_2 2
          conv at f_w7_w_2_2 => rhs; simp [go_sem, *]
          have c_w7_w_2_3 := c_w7_w_2 3
          conv at c_w7_w_2_3 => rhs; simp [go_sem, *]
          have f_w7_w_2_3 := f_w7_w_2 3
          conv at f_w7_w_2_3 => rhs; simp [go_sem, *]
          have c_w7_w_2_4 := c_w7_w_2 4
          conv at c_w7_w_2_4 => rhs; simp [go_sem, *]
          have f_w7_w_2_4 := f_w7_w_2 4
          conv at f_w7_w_2_4 => rhs; simp [go_sem, *]
          have c_w7_w_2_5 := c_w7_w_2 5
          conv at c_w7_w_2_5 => rhs; simp [go_sem, *]
          have f_w7_w_2_5 := f_w7_w_2 5
          conv at f_w7_w_2_5 => rhs; simp [go_sem, *]
          obtain ⟨c_w7_w5_0, f_w7_w5_0⟩ := bk hb_w7 (w5.heap.size) (by first | omega | (simp <;> omega))
          have c_w7_w5_0_0 := c_w7_w5_0 0
          conv at c_w7_w5_0_0 => rhs; simp [go_sem, *]
          have f_w7_w5_0_0 := f_w7_w5_0 0
          conv at f_w7_w5_0_0 => rhs; simp [go_sem, *]
          have c_w7_w5_0_1 := c_w7_w5_0 1
          conv at c_w7_w5_0_1 => rhs; simp [go_sem, *]
          have f_w7_w5_0_1 := f_w7_w5_0 1
          conv at f_w7_w5_0_1 => rhs; simp [go_sem, *]
          have c_w7_w5_0_2 := c_w7_w5_0 2
          conv at c_w7_w5_0_2 => rhs; simp [go_sem, *]
          have f_w7_w5_0_2 := f_w7_w5_0 2
          conv at f_w7_w5_0_2 => rhs; simp [go_sem, *]
          have c_w7_w5_0_3 := c_w7_w5_0 3
          conv at c_w7_w5_0_3 => rhs; simp [go_sem, *]
          have f_w7_w5_0_3 := f_w7_w5_0 3
          conv at f_w7_w5_0_3 => rhs; simp [go_sem, *]
          have c_w7_w5_0_4 := c_w7_w5_0 4
          conv at c_w7_w5_0_4 => rhs; simp [go_sem, *]
          have f_w7_w5_0_4 := f_w7_w5_0 4
          conv at f_w7_w5_0_4 => rhs; simp [go_sem, *]
          have c_w7_w5_0_5 := c_w7_w5_0 5
          conv at c_w7_w5_0_5 => rhs; simp [go_sem, *]
          have f_w7_w5_0_5 := f_w7_w5_0 5
          conv at f_w7_w5_0_5 => rhs; simp [go_sem, *]
          have hB_w7 : Below w.heap.size w w7 := Below.trans (by (repeat (first | (with_reducible exact Below.refl _ _) | (with_reducible assumption) | (with_reducible refine Below.drew ?_) | (focus ((with_reducible refine Below.setCell ?_ ?_ _); rotate_left; (first | omega | (simp <;> omega)))) | (focus ((with_reducible refine Below.alloc ?_ ?_ _); rotate_left; (first | omega | (simp <;> omega)))) | exact Below.refl _ _ | assumption | refine Below.drew ?_ | refine Below.alloc ?_ (by first | omega | (simp <;> omega)) _ | refine Below.setCell ?_ (by first | omega | (simp <;> omega)) _))) (hb_w7.mono (by first | omega | (simp <;> omega)))
          clear hb_w7 c_w7_w_1 f_w7_w_1 c_w7_w_2 f_w7_w_2 c_w7_w5_0 f_w7_w5_0
          try clear hB_w9
          have far_w7_w_1 := far (show w.heap.size + 1 < w7.heap.size by omega)
          have far_w7_w_2 := far (show w.heap.size + 2 < w7.heap.size by omega)
          have far_w7_w5_0 := far (show w5.heap.size < w7.heap.size by omega)
          go_wp2_with fail
          refine Calls.mono (RO.out _ (by (repeat (first | (with_reducible exact Below.refl _ _) | (with_reducible assumption) | (with_reducible refine Below.drew ?_) | (focus ((with_reducible refine Below.setCell ?_ ?_ _); rotate_left; (first | omega | (simp <;> omega)))) | (focus ((with_reducible refine Below.alloc ?_ ?_ _); rotate_left; (first | omega | (simp <;> omega)))) | exact Below.refl _ _ | assumption | refine Below.drew ?_ | refine Below.alloc ?_ (by first | omega | (simp <;> omega)) _ | refine Below.setCell ?_ (by first | omega | (simp <;> omega)) _)))) ?_
          rintro e w8 ⟨rfl, hb_w8⟩
          have hz_w8 := hb_w8.size
          try simp at hz_w8
          obtain ⟨c_w8_w_1, f_w8_w_1⟩ := bk hb_w8 (w.heap.size + 1) (by first | omega | (simp <;> omega))
          have c_w8_w_1_0 := c_w8_w_1 0
          conv at c_w8_w_1_0 => rhs; simp [go_sem, *]
          have f_w8_w_1_0 := f_w8_w_1 0
          conv at f_w8_w_1_0 => rhs; simp [go_sem, *]
          have c_w8_w_1_1 := c_w8_w_1 1
          conv at c_w8_w_1_1 => rhs; simp [go_sem, *]
          have f_w8_w_1_1 := f_w8_w_1 1
          conv at f_w8_w_1_1 => rhs; simp [go_sem, *]
          have c_w8_w_1_2 := c_w8_w_1 2
          conv at c_w8_w_1_2 => rhs; simp [go_sem, *]
          have f_w8_w_1_2 := f_w8_w_1 2
          conv at f_w8_w_1_2 => rhs; simp [go_sem, *]
          have c_w8_w_1_3 := c_w8_w_1 3
          conv at c_w8_w_1_3 => rhs; simp [go_sem, *]
          have f_w8_w_1_3 := f_w8_w_1 3
          conv at f_w8_w_1_3 => rhs; simp [go_sem, *]
          have c_w8_w_1_4 := c_w8_w_1 4
          conv at c_w8_w_1_4 => rhs; simp [go_sem, *]
          have f_w8_w_1_4 := f_w8_w_1 4
          conv at f_w8_w_1_4 => rhs; simp [go_sem, *]
          have c_w8_w_1_5 := c_w8_w_1 5
          conv at c_w8_w_1_5 => rhs; simp [go_sem, *]
          have f_w8_w_1_5 := f_w8_w_1 5
          conv at f_w8_w_1_5 => rhs; simp [go_sem, *]
          obtain ⟨c_w8_w_2, f_w8_w_2⟩ := bk hb_w8 (w.heap.size + 2) (by first | omega | (simp <;> omega))
          have c_w8_w_2_0 := c_w8_w_2 0
          conv at c_w8_w_2_0 => rhs; simp [go_sem, *]
          have f_w8_w_2_0 := f_w8_w_2 0
          conv at f_w8_w_2_0 => rhs; simp [go_sem, *]
          have c_w8_w_2_1 := c_w8_w_2 1
          conv at c_w8_w_2_1 => rhs; simp [go_sem, *]
          have f_w8_w_2_1 := f_w8_w_2 1
          conv at f_w8_w_2_1 => rhs; simp [go_sem, *]
          have c_w8_w_2_2 := c_w8_w_2 2
          conv at c_w8_w_2_2 => rhs; simp [go_sem, *]
          have f_w8_w_2_2 := f_w8_w_2 2
          conv at f_w8_w_2_2 => rhs; simp [go_sem, *]
          have c_w8_w_2_3 := c_w8_w_2 3
          conv at c_w8_w_2_3 => rhs; simp [go_sem, *]
          have f_w8_w_2_3 := f_w8_w_2 3
          conv at f_w8_w_2_3 => rhs; simp [go_sem, *]
          have c_w8_w_2_4 := c_w8_w_2 4
          conv at c_w8_w_2_4 => rhs; simp [go_sem, *]
          have f_w8_w_2_4 := f_w8_w_2 4
          conv at f_w8_w_2_4 => rhs; simp [go_sem, *]
          have c_w8_w_2_5 := c_w8_w_2 5
          conv at c_w8_w_2_5 => rhs; simp [go_sem, *]
          have f_w8_w_2_5 := f_w8_w_2 5
          conv at f_w8_w_2_5 => rhs; simp [go_sem, *]
          obtain ⟨c_w8_w5_0, f_w8_w5_0⟩ := bk hb_w8 (w5.heap.size) (by first | omega | (simp <;> omega))
          have c_w8_w5_0_0 := c_w8_w5_0 0
          conv at c_w8_w5_0_0 => rhs; simp [go_sem, *]
          have f_w8_w5_0_0 := f_w8_w5_0 0
          conv at f_w8_w5_0_0 => rhs; simp [go_sem, *]
          have c_w8_w5_0_1 := c_w8_w5_0 1
          conv at c_w8_w5_0_1 => rhs; simp [go_sem, *]
          have f_w8_w5_0_1 := f_w8_w5_0 1
          conv at f_w8_w5_0_1 => rhs; simp [go_sem, *]
          have c_w8_w5_0_2 := c_w8_w5_0 2
          conv at c_w8_w5_0_2 => rhs; simp [go_sem, *]
          have f_w8_w5_0_2 := f_w8_w5_0 2
          conv at f_w8_w5_0_2 => rhs; simp [go_sem, *]
          have c_w8_w5_0_3 := c_w8_w5_0 3
          conv at c_w8_w5_0_3 => rhs; simp [go_sem, *]
          have f_w8_w5_0_3 := f_w8_w5_0 3
          conv at f_w8_w5_0_3 => rhs; simp [go_sem, *]
          have c_w8_w5_0_4 := c_w8_w5_0 4
          conv at c_w8_w5_0_4 => rhs; simp [go_sem, *]
          have f_w8_w5_0_4 := f_w8_w5_0 4
          conv at f_w8_w5_0_4 => rhs; simp [go_sem, *]
          have c_w8_w5_0_5 := c_w8_w5_0 5
          conv at c_w8_w5_0_5 => rhs; simp [go_sem, *]
          have f_w8_w5_0_5 := f_w8_w5_0 5
          conv at f_w8_w5_0_5 => rhs; simp [go_sem, *]
          obtain ⟨c_w8_w7_0, f_w8_w7_0⟩ := bk hb_w8 (w7.heap.size) (by first | omega | (simp <;> omega))
          have c_w8_w7_0_0 := c_w8_w7_0 0
          conv at c_w8_w7_0_0 => rhs; simp [go_sem, *]
          have f_w8_w7_0_0 := f_w8_w7_0 0
          conv at f_w8_w7_0_0 => rhs; simp [go_sem, *]
          have c_w8_w7_0_1 := c_w8_w7_0 1
          conv at c_w8_w7_0_1 => rhs; simp [go_sem, *]
          have f_w8_w7_0_1 := f_w8_w7_0 1
          conv at f_w8_w7_0_1 => rhs; simp [go_sem, *]
          have c_w8_w7_0_2 := c_w8_w7_0 2
          conv at c_w8_w7_0_2 => rhs; simp [go_sem, *]
          have f_w8_w7_0_2 := f_w8_w7_0 2
          conv at f_w8_w7_0_2 => rhs; simp [go_sem, *]
          have c_w8_w7_0_3 := c_w8_w7_0 3
          conv at c_w8_w7_0_3 => rhs; simp [go_sem, *]
          have f_w8_w7_0_3 := f_w8_w7_0 3
          conv at f_w8_w7_0_3 => rhs; simp [go_sem, *]
          have c_w8_w7_0_4 := c_w8_w7_0 4
          conv at c_w8_w7_0_4 => rhs; simp [go_sem, *]
          have f_w8_w7_0_4 := f_w8_w7_0 4
          conv at f_w8_w7_0_4 => rhs; simp [go_sem, *]
          have c_w8_w7_0_5 := c_w8_w7_0 5
          conv at c_w8_w7_0_5 => rhs; simp [go_sem, *]
          have f_w8_w7_0_5 := f_w8_w7_0 5
          conv at f_w8_w7_0_5 => rhs; simp [go_sem, *]
          have hB_w8 : Below w.heap.size w w8 := Below.trans (by (repeat (first | (with_reducible exact Below.refl _ _) | (with_reducible assumption) | (with_reducible refine Below.drew ?_) | (focus ((with_reducible refine Below.setCell ?_ ?_ _); rotate_left; (first | omega | (simp <;> omega)))) | (focus ((with_reducible refine Below.alloc ?_ ?_ _); rotate_left; (first | omega | (simp <;> omega)))) | exact Below.refl _ _ | assumption | refine Below.drew ?_ | refine Below.alloc ?_ (by first | omega | (simp <;> omega)) _ | refine Below.setCell ?_ (by first | omega | (simp <;> omega)) _))) (hb_w8.mono (by first | omega | (simp <;> omega)))
          clear hb_w8 c_w8_w_1 f_w8_w_1 c_w8_w_2 f_w8_w_2 c_w8_w5_0 f_w8_w5_0 c_w8_w7_0 f_w8_w7_0
          try clear c_w7_w_1_0
          try clear f_w7_w_1_0
          try clear c_w7_w_1_1
          try clear f_w7_w_1_1
          try clear c_w7_w_1_2
          try clear f_w7_w_1_2
          try clear c_w7_w_1_3
          try clear f_w7_w_1_3
          try clear c_w7_w_1_4
          try clear f_w7_w_1_4
          try clear c_w7_w_1_5
          try clear f_w7_w_1_5
          try clear c_w7_w_2_0
          try clear f_w7_w_2_0
          try clear c_w7_w_2_1
          try clear f_w7_w_2_1
          try clear c_w7_w_2_2
          try clear f_w7_w_2_2
          try clear c_w7_w_2_3
          try clear f_w7_w_2_3
          try clear c_w7_w_2_4
          try clear f_w7_w_2_4
          try clear c_w7_w_2_5
          try clear f_w7_w_2_5
          try clear c_w7_w5_0_0
          try clear f_w7_w5_0_0
          try clear c_w7_w5_0_1
          try clear f_w7_w5_0_1
          try clear c_w7_w5_0_2
          try clear f_w7_w5_0_2
          try clear c_w7_w5_0_3
          try clear f_w7_w5_0_3
          try clear c_w7_w5_0_4
          try clear f_w7_w5_0_4
          try clear c_w7_w5_0_5
          try clear f_w7_w5_0_5
          try clear far_w7_w_1
          try clear far_w7_w_2
          try clear far_w7_w5_0
          try clear hB_w7
          have far_w8_w_1 := far (show w.heap.size + 1 < w8.heap.size by omega)
          have far_w8_w_2 := far (show w.heap.size + 2 < w8.heap.size by omega)
          have far_w8_w5_0 := far (show w5.heap.size < w8.heap.size by omega)
          have far_w8_w7_0 := far (show w7.heap.size < w8.heap.size by omega)
          go_wp2_with fail
          refine Calls.mono (CR.out _) ?_
          rintro e w9 ⟨rfl, hb_w9⟩
          have hz_w9 := hb_w9.size
          try simp at hz_w9
          obtain ⟨c_w9_w_1, f_w9_w_1⟩ := bk hb_w9 (w.heap.size + 1) (by first | omega | (simp <;> omega))
          have c_w9_w_1_0 := c_w9_w_1 0
          conv at c_w9_w_1_0 => rhs; simp [go_sem, *]
          have f_w9_w_1_0 := f_w9_w_1 0
          conv at f_w9_w_1_0 => rhs; simp [go_sem, *]
          have c_w9_w_1_1 := c_w9_w_1 1
          conv at c_w9_w_1_1 => rhs; simp [go_sem, *]
          have f_w9_w_1_1 := f_w9_w_1 1
          conv at f_w9_w_1_1 => rhs; simp [go_sem, *]
          have c_w9_w_1_2 := c_w9_w_1 2
          conv at c_w9_w_1_2 => rhs; simp [go_sem, *]
          have f_w9_w_1_2 := f_w9_w_1 2
          conv at f_w9_w_1_2 => rhs; simp [go_sem, *]
          have c_w9_w_1_3 := c_w9_w_1 3
          conv at c_w9_w_1_3 => rhs; simp [go_sem, *]
          have f_w9_w_1_3 := f_w9_w_1 3
          conv at f_w9_w_1_3 => rhs; simp [go_sem, *]
          have c_w9_w_1_4 := c_w9_w_1 4
          conv at c_w9_w_1_4 => rhs; simp [go_sem, *]
          have f_w9_w_1_4 := f_w9_w_1 4
          conv at f_w9_w_1_4 => rhs; simp [go_sem, *]
          have c_w9_w_1_5 := c_w9_w_1 5
          conv at c_w9_w_1_5 => rhs; simp [go_sem, *]
          have f_w9_w_1_5 := f_w9_w_1 5
          conv at f_w9_w_1_5 => rhs; simp [go_sem, *]
          obtain ⟨c_w9_w5_0, f_w9_w5_0⟩ := bk hb_w9 (w5.heap.size) (by first | omega | (simp <;> omega))
          have c_w9_w5_0_0 := c_w9_w5_0 0
          conv at c_w9_w5_0_0 => rhs; simp [go_sem, *]
          have f_w9_w5_0_0 := f_w9_w5_0 0
          conv at f_w9_w5_0_0 => rhs; simp [go_sem, *]
          have c_w9_w5_0_1 := c_w9_w5_0 1
          conv at c_w9_w5_0_1 => rhs; simp [go_sem, *]
          have f_w9_w5_0_1 := f_w9_w5_0 1
          conv at f_w9_w5_0_1 => rhs; simp [go_sem, *]
          have c_w9_w5_0_2 := c_w9_w5_0 2
          conv at c_w9_w5_0_2 => rhs; simp [go_sem, *]
          have f_w9_w5_0_2 := f_w9_w5_0 2
          conv at f_w9_w5_0_2 => rhs; simp [go_sem, *]
          have c_w9_w5_0_3 := c_w9_w5_0 3
          conv at c_w9_w5_0_3 => rhs; simp [go_sem, *]
          have f_w9_w5_0_3 := f_w9_w5_0 3
          conv at f_w9_w5_0_3 => rhs; simp [go_sem, *]
          have c_w9_w5_0_4 := c_w9_w5_0 4
          conv at c_w9_w5_0_4 => rhs; simp [go_sem, *]
          have f_w9_w5_0_4 := f_w9_w5_0 4
          conv at f_w9_w5_0_4 => rhs; simp [go_sem, *]
          have c_w9_w5_0_5 := c_w9_w5_0 5
          conv at c_w9_w5_0_5 => rhs; simp [go_sem, *]
          have f_w9_w5_0_5 := f_w9_w5_0 5
          conv at f_w9_w5_0_5 => rhs; simp [go_sem, *]
          obtain ⟨c_w9_w7_0, f_w9_w7_0⟩ := bk hb_w9 (w7.heap.size) (by first | omega | (simp <;> omega))
          have c_w9_w7_0_0 := c_w9_w7_0 0
          conv at c_w9_w7_0_0 => rhs; simp [go_sem, *]
          have f_w9_w7_0_0 := f_w9_w7_0 0
          conv at f_w9_w7_0_0 => rhs; simp [go_sem, *]
          have c_w9_w7_0_1 := c_w9_w7_0 1
          conv at c_w9_w7_0_1 => rhs; simp [go_sem, *]
          have f_w9_w7_0_1 := f_w9_w7_0 1
          conv at f_w9_w7_0_1 => rhs; simp [go_sem, *]
          have c_w9_w7_0_2 := c_w9_w7_0 2
          conv at c_w9_w7_0_2 => rhs; simp [go_sem, *]
          have f_w9_w7_0_2 := f_w9_w7_0 2
          conv at f_w9_w7_0_2 => rhs; simp [go_sem, *]
          have c_w9_w7_0_3 := c_w9_w7_0 3
          conv at c_w9_w7_0_3 => rhs; simp [go_sem, *]
          have f_w9_w7_0_3 := f_w9_w7_0 3
          conv at f_w9_w7_0_3 => rhs; simp [go_sem, *]
          have c_w9_w7_0_4 := c_w9_w7_0 4
          conv at c_w9_w7_0_4 => rhs; simp [go_sem, *]
          have f_w9_w7_0_4 := f_w9_w7_0 4
          conv at f_w9_w7_0_4 => rhs; simp [go_sem, *]
          have c_w9_w7_0_5 := c_w9_w7_0 5
          conv at c_w9_w7_0_5 => rhs; simp [go_sem, *]
          have f_w9_w7_0_5 := f_w9_w7_0 5
          conv at f_w9_w7_0_5 => rhs; simp [go_sem, *]
          obtain ⟨c_w9_w8_0, f_w9_w8_0⟩ := bk hb_w9 (w8.heap.size) (by first | omega | (simp <;> omega))
          have c_w9_w8_0_0 := c_w9_w8_0 0
          conv at c_w9_w8_0_0 => rhs; simp [go_sem, *]
          have f_w9_w8_0_0 := f_w9_w8_0 0
          conv at f_w9_w8_0_0 => rhs; simp [go_sem, *]
          have c_w9_w8_0_1 := c_w9_w8_0 1
          conv at c_w9_w8_0_1 => rhs; simp [go_sem, *]
          have f_w9_w8_0_1 := f_w9_w8_0 1
          conv at f_w9_w8_0_1 => rhs; simp [go_sem, *]
          have c_w9_w8_0_2 := c_w9_w8_0 2
          conv at c_w9_w8_0_2 => rhs; simp [go_sem, *]
          have f_w9_w8_0_2 := f_w9_w8_0 2
          conv at f_w9_w8_0_2 => rhs; simp [go_sem, *]
          have c_w9_w8_0_3 := c_w9_w8_0 3
          conv at c_w9_w8_0_3 => rhs; simp [go_sem, *]
          have f_w9_w8_0_3 := f_w9_w8_0 3
          conv at f_w9_w8_0_3 => rhs; simp [go_sem, *]
          have c_w9_w8_0_4 := c_w9_w8_0 4
          conv at c_w9_w8_0_4 => rhs; simp [go_sem, *]
          have f_w9_w8_0_4 := f_w9_w8_0 4
          conv at f_w9_w8_0_4 => rhs; simp [go_sem, *]
          have c_w9_w8_0_5 := c_w9_w8_0 5
          conv at c_w9_w8_0_5 => rhs; simp [go_sem, *]
          have f_w9_w8_0_5 := f_w9_w8_0 5
          conv at f_w9_w8_0_5 => rhs; simp [go_sem, *]
          have hB_w9 : Below w.heap.size w w9 := Below.trans (by (repeat (first | (with_reducible exact Below.refl _ _) | (with_reducible assumption) | (with_reducible refine Below.drew ?_) | (focus ((with_reducible refine Below.setCell ?_ ?_ _); rotate_left; (first | omega | (simp <;> omega)))) | (focus ((with_reducible refine Below.alloc ?_ ?_ _); rotate_left; (first | omega | (simp <;> omega)))) | exact Below.refl _ _ | assumption | refine Below.drew ?_ | refine Below.alloc ?_ (by first | omega | (simp <;> omega)) _ | refine Below.setCell ?_ (by first | omega | (simp <;> omega)) _))) (hb_w9.mono (by first | omega | (simp <;> omega)))
          clear hb_w9 c_w9_w_1 f_w9_w_1 c_w9_w5_0 f_w9_w5_0 c_w9_w7_0 f_w9_w7_0 c_w9_w8_0 f_w9_w8_0
          try clear c_w8_w_1_0
          try clear f_w8_w_1_0
          try clear c_w8_w_1_1
          try clear f_w8_w_1_1
          try clear c_w8_w_1_2
          try clear f_w8_w_1_2
          try clear c_w8_w_1_3
          try clear f_w8_w_1_3
          try clear c_w8_w_1_4
          try clear f_w8_w_1_4
          try clear c_w8_w_1_5
          try clear f_w8_w_1_5
          try clear c_w8_w_2_0
          try clear f_w8_w_2_0
          try clear c_w8_w_2_1
          try clear f_w8_w_2_1
          try clear c_w8_w_2_2
          try clear f_w8_w_2_2
          try clear c_w8_w_2_3
          try clear f_w8_w_2_3
          try clear c_w8_w_2_4
          try clear f_w8_w_2_4
          try clear c_w8_w_2_5
          try clear f_w8_w_2_5
          try clear c_w8_w5_0_0
          try clear f_w8_w5_0_0
          try clear c_w8_w5_0_1
          try clear f_w8_w5_0_1
          try clear c_w8_w5_0_2
          try clear f_w8_w5_0_2
          try clear c_w8_w5_0_3
          try clear f_w8_w5_0_3
          try clear c_w8_w5_0_4
          try clear f_w8_w5_0_4
          try clear c_w8_w5_0_5
          try clear f_w8_w5_0_5
          try clear c_w8_w7_0_0
          try clear f_w8_w7_0_0
          try clear c_w8_w7_0_1
          try clear f_w8_w7_0_1
          try clear c_w8_w7_0_2
          try clear f_w8_w7_0_2
          try clear c_w8_w7_0_3
          try clear f_w8_w7_0_3
          try clear c_w8_w7_0_4
          try clear f_w8_w7_0_4
          try clear c_w8_w7_0_5
          try clear f_w8_w7_0_5
          try clear far_w8_w_1
          try clear far_w8_w_2
          try clear far_w8_w5_0
          try clear far_w8_w7_0
          try clear hB_w8
          have far_w9_w_1 := far (show w.heap.size + 1 < w9.heap.size by omega)
          have far_w9_w5_0 := far (show w5.heap.size < w9.heap.size by omega)
          have far_w9_w7_0 := far (show w7.heap.size < w9.heap.size by omega)
          have far_w9_w8_0 := far (show w8.heap.size < w9.heap.size by omega)
          go_wp2_with fail
          refine Calls.mono (clean_alive _) ?_
          rintro e w10 ⟨rfl, hb_w10⟩
          have hz_w10 := hb_w10.size
          try simp at hz_w10
          obtain ⟨c_w10_w_1, f_w10_w_1⟩ := bk hb_w10 (w.heap.size + 1) (by first | omega | (simp <;> omega))
          have c_w10_w_1_0 := c_w10_w_1 0
          conv at c_w10_w_1_0 => rhs; simp [go_sem, *]
          have f_w10_w_1_0 := f_w10_w_1 0
          conv at f_w10_w_1_0 => rhs; simp [go_sem, *]
          have c_w10_w_1_1 := c_w10_w_1 1
          conv at c_w10_w_1_1 => rhs; simp [go_sem, *]
          have f_w10_w_1_1 := f_w10_w_1 1
          conv at f_w10_w_1_1 => rhs; simp [go_sem, *]
          have c_w10_w_1_2 := c_w10_w_1 2
          conv at c_w10_w_1_2 => rhs; simp [go_sem, *]
          have f_w10_w_1_2 := f_w10_w_1 2
          conv at f_w10_w_1_2 => rhs; simp [go_sem, *]
          have c_w10_w_1_3 := c_w10_w_1 3
          conv at c_w10_w_1_3 => rhs; simp [go_sem, *]
          have f_w10_w_1_3 := f_w10_w_1 3
          conv at f_w10_w_1_3 => rhs; simp [go_sem, *]
          have c_w10_w_1_4 := c_w10_w_1 4
          conv at c_w10_w_1_4 => rhs; simp [go_sem, *]
          have f_w10_w_1_4 := f_w10_w_1 4
          conv at f_w10_w_1_4 => rhs; simp [go_sem, *]
          have c_w10_w_1_5 := c_w10_w_1 5
          conv at c_w10_w_1_5 => rhs; simp [go_sem, *]
          have f_w10_w_1_5 := f_w10_w_1 5
          conv at f_w10_w_1_5 => rhs; simp [go_sem, *]
          obtain ⟨c_w10_w5_0, f_w10_w5_0⟩ := bk hb_w10 (w5.heap.size) (by first | omega | (simp <;> omega))
          have c_w10_w5_0_0 := c_w10_w5_0 0
          conv at c_w10_w5_0_0 => rhs; simp [go_sem, *]
          have f_w10_w5_0_0 := f_w10_w5_0 0
          conv at f_w10_w5_0_0 => rhs; simp [go_sem, *]
          have c_w10_w5_0_1 := c_w10_w5_0 1
          conv at c_w10_w5_0_1 => rhs; simp [go_sem, *]
          have f_w10_w5_0_1 := f_w10_w5_0 1
          conv at f_w10_w5_0_1 => rhs; simp [go_sem, *]
          have c_w10_w5_0_2 := c_w10_w5_0 2
          conv at c_w10_w5_0_2 => rhs; simp [go_sem, *]
          have f_w10_w5_0_2 := f_w10_w5_0 2
          conv at f_w10_w5_0_2 => rhs; simp [go_sem, *]
          have c_w10_w5_0_3 := c_w10_w5_0 3
          conv at c_w10_w5_0_3 => rhs; simp [go_sem, *]
          have f_w10_w5_0_3 := f_w10_w5_0 3
          conv at f_w10_w5_0_3 => rhs; simp [go_sem, *]
          have c_w10_w5_0_4 := c_w10_w5_0 4
          conv at c_w10_w5_0_4 => rhs; simp [go_sem, *]
          have f_w10_w5_0_4 := f_w10_w5_0 4
          conv at f_w10_w5_0_4 => rhs; simp [go_sem, *]
          have c_w10_w5_0_5 := c_w10_w5_0 5
          conv at c_w10_w5_0_5 => rhs; simp [go_sem, *]
          have f_w10_w5_0_5 := f_w10_w5_0 5
          conv at f_w10_w5_0_5 => rhs; simp [go_sem, *]
          obtain ⟨c_w10_w7_0, f_w10_w7_0⟩ := bk hb_w10 (w7.heap.size) (by first | omega | (simp <;> omega))
          have c_w10_w7_0_0 := c_w10_w7_0 0
          conv at c_w10_w7_0_0 => rhs; simp [go_sem, *]
          have f_w10_w7_0_0 := f_w10_w7_0 0
          conv at f_w10_w7_0_0 => rhs; simp [go_sem, *]
          have c_w10_w7_0_1 := c_w10_w7_0 1
          conv at c_w10_w7_0_1 => rhs; simp [go_sem, *]
          have f_w10_w7_0_1 := f_w10_w7_0 1
          conv at f_w10_w7_0_1 => rhs; simp [go_sem, *]
          have c_w10_w7_0_2 := c_w10_w7_0 2
          conv at c_w10_w7_0_2 => rhs; simp [go_sem, *]
          have f_w10_w7_0_2 := f_w10_w7_0 2
          conv at f_w10_w7_0_2 => rhs; simp [go_sem, *]
          have c_w10_w7_0_3 := c_w10_w7_0 3
          conv at c_w10_w7_0_3 => rhs; simp [go_sem, *]
          have f_w10_w7_0_3 := f_w10_w7_0 3
          conv at f_w10_w7_0_3 => rhs; simp [go_sem, *]
          have c_w10_w7_0_4 := c_w10_w7_0 4
          conv at c_w10_w7_0_4 => rhs; simp [go_sem, *]
          have f_w10_w7_0_4 := f_w10_w7_0 4
          conv at f_w10_w7_0_4 => rhs; simp [go_sem, *]
          have c_w10_w7_0_5 := c_w10_w7_0 5
          conv at c_w10_w7_0_5 => rhs; simp [go_sem, *]
          have f_w10_w7_0_5 := f_w10_w7_0 5
          conv at f_w10_w7_0_5 => rhs; simp [go_sem, *]
          obtain ⟨c_w10_w8_0, f_w10_w8_0⟩ := bk hb_w10 (w8.heap.size) (by first | omega | (simp <;> omega))
          have c_w10_w8_0_0 := c_w10_w8_0 0
          conv at c_w10_w8_0_0 => rhs; simp [go_sem, *]
          have f_w10_w8_0_0 := f_w10_w8_0 0
          conv at f_w10_w8_0_0 => rhs; simp [go_sem, *]
          have c_w10_w8_0_1 := c_w10_w8_0 1
          conv at c_w10_w8_0_1 => rhs; simp [go_sem, *]
          have f_w10_w8_0_1 := f_w10_w8_0 1
          conv at f_w10_w8_0_1 => rhs; simp [go_sem, *]
          have c_w10_w8_0_2 := c_w10_w8_0 2
          conv at c_w10_w8_0_2 => rhs; simp [go_sem, *]
          have f_w10_w8_0_2 := f_w10_w8_0 2
          conv at f_w10_w8_0_2 => rhs; simp [go_sem, *]
          have c_w10_w8_0_3 := c_w10_w8_0 3
          conv at c_w10_w8_0_3 => rhs; simp [go_sem, *]
          have f_w10_w8_0_3 := f_w10_w8_0 3
          conv at f_w10_w8_0_3 => rhs; simp [go_sem, *]
          have c_w10_w8_0_4 := c_w10_w8_0 4
          conv at c_w10_w8_0_4 => rhs; simp [go_sem, *]
          have f_w10_w8_0_4 := f_w10_w8_0 4
          conv at f_w10_w8_0_4 => rhs; simp [go_sem, *]
          have c_w10_w8_0_5 := c_w10_w8_0 5
          conv at c_w10_w8_0_5 => rhs; simp [go_sem, *]
          have f_w10_w8_0_5 := f_w10_w8_0 5
          conv at f_w10_w8_0_5 => rhs; simp [go_sem, *]
          have hB_w10 : Below w.heap.size w w10 := Below.trans (by (repeat (first | (with_reducible exact Below.refl _ _) | (with_reducible assumption) | (with_reducible refine Below.drew ?_) | (focus ((with_reducible refine Below.setCell ?_ ?_ _); rotate_left; (first | omega | (simp <;> omega)))) | (focus ((with_reducible refine Below.alloc ?_ ?_ _); rotate_left; (first | omega | (simp <;> omega)))) | exact Below.refl _ _ | assumption | refine Below.drew ?_ | refine Below.alloc ?_ (by first | omega | (simp <;> omega)) _ | refine Below.setCell ?_ (by first | omega | (simp <;> omega)) _))) (hb_w10.mono (by first | omega | (simp <;> omega)))
          clear hb_w10 c_w10_w_1 f_w10_w_1 c_w10_w5_0 f_w10_w5_0 c_w10_w7_0 f_w10_w7_0 c_w10_w8_0 f_w10_w8_0
          try clear c_w9_w_1_0
          try clear f_w9_w_1_0
          try clear c_w9_w_1_1
          try clear f_w9_w_1_1
          try clear c_w9_w_1_2
          try clear f_w9_w_1_2
          try clear c_w9_w_1_3
          try clear f_w9_w_1_3
          try clear c_w9_w_1_4
          try clear f_w9_w_1_4
          try clear c_w9_w_1_5
          try clear f_w9_w_1_5
          try clear c_w9_w5_0_0
          try clear f_w9_w5_0_0
          try clear c_w9_w5_0_1
          try clear f_w9_w5_0_1
          try clear c_w9_w5_0_2
          try clear f_w9_w5_0_2
          try clear c_w9_w5_0_3
          try clear f_w9_w5_0_3
          try clear c_w9_w5_0_4
          try clear f_w9_w5_0_4
          try clear c_w9_w5_0_5
          try clear f_w9_w5_0_5
          try clear c_w9_w7_0_0
          try clear f_w9_w7_0_0
          try clear c_w9_w7_0_1
          try clear f_w9_w7_0_1
          try clear c_w9_w7_0_2
          try clear f_w9_w7_0_2
          try clear c_w9_w7_0_3
          try clear f_w9_w7_0_3
          try clear c_w9_w7_0_4
          try clear f_w9_w7_0_4
          try clear c_w9_w7_0_5
          try clear f_w9_w7_0_5
          try clear c_w9_w8_0_0
          try clear f_w9_w8_0_0
          try clear c_w9_w8_0_1
          try clear f_w9_w8_0_1
          try clear c_w9_w8_0_2
          try clear f_w9_w8_0_2
          try clear c_w9_w8_0_3
          try clear f_w9_w8_0_3
          try clear c_w9_w8_0_4
          try clear f_w9_w8_0_4
          try clear c_w9_w8_0_5
          try clear f_w9_w8_0_5
          try clear far_w9_w_1
          try clear far_w9_w5_0
          try clear far_w9_w7_0
          try clear far_w9_w8_0
          try clear hB_w9
          have far_w10_w_1 := far (show w.heap.size + 1 < w10.heap.size by omega)
          have far_w10_w5_0 := far (show w5.heap.size < w10.heap.size by omega)
          have far_w10_w7_0 := far (show w7.heap.size < w10.heap.size by omega)
          have far_w10_w8_0 := far (show w8.heap.size < w10.heap.size by omega)
          by_cases hzp : zp = []
          · have hz1 : (zp == []) = true := by simpa using hzp
            go_wp2
            go_ret
            refine ⟨ret_bool (by simp), ?_⟩
            (repeat (first | (with_reducible exact Below.refl _ _) | (with_reducible assumption) | (with_reducible refine Below.drew ?_) | (focus ((with_reducible refine Below.setCell ?_ ?_ _); rotate_left; (first | omega | (simp <;> omega)))) | (focus ((with_reducible refine Below.alloc ?_ ?_ _); rotate_left; (first | omega | (simp <;> omega)))) | exact Below.refl _ _ | assumption | refine Below.drew ?_ | refine Below.alloc ?_ (by first | omega | (simp <;> omega)) _ | refine Below.setCell ?_ (by first | omega | (simp <;> omega)) _))
          · have hz1 : (zp == []) = false := by simpa using hzp
            have hcr := HG.out hzp
            try simp only at hcr
            go_wp2
            go_ret
            refine ⟨ret_bool (by simp), ?_⟩
            (repeat (first | (with_reducible exact Below.refl _ _) | (with_reducible assumption) | (with_reducible refine Below.drew ?_) | (focus ((with_reducible refine Below.setCell ?_ ?_ _); rotate_left; (first | omega | (simp <;> omega)))) | (focus ((with_reducible refine Below.alloc ?_ ?_ _); rotate_left; (first | omega | (simp <;> omega)))) | exact Below.refl _ _ | assumption | refine Below.drew ?_ | refine Below.alloc ?_ (by first | omega | (simp <;> omega)) _ | refine Below.setCell ?_ (by first | omega | (simp <;> omega)) _))
    · obtain h1 := RB.out hre
      obtain ⟨rfl, rfl, rfl, rfl, rfl, rfl⟩ := UU.mk.inj h1
      clear h1
      go_wp2_with fail
      refine Calls.mono (clean_alive _) ?_
      rintro e w6 ⟨rfl, hb_w6⟩
      have hz_w6 := hb_w6.size
      try simp at hz_w6
      obtain ⟨c_w6_w5_0, f_w6_w5_0⟩ := bk hb_w6 (w5.heap.size) (by first | omega | (simp <;> omega))
      have c_w6_w5_0_0 := c_w6_w5_0 0
      conv at c_w6_w5_0_0 => rhs; simp [go_sem, *]
      have f_w6_w5_0_0 := f_w6_w5_0 0
      conv at f_w6_w5_0_0 => rhs; simp [go_sem, *]
      have c_w6_w5_0_1 := c_w6_w5_0 1
      conv at c_w6_w5_0_1 => rhs; simp [go_sem, *]
      have f_w6_w5_0_1 := f_w6_w5_0 1
      conv at f_w6_w5_0_1 => rhs; simp [go_sem, *]
      have c_w6_w5_0_2 := c_w6_w5_0 2
      conv at c_w6_w5_0_2 => rhs; simp [go_sem, *]
      have f_w6_w5_0_2 := f_w6_w5_0 2
      conv at f_w6_w5_0_2 => rhs; simp [go_sem, *]
      have c_w6_w5_0_3 := c_w6_w5_0 3
      conv at c_w6_w5_0_3 => rhs; simp [go_sem, *]
      have f_w6_w5_0_3 := f_w6_w5_0 3
      conv at f_w6_w5_0_3 => rhs; simp [go_sem, *]
      have c_w6_w5_0_4 := c_w6_w5_0 4
      conv at c_w6_w5_0_4 => rhs; simp [go_sem, *]
      have f_w6_w5_0_4 := f_w6_w5_0 4
      conv at f_w6_w5_0_4 => rhs; simp [go_sem, *]
      have c_w6_w5_0_5 := c_w6_w5_0 5
      conv at c_w6_w5_0_5 => rhs; simp [go_sem, *]
      have f_w6_w5_0_5 := f_w6_w5_0 5
      conv at f_w6_w5_0_5 => rhs; simp [go_sem, *]
      have hB_w6 : Below w.heap.size w w6 := Below.trans (by (repeat (first | (with_reducible exact Below.refl _ _) | (with_reducible assumption) | (with_reducible refine Below.drew ?_) | (focus ((with_reducible refine Below.setCell ?_ ?_ _); rotate_left; (first | omega | (simp <;> omega)))) | (focus ((with_reducible refine Below.alloc ?_ ?_ _); rotate_left; (first | omega | (simp <;> omega)))) | exact Below.refl _ _ | assumption | refine Below.drew ?_ | refine Below.alloc ?_ (by first | omega | (simp <;> omega)) _ | refine Below.setCell ?_ (by first | omega | (simp <;> omega)) _))) (hb_w6.mono (by first | omega | (simp <;> omega)))
      clear hb_w6 c_w6_w5_0 f_w6_w5_0
      try clear c_w10_w_1_0
      try clear f_w10_w_1_0
      try clear c_w10_w_1_1
      try clear f_w10_w_1_1
      try clear c_w10_w_1_2
      try clear f_w10_w_1_2
      try clear c_w10_w_1_3
      try clear f_w10_w_1_3
      try clear c_w10_w_1_4
      try clear f_w10_w_1_4
      try clear c_w10_w_1_5
      try clear f_w10_w_1_5
      try clear c_w10_w5_0_0
      try clear f_w10_w5_0_0
      try clear c_w10_w5_0_1
      try clear f_w10_w5_0_1
      try clear c_w10_w5_0_2
      try clear f_w10_w5_0_2
      try clear c_w10_w5_0_3
      try clear f_w10_w5_0_3
      try clear c_w10_w5_0_4
      try clear f_w10_w5_0_4
      try clear c_w10_w5_0_5
      try clear f_w10_w5_0_5
      try clear c_w10_w7_0_0
      try clear f_w10_w7_0_0
      try clear c_w10_w7_0_1
      try clear f_w10_w7_0_1
      try clear c_w10_w7_0_2
      try clear f_w10_w7_0_2
      try clear c_w10_w7_0_3
      try clear f_w10_w7_0_3
      try clear c_w10_w7_0_4
      try clear f_w10_w7_0_4
      try clear c_w10_w7_0_5
      try clear f_w10_w7_0_5
      try clear c_w10_w8_0_0
      try clear f_w10_w8_0_0
      try clear c_w10_w8_0_1
      try clear f_w10_w8_0_1
      try clear c_w10_w8_0_2
      try clear f_w10_w8_0_2
      try clear c_w10_w8_0_3
      try clear f_w10_w8_0_3
      try clear c_w10_w8_0_4
      try clear f_w10_w8_0_4
      try clear c_w10_w8_0_5
      try clear f_w10_w8_0_5
      try clear far_w10_w_1
      try clear far_w10_w5_0
      try clear far_w10_w7_0
      try clear far_w10_w8_0
      try clear hB_w10
      have far_w6_w5_0 := far (show w5.heap.size < w6.heap.size by omega)
      go_wp2
      go_ret
      refine ⟨ret_bool (by simp), ?_⟩
      (repeat (first | (with_reducible exact Below.refl _ _) | (with_reducible assumption) | (with_reducible refine Below.drew ?_) | (focus ((with_reducible refine Below.setCell ?_ ?_ _); rotate_left; (first | omega | (simp <;> omega)))) | (focus ((with_reducible refine Below.alloc ?_ ?_ _); rotate_left; (first | omega | (simp <;> omega)))) | exact Below.refl _ _ | assumption | refine Below.drew ?_ | refine Below.alloc ?_ (by first | omega | (simp <;> omega)) _ | refine Below.setCell ?_ (by first | omega | (simp <;> omega)) _))

end Go.Proofs.YtcjekdoooekmlaaDoor
