/- The law VarsValues where the arguments are of a bound bulk: its walk. -/
import Derived.Test.YtenflcaalckdfaaGreatDoorVv29
import Derived.Test.YtenflcaalckdfaaGreatDoorVv41
import Derived.Test.YtenflcaalckdfaaGreatDoorVv44
import Derived.Test.YtenflcaalckdfaaGreatDoorVv46
namespace Go.Proofs.YtenflcaalckdfaaGreatDoor
open Go Go.RowKit Go.Sort Go.Shelf
set_option linter.unusedVariables false
set_option linter.unusedSimpArgs false

theorem reads_inB {w : World} {v : Value} {L : List (List Value)} (hv : RowsIn w 2 v L ∧ ∀ c ∈ L, AllBk [.str, .str] c) : ∃ xs : List FldT, ReadsFT w v xs ∧ ∀ f ∈ xs, f.1.length ≤ 1048576 ∧ f.2.length ≤ 1048576 := by
  obtain ⟨hrow, hsh⟩ := hv
  obtain ⟨xs, rfl, hxs⟩ := decode fcellsT (R := fun f : FldT => f.1.length ≤ 1048576 ∧ f.2.length ≤ 1048576) (fun c h => by
    obtain ⟨_, _, rfl, ⟨s, rfl, hs⟩, _, _, rfl, ⟨t, rfl, ht⟩, rfl⟩ := h
    obtain ⟨l, rfl⟩ := S_of s
    obtain ⟨m, rfl⟩ := S_of t
    exact ⟨(l, m), rfl, by rw [S_size] at hs; exact hs, by rw [S_size] at ht; exact ht⟩) L hsh
  obtain ⟨a, len, cap, rfl, hl, hm, hlen, ⟨_, hno⟩, hcell⟩ := hrow
  rw [List.length_map] at hlen
  subst hlen
  refine ⟨xs, ⟨a, cap, rfl, hl, hm, hno, fun h0 => ?_⟩, hxs⟩
  obtain ⟨b, off, e1, e2, e3⟩ := hcell h0 (by omega)
  refine ⟨b, off, e1, e2, fun j hj => ?_⟩
  have h0 := e3 j 0 hj (by omega)
  have h1 := e3 j 1 hj (by omega)
  rw [Nat.add_zero] at h0
  rw [h0, Nat.add_assoc, h1]
  simp [List.getD, hj, fcellsT]
theorem takeFT {W : World} {ao : Option Addr} {cap : Nat} {L : List FldT} (h : ReadsFT W (.slice ao L.length cap) L) {q : Nat} (hq : q ≤ L.length) : ReadsFT W (.slice ao (L.take q).length cap) (L.take q) := by
  obtain ⟨ao', cap', e1, e2, e3, e4, e5⟩ := h
  injection e1 with e6 e7 e8
  subst e6
  subst e8
  have hl : (L.take q).length = q := by simp; omega
  refine ⟨ao, cap, rfl, by omega, e3, e4, fun h0 => ?_⟩
  obtain ⟨b, off, f1, f2, f3⟩ := e5 (by omega)
  exact ⟨b, off, f1, f2, fun j hj => by rw [List.getElem_take]; exact f3 j (by omega)⟩
theorem ReadsFT.set {W : World} {v : Value} {L : List FldT} (h : ReadsFT W v L) {g j : Nat} {u : Value} (hk : ∀ k, v.ownBlock = some k → k ≠ g) : ReadsFT (W.setCell ⟨g, j, none⟩ u) v L := by
  obtain ⟨ao, cap, rfl, e2, e3, e4, e5⟩ := h
  refine ⟨ao, cap, rfl, e2, e3, e4, fun h0 => ?_⟩
  obtain ⟨b, off, rfl, f2, f3⟩ := e5 h0
  have hne : b ≠ g := hk b rfl
  refine ⟨b, off, rfl, by simpa using f2, fun i hi => ?_⟩
  obtain ⟨c1, c2⟩ := f3 i hi
  refine ⟨?_, ?_⟩
  · rw [World.cell?_setCell_other _ _ _ _ (by simp [Ne.symm hne, hne])]; exact c1
  · rw [World.cell?_setCell_other _ _ _ _ (by simp [Ne.symm hne, hne])]; exact c2
theorem OwnsFT.made' (W : World) (B g : Nat) (hg : W.heap.size = g) (hB : B ≤ g) : OwnsFT (W.alloc (.cells #[] 94)) B (.slice (some ⟨g, 0, none⟩) 0 0) [] := by
  subst hg
  exact OwnsFT.made W B hB
theorem minTake (K : Nat) (n : Nat) : ∃ m : Nat, min (n : Int) K = m ∧ m ≤ n ∧ m ≤ K := ⟨min n K, by omega, by omega, by omega⟩
theorem val_noneV {e : En} {n k v : List UInt8} (h : valV e n k = (v, false)) : v = [] := by
  have so : ∀ {s : List UInt8}, someV s = (v, false) → v = [] := fun {s} h => by
    unfold someV at h
    obtain ⟨rfl, h2⟩ := Prod.mk.inj h
    simpa using h2
  have on : ∀ {s : List UInt8}, onlyV s k = (v, false) → v = [] := fun {s} h => by
    unfold onlyV at h
    split at h
    · exact so h
    · exact (Prod.mk.inj h).1.symm
  have ke : ∀ {s : List UInt8} {kv : List UInt8 × Bool}, (kv = (v, false) → v = []) → keyedV s k kv = (v, false) → v = [] := fun {s kv} hk h => by
    unfold keyedV at h
    split at h
    · exact so h
    · exact hk h
  have fi : ∀ {L : List Fld}, findV L k = (v, false) → v = [] := fun {L} h => by
    unfold findV at h
    split at h
    · exact absurd (Prod.mk.inj h).2 (by simp)
    · exact (Prod.mk.inj h).1.symm
  have la : ∀ {s : List UInt8}, langV s k = (v, false) → v = [] := fun {s} h => by
    unfold langV at h
    split at h
    · exact absurd (Prod.mk.inj h).2 (by simp)
    · exact absurd (Prod.mk.inj h).2 (by simp)
  unfold valV at h
  split at h
  · exact on h
  · split at h
    · exact on h
    · split at h
      · exact ke so h
      · split at h
        · exact ke fi h
        · split at h
          · exact ke fi h
          · split at h
            · exact ke la h
            · exact (Prod.mk.inj h).1.symm

set_option maxHeartbeats 6400000 in
set_option maxRecDepth 100000 in
theorem vvTrue (m0 t0 r0 bo l0 l1 l2 l3 l4 l5 nm k0 : List UInt8) (a2 a4 : Int) (fo : Option Addr) (fcap : Nat) (ys : List FldT) (w : World) (i1 : t0.length ≤ 1048576) (hf0 : ReadsFT w (.slice fo ys.length fcap) ys) (hyl : ∀ f ∈ ys, f.1.length ≤ 1048576 ∧ f.2.length ≤ 1048576) (hfc1 : ys.length ≤ fcap) (hfc2 : fcap ≤ 9223372036854775807)
    (h0 : l0.length ≤ 9223372036854775807) (h1 : l1.length ≤ 9223372036854775807) (h2 : l2.length ≤ 9223372036854775807) (h3 : l3.length ≤ 9223372036854775807) (h4 : l4.length ≤ 9223372036854775807) (h5 : l5.length ≤ 9223372036854775807) (hc : nm.length ≤ 9223372036854775807) (hd : k0.length ≤ 9223372036854775807) (hM : ∃ m, w.cell? ⟨0, 0, none⟩ = some (.int .i64 m))
    (hx : (valV (En.cut ⟨l0, l1, l2, l3, l4, l5⟩) nm (k0.take 600)).2 = true) :
    Calls Tryz.prog 4 #[.agg #[.string (S m0), .string (S t0), .int .i64 a2, .string (S r0), .int .i64 a4, .slice fo ys.length fcap, .string (S bo)], .agg #[.string (S l0), .string (S l1), .string (S l2), .string (S l3), .string (S l4), .string (S l5)], .string (S nm), .string (S k0)] w fun x w' => x = .returned (.bool true) ∧ Below w.heap.size w w' := by
  have FE := Lib.hid (fun W => vars_few ⟨l0, l1, l2, l3, l4, l5⟩ ⟨h0, h1, h2, h3, h4, h5⟩ W)
  have hcf := En.cut_few ⟨l0, l1, l2, l3, l4, l5⟩
  obtain ⟨e, he⟩ : ∃ e, En.cut ⟨l0, l1, l2, l3, l4, l5⟩ = e := ⟨_, rfl⟩
  rw [he] at FE hcf hx
  have SH := Lib.hid (fun W => vars_short k0 hd W)
  obtain ⟨k, hk⟩ : ∃ k, k0.take 600 = k := ⟨_, rfl⟩
  have hkl : k.length ≤ 600 := by rw [← hk, List.length_take]; omega
  rw [hk] at SH hx
  obtain ⟨⟨v, x⟩, hvx⟩ : ∃ z, valV e nm k = z := ⟨_, rfl⟩
  have VA := Lib.hid (fun W (hb : Below w.heap.size w W) => varsValue e hcf nm k hc (by omega) W (ML.later hM (GG.of_below hb)))
  have DV := Lib.hid (fun W => docValue e hcf nm k (by omega) W)
  have AL := Lib.hid (fun W (hb : Below w.heap.size w W) => vars_alive W (ML.later hM (GG.of_below hb)))
  rw [hvx] at hx VA DV
  obtain rfl : x = true := hx
  have HVN := Lib.hid (fun (h : true = false) => val_noneV (e := e) (n := nm) (k := k) (v := v) (by rw [hvx, h]))
  unfold pairV at VA DV
  obtain ⟨q, hq, hql, hq6⟩ := minTake 600 t0.length
  obtain ⟨p, hp, hpl, hp4⟩ := minTake 45 ys.length
  simp only [Int.cast_ofNat_Int] at hq hp
  have HTF := Lib.hid (takeFT hf0 hpl)
  obtain ⟨t, ht⟩ : ∃ t, t0.take q = t := ⟨_, rfl⟩
  have htl : t.length ≤ 600 := by rw [← ht, List.length_take]; omega
  obtain ⟨F, hF⟩ : ∃ F, ys.take p = F := ⟨_, rfl⟩
  have hFl : F.length = p := by rw [← hF, List.length_take]; omega
  subst hFl
  have hFs : ∀ f ∈ F, f.1.length ≤ 1048576 ∧ f.2.length ≤ 1048576 := fun f hf => hyl f (List.mem_of_mem_take (by rw [hF]; exact hf))
  rw [hF] at HTF
  have OF := Lib.hid (fun ao cap W hr => varsOf m0 t r0 bo a2 a4 ao cap F W hr (fun f hf => by have := hFs f hf; unfold SmallT; omega) (fun f hf => (hFs f hf).2) (by omega) (by omega))
  have DO := Lib.hid (fun ao cap W hr => docOf m0 t r0 bo a2 a4 ao cap F W hr (fun f hf => by have := hFs f hf; unfold SmallT; omega) (fun f hf => (hFs f hf).2) (by omega) (by omega))
  obtain ⟨E, hE⟩ : ∃ E, ofE t F = E := ⟨_, rfl⟩
  rw [hE] at OF DO
  obtain ⟨f0, f1, f2, f3, f4, f5⟩ := e
  obtain ⟨e0, e1, e2, e3, e4, e5⟩ := E
  unfold En.v at *
  simp only at FE VA DV OF DO
  clear he hcf hM h0 h1 h2 h3 h4 h5 hc hd hk hvx hyl hf0 hFs hF hE
  clear HVN
  go_enter Tryz.func4, Tryz.ntmps4
  go_wp2_with fail
  refine Calls.mono (FE.out _) ?_
  rintro e w1 ⟨rfl, hb_w1⟩
  have hz_w1 := hb_w1.size
  try simp at hz_w1
  obtain ⟨c1__0, f1__0⟩ := bk hb_w1 (w.heap.size) (by first | omega | (simp <;> omega))
  have c1__0_0 := c1__0 0; conv at c1__0_0 => rhs; simp [go_sem, *]
  have f1__0_0 := f1__0 0; conv at f1__0_0 => rhs; simp [go_sem, *]
  have c1__0_1 := c1__0 1; conv at c1__0_1 => rhs; simp [go_sem, *]
  have f1__0_1 := f1__0 1; conv at f1__0_1 => rhs; simp [go_sem, *]
  have c1__0_2 := c1__0 2; conv at c1__0_2 => rhs; simp [go_sem, *]
  have f1__0_2 := f1__0 2; conv at f1__0_2 => rhs; simp [go_sem, *]
  have c1__0_3 := c1__0 3; conv at c1__0_3 => rhs; simp [go_sem, *]
  have f1__0_3 := f1__0 3; conv at f1__0_3 => rhs; simp [go_sem, *]
  have c1__0_4 := c1__0 4; conv at c1__0_4 => rhs; simp [go_sem, *]
  have f1__0_4 := f1__0 4; conv at f1__0_4 => rhs; simp [go_sem, *]
  have c1__0_5 := c1__0 5; conv at c1__0_5 => rhs; simp [go_sem, *]
  have f1__0_5 := f1__0 5; conv at f1__0_5 => rhs; simp [go_sem, *]
  have c1__0_6 := c1__0 6; conv at c1__0_6 => rhs; simp [go_sem, *]
  have f1__0_6 := f1__0 6; conv at f1__0_6 => rhs; simp [go_sem, *]
  obtain ⟨c1__1, f1__1⟩ := bk hb_w1 (w.heap.size + 1) (by first | omega | (simp <;> omega))
  have c1__1_0 := c1__1 0; conv at c1__1_0 => rhs; simp [go_sem, *]
  have f1__1_0 := f1__1 0; conv at f1__1_0 => rhs; simp [go_sem, *]
  have c1__1_1 := c1__1 1; conv at c1__1_1 => rhs; simp [go_sem, *]
  have f1__1_1 := f1__1 1; conv at f1__1_1 => rhs; simp [go_sem, *]
  have c1__1_2 := c1__1 2; conv at c1__1_2 => rhs; simp [go_sem, *]
  have f1__1_2 := f1__1 2; conv at f1__1_2 => rhs; simp [go_sem, *]
  have c1__1_3 := c1__1 3; conv at c1__1_3 => rhs; simp [go_sem, *]
  have f1__1_3 := f1__1 3; conv at f1__1_3 => rhs; simp [go_sem, *]
  have c1__1_4 := c1__1 4; conv at c1__1_4 => rhs; simp [go_sem, *]
  have f1__1_4 := f1__1 4; conv at f1__1_4 => rhs; simp [go_sem, *]
  have c1__1_5 := c1__1 5; conv at c1__1_5 => rhs; simp [go_sem, *]
  have f1__1_5 := f1__1 5; conv at f1__1_5 => rhs; simp [go_sem, *]
  have HH_w1 := Lib.hid hb_w1
  have hB_w1 : Below w.heap.size w w1 := Below.trans (by (repeat (first | (with_reducible exact Below.refl _ _) | (with_reducible assumption) | (with_reducible refine Below.drew ?_) | (focus ((with_reducible refine Below.setCell ?_ ?_ _); rotate_left; (first | omega | (simp <;> omega)))) | (focus ((with_reducible refine Below.alloc ?_ ?_ _); rotate_left; (first | omega | (simp <;> omega)))) | exact Below.refl _ _ | assumption | refine Below.drew ?_ | refine Below.alloc ?_ (by first | omega | (simp <;> omega)) _ | refine Below.setCell ?_ (by first | omega | (simp <;> omega)) _))) (hb_w1.mono (by first | omega | (simp <;> omega)))
  clear hb_w1 c1__0 f1__0 c1__1 f1__1
  have far_w1_w_0 := far (show w.heap.size < w1.heap.size by omega)
  have far_w1_w_1 := far (show w.heap.size + 1 < w1.heap.size by omega)
  go_wp2_with (first | (go_at_call 7; refine Calls.mono (SH.out _) ?_; rintro e w' ⟨rfl, hw'⟩; obtain rfl := hw'.symm) | (at_builtin; refine wp_append_rowT rfl _ _ rfl _ w1.heap.size _ [] ?o rfl fo fcap F ?r rfl ?n1 ?n2 ?kk; (exact OwnsFT.made' _ w1.heap.size _ (by simp) (Nat.le_refl _)); (refine HTF.out.below ?_; (repeat (first | (with_reducible exact Below.refl _ _) | (with_reducible assumption) | (with_reducible refine Below.drew ?_) | (focus ((with_reducible refine Below.setCell ?_ ?_ _); rotate_left; (first | omega | (simp <;> omega)))) | (focus ((with_reducible refine Below.alloc ?_ ?_ _); rotate_left; (first | omega | (simp <;> omega)))) | exact Below.refl _ _ | assumption | refine Below.drew ?_ | refine Below.alloc ?_ (by first | omega | (simp <;> omega)) _ | refine Below.setCell ?_ (by first | omega | (simp <;> omega)) _))); (simp; omega); simp; intro v' w2 hown hb; have HO := Lib.hid (show OwnsFT w2 w1.heap.size v' F from by simpa using hown); have HNE := Lib.hid (fun k hk => (show k ≠ w.heap.size from by have := (World.ownsRow.lt HO.out k hk).1; omega)); have cc0 := fun o => hb.cell (p := ⟨w.heap.size, o, none⟩) (by first | omega | (simp <;> omega)); have ff0 := fun o => hb.frozen (p := ⟨w.heap.size, o, none⟩) (by first | omega | (simp <;> omega)); have cc1 := fun o => hb.cell (p := ⟨w.heap.size + 1, o, none⟩) (by first | omega | (simp <;> omega)); have ff1 := fun o => hb.frozen (p := ⟨w.heap.size + 1, o, none⟩) (by first | omega | (simp <;> omega)); have hz2 := hb.size; (try simp only [World.size_alloc, World.size_setCell, World.size_drew] at hz2); have hbw : Below w.heap.size w w2 := Below.trans (show Below w.heap.size w _ by (repeat (first | (with_reducible exact Below.refl _ _) | (with_reducible assumption) | (with_reducible refine Below.drew ?_) | (focus ((with_reducible refine Below.setCell ?_ ?_ _); rotate_left; (first | omega | (simp <;> omega)))) | (focus ((with_reducible refine Below.alloc ?_ ?_ _); rotate_left; (first | omega | (simp <;> omega)))) | exact Below.refl _ _ | assumption | refine Below.drew ?_ | refine Below.alloc ?_ (by first | omega | (simp <;> omega)) _ | refine Below.setCell ?_ (by first | omega | (simp <;> omega)) _))) (hb.mono (by first | omega | (simp <;> omega))); have HR2 := Lib.hid HO.out.reads; obtain ⟨ao2, cap2, rfl, k1, k2, _, _⟩ := HO.out.reads; clear hb hown) | fail)
  have hmx : maxLen = 9223372036854775807 := rfl
  rw [hmx] at k2
  have HOF := Lib.hid (OF.out ao2 cap2)
  have HDO := Lib.hid (DO.out ao2 cap2)
  clear OF DO hmx
  go_wp2_with fail
  refine Calls.mono (VA.out _ (by (repeat (first | (with_reducible exact Below.refl _ _) | (with_reducible assumption) | (with_reducible refine Below.drew ?_) | (focus ((with_reducible refine Below.setCell ?_ ?_ _); rotate_left; (first | omega | (simp <;> omega)))) | (focus ((with_reducible refine Below.alloc ?_ ?_ _); rotate_left; (first | omega | (simp <;> omega)))) | exact Below.refl _ _ | assumption | refine Below.drew ?_ | refine Below.alloc ?_ (by first | omega | (simp <;> omega)) _ | refine Below.setCell ?_ (by first | omega | (simp <;> omega)) _)))) ?_
  rintro e w3 ⟨rfl, hb_w3⟩
  have hz_w3 := hb_w3.size
  try simp at hz_w3
  obtain ⟨c3__0, f3__0⟩ := bk hb_w3 (w.heap.size) (by first | omega | (simp <;> omega))
  have c3__0_0 := c3__0 0; conv at c3__0_0 => rhs; simp [go_sem, *]
  have f3__0_0 := f3__0 0; conv at f3__0_0 => rhs; simp [go_sem, *]
  have c3__0_1 := c3__0 1; conv at c3__0_1 => rhs; simp [go_sem, *]
  have f3__0_1 := f3__0 1; conv at f3__0_1 => rhs; simp [go_sem, *]
  have c3__0_2 := c3__0 2; conv at c3__0_2 => rhs; simp [go_sem, *]
  have f3__0_2 := f3__0 2; conv at f3__0_2 => rhs; simp [go_sem, *]
  have c3__0_3 := c3__0 3; conv at c3__0_3 => rhs; simp [go_sem, *]
  have f3__0_3 := f3__0 3; conv at f3__0_3 => rhs; simp [go_sem, *]
  have c3__0_4 := c3__0 4; conv at c3__0_4 => rhs; simp [go_sem, *]
  have f3__0_4 := f3__0 4; conv at f3__0_4 => rhs; simp [go_sem, *]
  have c3__0_5 := c3__0 5; conv at c3__0_5 => rhs; simp [go_sem, *]
  have f3__0_5 := f3__0 5; conv at f3__0_5 => rhs; simp [go_sem, *]
  have c3__0_6 := c3__0 6; conv at c3__0_6 => rhs; simp [go_sem, *]
  have f3__0_6 := f3__0 6; conv at f3__0_6 => rhs; simp [go_sem, *]
  obtain ⟨c3__1, f3__1⟩ := bk hb_w3 (w.heap.size + 1) (by first | omega | (simp <;> omega))
  have c3__1_0 := c3__1 0; conv at c3__1_0 => rhs; simp [go_sem, *]
  have f3__1_0 := f3__1 0; conv at f3__1_0 => rhs; simp [go_sem, *]
  have c3__1_1 := c3__1 1; conv at c3__1_1 => rhs; simp [go_sem, *]
  have f3__1_1 := f3__1 1; conv at f3__1_1 => rhs; simp [go_sem, *]
  have c3__1_2 := c3__1 2; conv at c3__1_2 => rhs; simp [go_sem, *]
  have f3__1_2 := f3__1 2; conv at f3__1_2 => rhs; simp [go_sem, *]
  have c3__1_3 := c3__1 3; conv at c3__1_3 => rhs; simp [go_sem, *]
  have f3__1_3 := f3__1 3; conv at f3__1_3 => rhs; simp [go_sem, *]
  have c3__1_4 := c3__1 4; conv at c3__1_4 => rhs; simp [go_sem, *]
  have f3__1_4 := f3__1 4; conv at f3__1_4 => rhs; simp [go_sem, *]
  have c3__1_5 := c3__1 5; conv at c3__1_5 => rhs; simp [go_sem, *]
  have f3__1_5 := f3__1 5; conv at f3__1_5 => rhs; simp [go_sem, *]
  have HH_w3 := Lib.hid hb_w3
  have hB_w3 : Below w.heap.size w w3 := Below.trans (by (repeat (first | (with_reducible exact Below.refl _ _) | (with_reducible assumption) | (with_reducible refine Below.drew ?_) | (focus ((with_reducible refine Below.setCell ?_ ?_ _); rotate_left; (first | omega | (simp <;> omega)))) | (focus ((with_reducible refine Below.alloc ?_ ?_ _); rotate_left; (first | omega | (simp <;> omega)))) | exact Below.refl _ _ | assumption | refine Below.drew ?_ | refine Below.alloc ?_ (by first | omega | (simp <;> omega)) _ | refine Below.setCell ?_ (by first | omega | (simp <;> omega)) _))) (hb_w3.mono (by first | omega | (simp <;> omega)))
  clear hb_w3 c3__0 f3__0 c3__1 f3__1
  try clear c1__0_0 f1__0_0 c1__0_1 f1__0_1 c1__0_2 f1__0_2 c1__0_3 f1__0_3 c1__0_4 f1__0_4 c1__0_5 f1__0_5 c1__0_6 f1__0_6 c1__1_0 f1__1_0 c1__1_1 f1__1_1 c1__1_2 f1__1_2 c1__1_3 f1__1_3 c1__1_4 f1__1_4 c1__1_5 f1__1_5 far_w1_w_0 far_w1_w_1 hB_w1
  have far_w3_w_0 := far (show w.heap.size < w3.heap.size by omega)
  have far_w3_w_1 := far (show w.heap.size + 1 < w3.heap.size by omega)
  have HR3 := Lib.hid (((HR2.out.set HNE.out).set HNE.out).below HH_w3.out)
  go_wp2_with fail
  refine Calls.mono (DV.out _) ?_
  rintro e w4 ⟨rfl, hb_w4⟩
  have hz_w4 := hb_w4.size
  try simp at hz_w4
  obtain ⟨c4__0, f4__0⟩ := bk hb_w4 (w.heap.size) (by first | omega | (simp <;> omega))
  have c4__0_0 := c4__0 0; conv at c4__0_0 => rhs; simp [go_sem, *]
  have f4__0_0 := f4__0 0; conv at f4__0_0 => rhs; simp [go_sem, *]
  have c4__0_1 := c4__0 1; conv at c4__0_1 => rhs; simp [go_sem, *]
  have f4__0_1 := f4__0 1; conv at f4__0_1 => rhs; simp [go_sem, *]
  have c4__0_2 := c4__0 2; conv at c4__0_2 => rhs; simp [go_sem, *]
  have f4__0_2 := f4__0 2; conv at f4__0_2 => rhs; simp [go_sem, *]
  have c4__0_3 := c4__0 3; conv at c4__0_3 => rhs; simp [go_sem, *]
  have f4__0_3 := f4__0 3; conv at f4__0_3 => rhs; simp [go_sem, *]
  have c4__0_4 := c4__0 4; conv at c4__0_4 => rhs; simp [go_sem, *]
  have f4__0_4 := f4__0 4; conv at f4__0_4 => rhs; simp [go_sem, *]
  have c4__0_5 := c4__0 5; conv at c4__0_5 => rhs; simp [go_sem, *]
  have f4__0_5 := f4__0 5; conv at f4__0_5 => rhs; simp [go_sem, *]
  have c4__0_6 := c4__0 6; conv at c4__0_6 => rhs; simp [go_sem, *]
  have f4__0_6 := f4__0 6; conv at f4__0_6 => rhs; simp [go_sem, *]
  obtain ⟨c4__1, f4__1⟩ := bk hb_w4 (w.heap.size + 1) (by first | omega | (simp <;> omega))
  have c4__1_0 := c4__1 0; conv at c4__1_0 => rhs; simp [go_sem, *]
  have f4__1_0 := f4__1 0; conv at f4__1_0 => rhs; simp [go_sem, *]
  have c4__1_1 := c4__1 1; conv at c4__1_1 => rhs; simp [go_sem, *]
  have f4__1_1 := f4__1 1; conv at f4__1_1 => rhs; simp [go_sem, *]
  have c4__1_2 := c4__1 2; conv at c4__1_2 => rhs; simp [go_sem, *]
  have f4__1_2 := f4__1 2; conv at f4__1_2 => rhs; simp [go_sem, *]
  have c4__1_3 := c4__1 3; conv at c4__1_3 => rhs; simp [go_sem, *]
  have f4__1_3 := f4__1 3; conv at f4__1_3 => rhs; simp [go_sem, *]
  have c4__1_4 := c4__1 4; conv at c4__1_4 => rhs; simp [go_sem, *]
  have f4__1_4 := f4__1 4; conv at f4__1_4 => rhs; simp [go_sem, *]
  have c4__1_5 := c4__1 5; conv at c4__1_5 => rhs; simp [go_sem, *]
  have f4__1_5 := f4__1 5; conv at f4__1_5 => rhs; simp [go_sem, *]
  have HH_w4 := Lib.hid hb_w4
  have hB_w4 : Below w.heap.size w w4 := Below.trans (by (repeat (first | (with_reducible exact Below.refl _ _) | (with_reducible assumption) | (with_reducible refine Below.drew ?_) | (focus ((with_reducible refine Below.setCell ?_ ?_ _); rotate_left; (first | omega | (simp <;> omega)))) | (focus ((with_reducible refine Below.alloc ?_ ?_ _); rotate_left; (first | omega | (simp <;> omega)))) | exact Below.refl _ _ | assumption | refine Below.drew ?_ | refine Below.alloc ?_ (by first | omega | (simp <;> omega)) _ | refine Below.setCell ?_ (by first | omega | (simp <;> omega)) _))) (hb_w4.mono (by first | omega | (simp <;> omega)))
  clear hb_w4 c4__0 f4__0 c4__1 f4__1
  try clear c3__0_0 f3__0_0 c3__0_1 f3__0_1 c3__0_2 f3__0_2 c3__0_3 f3__0_3 c3__0_4 f3__0_4 c3__0_5 f3__0_5 c3__0_6 f3__0_6 c3__1_0 f3__1_0 c3__1_1 f3__1_1 c3__1_2 f3__1_2 c3__1_3 f3__1_3 c3__1_4 f3__1_4 c3__1_5 f3__1_5 far_w3_w_0 far_w3_w_1 hB_w3
  have far_w4_w_0 := far (show w.heap.size < w4.heap.size by omega)
  have far_w4_w_1 := far (show w.heap.size + 1 < w4.heap.size by omega)
  have HR4 := Lib.hid (HR3.out.below HH_w4.out)
  go_wp2_with fail
  refine wp_region_later (w4.heap.size) (by kernel_rfl) (by kernel_rfl) ?_
  have l_w5_w_0 := @Later.at (w4.heap.size) (w.heap.size) (by omega)
  repeat (go_big_quiet_step ((first | (go_at_call 10; with_reducible refine later_of (by (first | omega | (simp <;> omega))) (AL.out _ (Below.trans (by (repeat (first | (with_reducible exact Below.refl _ _) | (with_reducible assumption) | (with_reducible refine Below.drew ?_) | (focus ((with_reducible refine Below.setCell ?_ ?_ _); rotate_left; (first | omega | (simp <;> omega)))) | (focus ((with_reducible refine Below.alloc ?_ ?_ _); rotate_left; (first | omega | (simp <;> omega)))) | exact Below.refl _ _ | assumption | refine Below.drew ?_ | refine Below.alloc ?_ (by first | omega | (simp <;> omega)) _ | refine Below.setCell ?_ (by first | omega | (simp <;> omega)) _)) : Below w.heap.size w _) (Below.mono (Later.b _) (by (first | omega | (simp <;> omega))))))) | (go_at_call 15; with_reducible refine later_of (by (first | omega | (simp <;> omega))) (HOF.out _ (HR4.out.below (Later.b _)))) | (go_at_call 16; with_reducible refine later_of (by (first | omega | (simp <;> omega))) (HDO.out _ (HR4.out.below (Later.b _)))))))
  refine wpQuiet_nil ?_
  rintro w5 ⟨⟨_, hb_w5⟩, rfl⟩
  clear l_w5_w_0
  try simp only [] at hb_w5 ⊢
  have hz_w5 := hb_w5.size
  try simp at hz_w5
  have c5__0 := fun o => hb_w5.cell (p := ⟨w.heap.size, o, none⟩) (by first | omega | (simp <;> omega))
  have f5__0 := fun o => hb_w5.frozen (p := ⟨w.heap.size, o, none⟩) (by first | omega | (simp <;> omega))
  have c5__0_0 := c5__0 0; conv at c5__0_0 => rhs; simp [go_sem, *]
  have f5__0_0 := f5__0 0; conv at f5__0_0 => rhs; simp [go_sem, *]
  have c5__0_1 := c5__0 1; conv at c5__0_1 => rhs; simp [go_sem, *]
  have f5__0_1 := f5__0 1; conv at f5__0_1 => rhs; simp [go_sem, *]
  have c5__0_2 := c5__0 2; conv at c5__0_2 => rhs; simp [go_sem, *]
  have f5__0_2 := f5__0 2; conv at f5__0_2 => rhs; simp [go_sem, *]
  have c5__0_3 := c5__0 3; conv at c5__0_3 => rhs; simp [go_sem, *]
  have f5__0_3 := f5__0 3; conv at f5__0_3 => rhs; simp [go_sem, *]
  have c5__0_4 := c5__0 4; conv at c5__0_4 => rhs; simp [go_sem, *]
  have f5__0_4 := f5__0 4; conv at f5__0_4 => rhs; simp [go_sem, *]
  have c5__0_5 := c5__0 5; conv at c5__0_5 => rhs; simp [go_sem, *]
  have f5__0_5 := f5__0 5; conv at f5__0_5 => rhs; simp [go_sem, *]
  have c5__0_6 := c5__0 6; conv at c5__0_6 => rhs; simp [go_sem, *]
  have f5__0_6 := f5__0 6; conv at f5__0_6 => rhs; simp [go_sem, *]
  have HH_w5 := Lib.hid hb_w5
  have hB_w5 : Below w.heap.size w w5 := Below.trans (by (repeat (first | (with_reducible exact Below.refl _ _) | (with_reducible assumption) | (with_reducible refine Below.drew ?_) | (focus ((with_reducible refine Below.setCell ?_ ?_ _); rotate_left; (first | omega | (simp <;> omega)))) | (focus ((with_reducible refine Below.alloc ?_ ?_ _); rotate_left; (first | omega | (simp <;> omega)))) | exact Below.refl _ _ | assumption | refine Below.drew ?_ | refine Below.alloc ?_ (by first | omega | (simp <;> omega)) _ | refine Below.setCell ?_ (by first | omega | (simp <;> omega)) _))) (hb_w5.mono (by first | omega | (simp <;> omega)))
  clear hb_w5 c5__0 f5__0
  try clear c4__0_0 f4__0_0 c4__0_1 f4__0_1 c4__0_2 f4__0_2 c4__0_3 f4__0_3 c4__0_4 f4__0_4 c4__0_5 f4__0_5 c4__0_6 f4__0_6 c4__1_0 f4__1_0 c4__1_1 f4__1_1 c4__1_2 f4__1_2 c4__1_3 f4__1_3 c4__1_4 f4__1_4 c4__1_5 f4__1_5 far_w4_w_0 far_w4_w_1 hB_w4
  have far_w5_w_0 := far (show w.heap.size < w5.heap.size by omega)
  go_wp2
  go_ret
  exact ⟨ret_bool (by simp), by (repeat (first | (with_reducible exact Below.refl _ _) | (with_reducible assumption) | (with_reducible refine Below.drew ?_) | (focus ((with_reducible refine Below.setCell ?_ ?_ _); rotate_left; (first | omega | (simp <;> omega)))) | (focus ((with_reducible refine Below.alloc ?_ ?_ _); rotate_left; (first | omega | (simp <;> omega)))) | exact Below.refl _ _ | assumption | refine Below.drew ?_ | refine Below.alloc ?_ (by first | omega | (simp <;> omega)) _ | refine Below.setCell ?_ (by first | omega | (simp <;> omega)) _))⟩
set_option maxHeartbeats 6400000 in
set_option maxRecDepth 100000 in
theorem vvFalse (m0 t0 r0 bo l0 l1 l2 l3 l4 l5 nm k0 : List UInt8) (a2 a4 : Int) (fo : Option Addr) (fcap : Nat) (ys : List FldT) (w : World) (i1 : t0.length ≤ 1048576) (hf0 : ReadsFT w (.slice fo ys.length fcap) ys) (hyl : ∀ f ∈ ys, f.1.length ≤ 1048576 ∧ f.2.length ≤ 1048576) (hfc1 : ys.length ≤ fcap) (hfc2 : fcap ≤ 9223372036854775807)
    (h0 : l0.length ≤ 9223372036854775807) (h1 : l1.length ≤ 9223372036854775807) (h2 : l2.length ≤ 9223372036854775807) (h3 : l3.length ≤ 9223372036854775807) (h4 : l4.length ≤ 9223372036854775807) (h5 : l5.length ≤ 9223372036854775807) (hc : nm.length ≤ 9223372036854775807) (hd : k0.length ≤ 9223372036854775807) (hM : ∃ m, w.cell? ⟨0, 0, none⟩ = some (.int .i64 m))
    (hx : (valV (En.cut ⟨l0, l1, l2, l3, l4, l5⟩) nm (k0.take 600)).2 = false) :
    Calls Tryz.prog 4 #[.agg #[.string (S m0), .string (S t0), .int .i64 a2, .string (S r0), .int .i64 a4, .slice fo ys.length fcap, .string (S bo)], .agg #[.string (S l0), .string (S l1), .string (S l2), .string (S l3), .string (S l4), .string (S l5)], .string (S nm), .string (S k0)] w fun x w' => x = .returned (.bool true) ∧ Below w.heap.size w w' := by
  have FE := Lib.hid (fun W => vars_few ⟨l0, l1, l2, l3, l4, l5⟩ ⟨h0, h1, h2, h3, h4, h5⟩ W)
  have hcf := En.cut_few ⟨l0, l1, l2, l3, l4, l5⟩
  obtain ⟨e, he⟩ : ∃ e, En.cut ⟨l0, l1, l2, l3, l4, l5⟩ = e := ⟨_, rfl⟩
  rw [he] at FE hcf hx
  have SH := Lib.hid (fun W => vars_short k0 hd W)
  obtain ⟨k, hk⟩ : ∃ k, k0.take 600 = k := ⟨_, rfl⟩
  have hkl : k.length ≤ 600 := by rw [← hk, List.length_take]; omega
  rw [hk] at SH hx
  obtain ⟨⟨v, x⟩, hvx⟩ : ∃ z, valV e nm k = z := ⟨_, rfl⟩
  have VA := Lib.hid (fun W (hb : Below w.heap.size w W) => varsValue e hcf nm k hc (by omega) W (ML.later hM (GG.of_below hb)))
  have DV := Lib.hid (fun W => docValue e hcf nm k (by omega) W)
  have AL := Lib.hid (fun W (hb : Below w.heap.size w W) => vars_alive W (ML.later hM (GG.of_below hb)))
  rw [hvx] at hx VA DV
  obtain rfl : x = false := hx
  have HVN := Lib.hid (fun (h : false = false) => val_noneV (e := e) (n := nm) (k := k) (v := v) (by rw [hvx, h]))
  unfold pairV at VA DV
  obtain ⟨q, hq, hql, hq6⟩ := minTake 600 t0.length
  obtain ⟨p, hp, hpl, hp4⟩ := minTake 45 ys.length
  simp only [Int.cast_ofNat_Int] at hq hp
  have HTF := Lib.hid (takeFT hf0 hpl)
  obtain ⟨t, ht⟩ : ∃ t, t0.take q = t := ⟨_, rfl⟩
  have htl : t.length ≤ 600 := by rw [← ht, List.length_take]; omega
  obtain ⟨F, hF⟩ : ∃ F, ys.take p = F := ⟨_, rfl⟩
  have hFl : F.length = p := by rw [← hF, List.length_take]; omega
  subst hFl
  have hFs : ∀ f ∈ F, f.1.length ≤ 1048576 ∧ f.2.length ≤ 1048576 := fun f hf => hyl f (List.mem_of_mem_take (by rw [hF]; exact hf))
  rw [hF] at HTF
  have OF := Lib.hid (fun ao cap W hr => varsOf m0 t r0 bo a2 a4 ao cap F W hr (fun f hf => by have := hFs f hf; unfold SmallT; omega) (fun f hf => (hFs f hf).2) (by omega) (by omega))
  have DO := Lib.hid (fun ao cap W hr => docOf m0 t r0 bo a2 a4 ao cap F W hr (fun f hf => by have := hFs f hf; unfold SmallT; omega) (fun f hf => (hFs f hf).2) (by omega) (by omega))
  obtain ⟨E, hE⟩ : ∃ E, ofE t F = E := ⟨_, rfl⟩
  rw [hE] at OF DO
  obtain ⟨f0, f1, f2, f3, f4, f5⟩ := e
  obtain ⟨e0, e1, e2, e3, e4, e5⟩ := E
  unfold En.v at *
  simp only at FE VA DV OF DO
  clear he hcf hM h0 h1 h2 h3 h4 h5 hc hd hk hvx hyl hf0 hFs hF hE
  (obtain rfl : v = [] := HVN.out rfl); clear HVN
  go_enter Tryz.func4, Tryz.ntmps4
  go_wp2_with fail
  refine Calls.mono (FE.out _) ?_
  rintro e w1 ⟨rfl, hb_w1⟩
  have hz_w1 := hb_w1.size
  try simp at hz_w1
  obtain ⟨c1__0, f1__0⟩ := bk hb_w1 (w.heap.size) (by first | omega | (simp <;> omega))
  have c1__0_0 := c1__0 0; conv at c1__0_0 => rhs; simp [go_sem, *]
  have f1__0_0 := f1__0 0; conv at f1__0_0 => rhs; simp [go_sem, *]
  have c1__0_1 := c1__0 1; conv at c1__0_1 => rhs; simp [go_sem, *]
  have f1__0_1 := f1__0 1; conv at f1__0_1 => rhs; simp [go_sem, *]
  have c1__0_2 := c1__0 2; conv at c1__0_2 => rhs; simp [go_sem, *]
  have f1__0_2 := f1__0 2; conv at f1__0_2 => rhs; simp [go_sem, *]
  have c1__0_3 := c1__0 3; conv at c1__0_3 => rhs; simp [go_sem, *]
  have f1__0_3 := f1__0 3; conv at f1__0_3 => rhs; simp [go_sem, *]
  have c1__0_4 := c1__0 4; conv at c1__0_4 => rhs; simp [go_sem, *]
  have f1__0_4 := f1__0 4; conv at f1__0_4 => rhs; simp [go_sem, *]
  have c1__0_5 := c1__0 5; conv at c1__0_5 => rhs; simp [go_sem, *]
  have f1__0_5 := f1__0 5; conv at f1__0_5 => rhs; simp [go_sem, *]
  have c1__0_6 := c1__0 6; conv at c1__0_6 => rhs; simp [go_sem, *]
  have f1__0_6 := f1__0 6; conv at f1__0_6 => rhs; simp [go_sem, *]
  obtain ⟨c1__1, f1__1⟩ := bk hb_w1 (w.heap.size + 1) (by first | omega | (simp <;> omega))
  have c1__1_0 := c1__1 0; conv at c1__1_0 => rhs; simp [go_sem, *]
  have f1__1_0 := f1__1 0; conv at f1__1_0 => rhs; simp [go_sem, *]
  have c1__1_1 := c1__1 1; conv at c1__1_1 => rhs; simp [go_sem, *]
  have f1__1_1 := f1__1 1; conv at f1__1_1 => rhs; simp [go_sem, *]
  have c1__1_2 := c1__1 2; conv at c1__1_2 => rhs; simp [go_sem, *]
  have f1__1_2 := f1__1 2; conv at f1__1_2 => rhs; simp [go_sem, *]
  have c1__1_3 := c1__1 3; conv at c1__1_3 => rhs; simp [go_sem, *]
  have f1__1_3 := f1__1 3; conv at f1__1_3 => rhs; simp [go_sem, *]
  have c1__1_4 := c1__1 4; conv at c1__1_4 => rhs; simp [go_sem, *]
  have f1__1_4 := f1__1 4; conv at f1__1_4 => rhs; simp [go_sem, *]
  have c1__1_5 := c1__1 5; conv at c1__1_5 => rhs; simp [go_sem, *]
  have f1__1_5 := f1__1 5; conv at f1__1_5 => rhs; simp [go_sem, *]
  have HH_w1 := Lib.hid hb_w1
  have hB_w1 : Below w.heap.size w w1 := Below.trans (by (repeat (first | (with_reducible exact Below.refl _ _) | (with_reducible assumption) | (with_reducible refine Below.drew ?_) | (focus ((with_reducible refine Below.setCell ?_ ?_ _); rotate_left; (first | omega | (simp <;> omega)))) | (focus ((with_reducible refine Below.alloc ?_ ?_ _); rotate_left; (first | omega | (simp <;> omega)))) | exact Below.refl _ _ | assumption | refine Below.drew ?_ | refine Below.alloc ?_ (by first | omega | (simp <;> omega)) _ | refine Below.setCell ?_ (by first | omega | (simp <;> omega)) _))) (hb_w1.mono (by first | omega | (simp <;> omega)))
  clear hb_w1 c1__0 f1__0 c1__1 f1__1
  have far_w1_w_0 := far (show w.heap.size < w1.heap.size by omega)
  have far_w1_w_1 := far (show w.heap.size + 1 < w1.heap.size by omega)
  go_wp2_with (first | (go_at_call 7; refine Calls.mono (SH.out _) ?_; rintro e w' ⟨rfl, hw'⟩; obtain rfl := hw'.symm) | (at_builtin; refine wp_append_rowT rfl _ _ rfl _ w1.heap.size _ [] ?o rfl fo fcap F ?r rfl ?n1 ?n2 ?kk; (exact OwnsFT.made' _ w1.heap.size _ (by simp) (Nat.le_refl _)); (refine HTF.out.below ?_; (repeat (first | (with_reducible exact Below.refl _ _) | (with_reducible assumption) | (with_reducible refine Below.drew ?_) | (focus ((with_reducible refine Below.setCell ?_ ?_ _); rotate_left; (first | omega | (simp <;> omega)))) | (focus ((with_reducible refine Below.alloc ?_ ?_ _); rotate_left; (first | omega | (simp <;> omega)))) | exact Below.refl _ _ | assumption | refine Below.drew ?_ | refine Below.alloc ?_ (by first | omega | (simp <;> omega)) _ | refine Below.setCell ?_ (by first | omega | (simp <;> omega)) _))); (simp; omega); simp; intro v' w2 hown hb; have HO := Lib.hid (show OwnsFT w2 w1.heap.size v' F from by simpa using hown); have HNE := Lib.hid (fun k hk => (show k ≠ w.heap.size from by have := (World.ownsRow.lt HO.out k hk).1; omega)); have cc0 := fun o => hb.cell (p := ⟨w.heap.size, o, none⟩) (by first | omega | (simp <;> omega)); have ff0 := fun o => hb.frozen (p := ⟨w.heap.size, o, none⟩) (by first | omega | (simp <;> omega)); have cc1 := fun o => hb.cell (p := ⟨w.heap.size + 1, o, none⟩) (by first | omega | (simp <;> omega)); have ff1 := fun o => hb.frozen (p := ⟨w.heap.size + 1, o, none⟩) (by first | omega | (simp <;> omega)); have hz2 := hb.size; (try simp only [World.size_alloc, World.size_setCell, World.size_drew] at hz2); have hbw : Below w.heap.size w w2 := Below.trans (show Below w.heap.size w _ by (repeat (first | (with_reducible exact Below.refl _ _) | (with_reducible assumption) | (with_reducible refine Below.drew ?_) | (focus ((with_reducible refine Below.setCell ?_ ?_ _); rotate_left; (first | omega | (simp <;> omega)))) | (focus ((with_reducible refine Below.alloc ?_ ?_ _); rotate_left; (first | omega | (simp <;> omega)))) | exact Below.refl _ _ | assumption | refine Below.drew ?_ | refine Below.alloc ?_ (by first | omega | (simp <;> omega)) _ | refine Below.setCell ?_ (by first | omega | (simp <;> omega)) _))) (hb.mono (by first | omega | (simp <;> omega))); have HR2 := Lib.hid HO.out.reads; obtain ⟨ao2, cap2, rfl, k1, k2, _, _⟩ := HO.out.reads; clear hb hown) | fail)
  have hmx : maxLen = 9223372036854775807 := rfl
  rw [hmx] at k2
  have HOF := Lib.hid (OF.out ao2 cap2)
  have HDO := Lib.hid (DO.out ao2 cap2)
  clear OF DO hmx
  go_wp2_with fail
  refine Calls.mono (VA.out _ (by (repeat (first | (with_reducible exact Below.refl _ _) | (with_reducible assumption) | (with_reducible refine Below.drew ?_) | (focus ((with_reducible refine Below.setCell ?_ ?_ _); rotate_left; (first | omega | (simp <;> omega)))) | (focus ((with_reducible refine Below.alloc ?_ ?_ _); rotate_left; (first | omega | (simp <;> omega)))) | exact Below.refl _ _ | assumption | refine Below.drew ?_ | refine Below.alloc ?_ (by first | omega | (simp <;> omega)) _ | refine Below.setCell ?_ (by first | omega | (simp <;> omega)) _)))) ?_
  rintro e w3 ⟨rfl, hb_w3⟩
  have hz_w3 := hb_w3.size
  try simp at hz_w3
  obtain ⟨c3__0, f3__0⟩ := bk hb_w3 (w.heap.size) (by first | omega | (simp <;> omega))
  have c3__0_0 := c3__0 0; conv at c3__0_0 => rhs; simp [go_sem, *]
  have f3__0_0 := f3__0 0; conv at f3__0_0 => rhs; simp [go_sem, *]
  have c3__0_1 := c3__0 1; conv at c3__0_1 => rhs; simp [go_sem, *]
  have f3__0_1 := f3__0 1; conv at f3__0_1 => rhs; simp [go_sem, *]
  have c3__0_2 := c3__0 2; conv at c3__0_2 => rhs; simp [go_sem, *]
  have f3__0_2 := f3__0 2; conv at f3__0_2 => rhs; simp [go_sem, *]
  have c3__0_3 := c3__0 3; conv at c3__0_3 => rhs; simp [go_sem, *]
  have f3__0_3 := f3__0 3; conv at f3__0_3 => rhs; simp [go_sem, *]
  have c3__0_4 := c3__0 4; conv at c3__0_4 => rhs; simp [go_sem, *]
  have f3__0_4 := f3__0 4; conv at f3__0_4 => rhs; simp [go_sem, *]
  have c3__0_5 := c3__0 5; conv at c3__0_5 => rhs; simp [go_sem, *]
  have f3__0_5 := f3__0 5; conv at f3__0_5 => rhs; simp [go_sem, *]
  have c3__0_6 := c3__0 6; conv at c3__0_6 => rhs; simp [go_sem, *]
  have f3__0_6 := f3__0 6; conv at f3__0_6 => rhs; simp [go_sem, *]
  obtain ⟨c3__1, f3__1⟩ := bk hb_w3 (w.heap.size + 1) (by first | omega | (simp <;> omega))
  have c3__1_0 := c3__1 0; conv at c3__1_0 => rhs; simp [go_sem, *]
  have f3__1_0 := f3__1 0; conv at f3__1_0 => rhs; simp [go_sem, *]
  have c3__1_1 := c3__1 1; conv at c3__1_1 => rhs; simp [go_sem, *]
  have f3__1_1 := f3__1 1; conv at f3__1_1 => rhs; simp [go_sem, *]
  have c3__1_2 := c3__1 2; conv at c3__1_2 => rhs; simp [go_sem, *]
  have f3__1_2 := f3__1 2; conv at f3__1_2 => rhs; simp [go_sem, *]
  have c3__1_3 := c3__1 3; conv at c3__1_3 => rhs; simp [go_sem, *]
  have f3__1_3 := f3__1 3; conv at f3__1_3 => rhs; simp [go_sem, *]
  have c3__1_4 := c3__1 4; conv at c3__1_4 => rhs; simp [go_sem, *]
  have f3__1_4 := f3__1 4; conv at f3__1_4 => rhs; simp [go_sem, *]
  have c3__1_5 := c3__1 5; conv at c3__1_5 => rhs; simp [go_sem, *]
  have f3__1_5 := f3__1 5; conv at f3__1_5 => rhs; simp [go_sem, *]
  have HH_w3 := Lib.hid hb_w3
  have hB_w3 : Below w.heap.size w w3 := Below.trans (by (repeat (first | (with_reducible exact Below.refl _ _) | (with_reducible assumption) | (with_reducible refine Below.drew ?_) | (focus ((with_reducible refine Below.setCell ?_ ?_ _); rotate_left; (first | omega | (simp <;> omega)))) | (focus ((with_reducible refine Below.alloc ?_ ?_ _); rotate_left; (first | omega | (simp <;> omega)))) | exact Below.refl _ _ | assumption | refine Below.drew ?_ | refine Below.alloc ?_ (by first | omega | (simp <;> omega)) _ | refine Below.setCell ?_ (by first | omega | (simp <;> omega)) _))) (hb_w3.mono (by first | omega | (simp <;> omega)))
  clear hb_w3 c3__0 f3__0 c3__1 f3__1
  try clear c1__0_0 f1__0_0 c1__0_1 f1__0_1 c1__0_2 f1__0_2 c1__0_3 f1__0_3 c1__0_4 f1__0_4 c1__0_5 f1__0_5 c1__0_6 f1__0_6 c1__1_0 f1__1_0 c1__1_1 f1__1_1 c1__1_2 f1__1_2 c1__1_3 f1__1_3 c1__1_4 f1__1_4 c1__1_5 f1__1_5 far_w1_w_0 far_w1_w_1 hB_w1
  have far_w3_w_0 := far (show w.heap.size < w3.heap.size by omega)
  have far_w3_w_1 := far (show w.heap.size + 1 < w3.heap.size by omega)
  have HR3 := Lib.hid (((HR2.out.set HNE.out).set HNE.out).below HH_w3.out)
  go_wp2_with fail
  refine Calls.mono (DV.out _) ?_
  rintro e w4 ⟨rfl, hb_w4⟩
  have hz_w4 := hb_w4.size
  try simp at hz_w4
  obtain ⟨c4__0, f4__0⟩ := bk hb_w4 (w.heap.size) (by first | omega | (simp <;> omega))
  have c4__0_0 := c4__0 0; conv at c4__0_0 => rhs; simp [go_sem, *]
  have f4__0_0 := f4__0 0; conv at f4__0_0 => rhs; simp [go_sem, *]
  have c4__0_1 := c4__0 1; conv at c4__0_1 => rhs; simp [go_sem, *]
  have f4__0_1 := f4__0 1; conv at f4__0_1 => rhs; simp [go_sem, *]
  have c4__0_2 := c4__0 2; conv at c4__0_2 => rhs; simp [go_sem, *]
  have f4__0_2 := f4__0 2; conv at f4__0_2 => rhs; simp [go_sem, *]
  have c4__0_3 := c4__0 3; conv at c4__0_3 => rhs; simp [go_sem, *]
  have f4__0_3 := f4__0 3; conv at f4__0_3 => rhs; simp [go_sem, *]
  have c4__0_4 := c4__0 4; conv at c4__0_4 => rhs; simp [go_sem, *]
  have f4__0_4 := f4__0 4; conv at f4__0_4 => rhs; simp [go_sem, *]
  have c4__0_5 := c4__0 5; conv at c4__0_5 => rhs; simp [go_sem, *]
  have f4__0_5 := f4__0 5; conv at f4__0_5 => rhs; simp [go_sem, *]
  have c4__0_6 := c4__0 6; conv at c4__0_6 => rhs; simp [go_sem, *]
  have f4__0_6 := f4__0 6; conv at f4__0_6 => rhs; simp [go_sem, *]
  obtain ⟨c4__1, f4__1⟩ := bk hb_w4 (w.heap.size + 1) (by first | omega | (simp <;> omega))
  have c4__1_0 := c4__1 0; conv at c4__1_0 => rhs; simp [go_sem, *]
  have f4__1_0 := f4__1 0; conv at f4__1_0 => rhs; simp [go_sem, *]
  have c4__1_1 := c4__1 1; conv at c4__1_1 => rhs; simp [go_sem, *]
  have f4__1_1 := f4__1 1; conv at f4__1_1 => rhs; simp [go_sem, *]
  have c4__1_2 := c4__1 2; conv at c4__1_2 => rhs; simp [go_sem, *]
  have f4__1_2 := f4__1 2; conv at f4__1_2 => rhs; simp [go_sem, *]
  have c4__1_3 := c4__1 3; conv at c4__1_3 => rhs; simp [go_sem, *]
  have f4__1_3 := f4__1 3; conv at f4__1_3 => rhs; simp [go_sem, *]
  have c4__1_4 := c4__1 4; conv at c4__1_4 => rhs; simp [go_sem, *]
  have f4__1_4 := f4__1 4; conv at f4__1_4 => rhs; simp [go_sem, *]
  have c4__1_5 := c4__1 5; conv at c4__1_5 => rhs; simp [go_sem, *]
  have f4__1_5 := f4__1 5; conv at f4__1_5 => rhs; simp [go_sem, *]
  have HH_w4 := Lib.hid hb_w4
  have hB_w4 : Below w.heap.size w w4 := Below.trans (by (repeat (first | (with_reducible exact Below.refl _ _) | (with_reducible assumption) | (with_reducible refine Below.drew ?_) | (focus ((with_reducible refine Below.setCell ?_ ?_ _); rotate_left; (first | omega | (simp <;> omega)))) | (focus ((with_reducible refine Below.alloc ?_ ?_ _); rotate_left; (first | omega | (simp <;> omega)))) | exact Below.refl _ _ | assumption | refine Below.drew ?_ | refine Below.alloc ?_ (by first | omega | (simp <;> omega)) _ | refine Below.setCell ?_ (by first | omega | (simp <;> omega)) _))) (hb_w4.mono (by first | omega | (simp <;> omega)))
  clear hb_w4 c4__0 f4__0 c4__1 f4__1
  try clear c3__0_0 f3__0_0 c3__0_1 f3__0_1 c3__0_2 f3__0_2 c3__0_3 f3__0_3 c3__0_4 f3__0_4 c3__0_5 f3__0_5 c3__0_6 f3__0_6 c3__1_0 f3__1_0 c3__1_1 f3__1_1 c3__1_2 f3__1_2 c3__1_3 f3__1_3 c3__1_4 f3__1_4 c3__1_5 f3__1_5 far_w3_w_0 far_w3_w_1 hB_w3
  have far_w4_w_0 := far (show w.heap.size < w4.heap.size by omega)
  have far_w4_w_1 := far (show w.heap.size + 1 < w4.heap.size by omega)
  have HR4 := Lib.hid (HR3.out.below HH_w4.out)
  go_wp2_with fail
  refine wp_region_later (w4.heap.size) (by kernel_rfl) (by kernel_rfl) ?_
  have l_w5_w_0 := @Later.at (w4.heap.size) (w.heap.size) (by omega)
  repeat (go_big_quiet_step ((first | (go_at_call 10; with_reducible refine later_of (by (first | omega | (simp <;> omega))) (AL.out _ (Below.trans (by (repeat (first | (with_reducible exact Below.refl _ _) | (with_reducible assumption) | (with_reducible refine Below.drew ?_) | (focus ((with_reducible refine Below.setCell ?_ ?_ _); rotate_left; (first | omega | (simp <;> omega)))) | (focus ((with_reducible refine Below.alloc ?_ ?_ _); rotate_left; (first | omega | (simp <;> omega)))) | exact Below.refl _ _ | assumption | refine Below.drew ?_ | refine Below.alloc ?_ (by first | omega | (simp <;> omega)) _ | refine Below.setCell ?_ (by first | omega | (simp <;> omega)) _)) : Below w.heap.size w _) (Below.mono (Later.b _) (by (first | omega | (simp <;> omega))))))) | (go_at_call 15; with_reducible refine later_of (by (first | omega | (simp <;> omega))) (HOF.out _ (HR4.out.below (Later.b _)))) | (go_at_call 16; with_reducible refine later_of (by (first | omega | (simp <;> omega))) (HDO.out _ (HR4.out.below (Later.b _)))))))
  refine wpQuiet_nil ?_
  rintro w5 ⟨⟨_, hb_w5⟩, rfl⟩
  clear l_w5_w_0
  try simp only [] at hb_w5 ⊢
  have hz_w5 := hb_w5.size
  try simp at hz_w5
  have c5__0 := fun o => hb_w5.cell (p := ⟨w.heap.size, o, none⟩) (by first | omega | (simp <;> omega))
  have f5__0 := fun o => hb_w5.frozen (p := ⟨w.heap.size, o, none⟩) (by first | omega | (simp <;> omega))
  have c5__0_0 := c5__0 0; conv at c5__0_0 => rhs; simp [go_sem, *]
  have f5__0_0 := f5__0 0; conv at f5__0_0 => rhs; simp [go_sem, *]
  have c5__0_1 := c5__0 1; conv at c5__0_1 => rhs; simp [go_sem, *]
  have f5__0_1 := f5__0 1; conv at f5__0_1 => rhs; simp [go_sem, *]
  have c5__0_2 := c5__0 2; conv at c5__0_2 => rhs; simp [go_sem, *]
  have f5__0_2 := f5__0 2; conv at f5__0_2 => rhs; simp [go_sem, *]
  have c5__0_3 := c5__0 3; conv at c5__0_3 => rhs; simp [go_sem, *]
  have f5__0_3 := f5__0 3; conv at f5__0_3 => rhs; simp [go_sem, *]
  have c5__0_4 := c5__0 4; conv at c5__0_4 => rhs; simp [go_sem, *]
  have f5__0_4 := f5__0 4; conv at f5__0_4 => rhs; simp [go_sem, *]
  have c5__0_5 := c5__0 5; conv at c5__0_5 => rhs; simp [go_sem, *]
  have f5__0_5 := f5__0 5; conv at f5__0_5 => rhs; simp [go_sem, *]
  have c5__0_6 := c5__0 6; conv at c5__0_6 => rhs; simp [go_sem, *]
  have f5__0_6 := f5__0 6; conv at f5__0_6 => rhs; simp [go_sem, *]
  have HH_w5 := Lib.hid hb_w5
  have hB_w5 : Below w.heap.size w w5 := Below.trans (by (repeat (first | (with_reducible exact Below.refl _ _) | (with_reducible assumption) | (with_reducible refine Below.drew ?_) | (focus ((with_reducible refine Below.setCell ?_ ?_ _); rotate_left; (first | omega | (simp <;> omega)))) | (focus ((with_reducible refine Below.alloc ?_ ?_ _); rotate_left; (first | omega | (simp <;> omega)))) | exact Below.refl _ _ | assumption | refine Below.drew ?_ | refine Below.alloc ?_ (by first | omega | (simp <;> omega)) _ | refine Below.setCell ?_ (by first | omega | (simp <;> omega)) _))) (hb_w5.mono (by first | omega | (simp <;> omega)))
  clear hb_w5 c5__0 f5__0
  try clear c4__0_0 f4__0_0 c4__0_1 f4__0_1 c4__0_2 f4__0_2 c4__0_3 f4__0_3 c4__0_4 f4__0_4 c4__0_5 f4__0_5 c4__0_6 f4__0_6 c4__1_0 f4__1_0 c4__1_1 f4__1_1 c4__1_2 f4__1_2 c4__1_3 f4__1_3 c4__1_4 f4__1_4 c4__1_5 f4__1_5 far_w4_w_0 far_w4_w_1 hB_w4
  have far_w5_w_0 := far (show w.heap.size < w5.heap.size by omega)
  go_wp2
  go_ret
  exact ⟨ret_bool (by simp), by (repeat (first | (with_reducible exact Below.refl _ _) | (with_reducible assumption) | (with_reducible refine Below.drew ?_) | (focus ((with_reducible refine Below.setCell ?_ ?_ _); rotate_left; (first | omega | (simp <;> omega)))) | (focus ((with_reducible refine Below.alloc ?_ ?_ _); rotate_left; (first | omega | (simp <;> omega)))) | exact Below.refl _ _ | assumption | refine Below.drew ?_ | refine Below.alloc ?_ (by first | omega | (simp <;> omega)) _ | refine Below.setCell ?_ (by first | omega | (simp <;> omega)) _))⟩

theorem varsValues_any (a0 a1 : ByteArray) (a2 : Int) (a3 : ByteArray) (a4 : Int) (row : Value) (bo : ByteArray) (M : List (List Value)) (b0 b1 b2 b3 b4 b5 c d : ByteArray) (w : World) (i0 : a0.size ≤ 1048576) (i1 : a1.size ≤ 1048576) (i2 : (Lit.int .i64 a2).wf = true) (i3 : a3.size ≤ 1048576) (i4 : (Lit.int .i64 a4).wf = true) (hrow : RowsIn w 2 row M ∧ ∀ c ∈ M, AllBk [.str, .str] c) (hbo : bo.size ≤ 1048576)
    (h0 : b0.size ≤ maxLen) (h1 : b1.size ≤ maxLen) (h2 : b2.size ≤ maxLen) (h3 : b3.size ≤ maxLen) (h4 : b4.size ≤ maxLen) (h5 : b5.size ≤ maxLen) (hc : c.size ≤ maxLen) (hd : d.size ≤ maxLen) (hM : ∃ m, w.cell? ⟨0, 0, none⟩ = some (.int .i64 m)) :
    Calls Tryz.prog 4 #[.agg #[.string a0, .string a1, .int .i64 a2, .string a3, .int .i64 a4, row, .string bo], .agg #[.string b0, .string b1, .string b2, .string b3, .string b4, .string b5], .string c, .string d] w fun x w' => x = .returned (.bool true) ∧ Below w.heap.size w w' := by
  obtain ⟨ys, hf0, hyl⟩ := reads_inB hrow
  obtain ⟨fo, fcap, rfl, hfc1, hfc2, -⟩ := id hf0
  clear hrow
  obtain ⟨m0, rfl⟩ := S_of a0
  obtain ⟨t0, rfl⟩ := S_of a1
  obtain ⟨r0, rfl⟩ := S_of a3
  obtain ⟨bo, rfl⟩ := S_of bo
  obtain ⟨l0, rfl⟩ := S_of b0
  obtain ⟨l1, rfl⟩ := S_of b1
  obtain ⟨l2, rfl⟩ := S_of b2
  obtain ⟨l3, rfl⟩ := S_of b3
  obtain ⟨l4, rfl⟩ := S_of b4
  obtain ⟨l5, rfl⟩ := S_of b5
  obtain ⟨nm, rfl⟩ := S_of c
  obtain ⟨k0, rfl⟩ := S_of d
  simp only [S_size] at i0 i1 i3 hbo h0 h1 h2 h3 h4 h5 hc hd
  have hm : maxLen = 9223372036854775807 := rfl
  rw [hm] at h0 h1 h2 h3 h4 h5 hc hd hfc2
  clear hm
  cases hx : (valV (En.cut ⟨l0, l1, l2, l3, l4, l5⟩) nm (k0.take 600)).2 with
  | true => exact vvTrue m0 t0 r0 bo l0 l1 l2 l3 l4 l5 nm k0 a2 a4 fo fcap ys w i1 hf0 hyl hfc1 hfc2 h0 h1 h2 h3 h4 h5 hc hd hM hx
  | false => exact vvFalse m0 t0 r0 bo l0 l1 l2 l3 l4 l5 nm k0 a2 a4 fo fcap ys w i1 hf0 hyl hfc1 hfc2 h0 h1 h2 h3 h4 h5 hc hd hM hx
end Go.Proofs.YtenflcaalckdfaaGreatDoor
