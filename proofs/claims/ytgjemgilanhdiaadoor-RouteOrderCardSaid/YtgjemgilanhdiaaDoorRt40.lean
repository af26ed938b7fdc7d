/- The law RouteOrder: its walk. -/
import Derived.Test.YtgjemgilanhdiaaDoorRt39
import Derived.Deep.RegionLaw
import Derived.Deep.DeepCutAuto
namespace Go.Proofs.YtgjemgilanhdiaaDoor
open Go.RowKit Go.Sort Go.Shelf
set_option linter.unusedVariables false
set_option linter.unusedSimpArgs false

theorem mod_twice (a n : Int) (hn : 0 < n) : ∃ k : Nat, (k : Int) < n ∧ -n < a.tmod n ∧ a.tmod n < n ∧ (a.tmod n + n).tmod n = k := by
  have h1 : a.tmod n < n := Int.tmod_lt_of_pos a hn
  have h2 : -n < a.tmod n := Int.lt_tmod_of_pos a hn
  have h3 : 0 ≤ (a.tmod n + n).tmod n := Int.tmod_nonneg n (by omega)
  have h4 : (a.tmod n + n).tmod n < n := Int.tmod_lt_of_pos _ hn
  exact ⟨((a.tmod n + n).tmod n).toNat, by omega, h2, h1, by omega⟩

set_option maxHeartbeats 3200000 in
set_option maxRecDepth 100000 in
theorem routeOrder_any (v : Value) (L : List (List Value)) (by0 : Int) (b c : ByteArray) (w : World) (hv : RowsIn w 3 v L ∧ ∀ c ∈ L, AllSh [.str, .str, .str] c) (hby : (Lit.int .i64 by0).wf = true) (k1 : b.size ≤ maxLen) (k2 : c.size ≤ maxLen) (hL : Laid w) :
    Calls Tryd.prog 3 #[v, .int .i64 by0, .string b, .string c] w fun e w' => e = .returned (.bool true) ∧ Below w.heap.size w w' := by
  obtain ⟨xs, hr0, hxl⟩ := reads_inW hv
  have C0 := Lib.hid (rtFew v xs w hr0 hxl)
  clear hr0 hxl hv
  obtain ⟨T, hT⟩ : ∃ T, fewR xs = T := ⟨_, rfl⟩
  have hTs : ∀ f ∈ T, f.1.length ≤ 900 ∧ f.2.1.length ≤ 900 ∧ f.2.2.length ≤ 900 := fun f hf => by
    have := fewR_small xs f (by rw [hT]; exact hf)
    omega
  have hTl : T.length ≤ 20 := by rw [← hT]; exact fewR_len xs
  rw [hT] at C0
  clear hT
  obtain ⟨host, rfl⟩ := S_of b
  obtain ⟨path, rfl⟩ := S_of c
  rw [S_size] at k1 k2
  have hm : maxLen = 9223372036854775807 := rfl
  rw [hm] at k1 k2
  have HTs := Lib.hid hTs
  have RR := Lib.hid (fun (v : Value) (W : World) (hb : Below w.heap.size w W) (hr : ReadsW W v T) => refRoutesRight v T W hr hTs (by omega) (hL.on hb))
  have FF := Lib.hid (fun (v : Value) (W : World) (hb : Below w.heap.size w W) (hr : ReadsW W v T) => routeFind v T host path W hr hTs (by omega) (hL.on hb))
  have AL := Lib.hid (fun (W : World) (hb : Below w.heap.size w W) => alive W (hL.on hb))
  have HLW := Lib.hid (fun (W : World) (hb : Below w.heap.size w W) => hL.on hb)
  have HROT := Lib.hid (fun h k => find_rot (L := T) h k host path)
  have HLAST := Lib.hid (fun h hA => find_last (L := T) h hA host path)
  have HA := Lib.hid (fun (v : Value) (W : World) (hb : Below w.heap.size w W) (hr : ReadsW W v (T ++ [lastRt])) => refRoutesRight v (T ++ [lastRt]) W hr (fun f hf => by
    rcases List.mem_append.1 hf with hf | hf
    · exact hTs f hf
    · obtain rfl : f = lastRt := by simpa using hf
      decide) (by simp; omega) (hL.on hb))
  have HFA := Lib.hid (fun (v : Value) (W : World) (hb : Below w.heap.size w W) (hr : ReadsW W v (T ++ [lastRt])) => routeFind v (T ++ [lastRt]) host path W hr (fun f hf => by
    rcases List.mem_append.1 hf with hf | hf
    · exact hTs f hf
    · obtain rfl : f = lastRt := by simpa using hf
      decide) (by simp; omega) (hL.on hb))
  obtain ⟨R, hR⟩ : ∃ R, rightRt T = R := ⟨_, rfl⟩
  rw [hR] at RR HROT HLAST
  clear hm hTs hL hR
  go_enter Tryd.func3, Tryd.ntmps3
  go_wp2_with (go_at_call 5; (with_reducible refine Calls.mono C0.out ?_); rintro e w1 ⟨v1, rfl, hr1, hb1⟩; have HR1 := Lib.hid hr1; have HB1 := Lib.hid hb1; obtain ⟨ao, cap, rfl, g1, g2, _, _⟩ := hr1; clear hb1)
  have HBX := Lib.hid HB1.out
  have hz1 := HB1.out.size
  cases R with
  | false =>
    clear HROT HLAST FF HA HFA
    go_wp2_with (first
      | (go_at_call 6; (with_reducible refine Calls.mono (RR.out _ _ HBX.out HR1.out) ?_); rintro e w2 ⟨rfl, hb2⟩; have HBX := Lib.hid (HBX.out.trans (hb2.mono HBX.out.size)); clear hb2)
      | (go_at_call 7; (with_reducible refine Calls.mono (AL.out _ HBX.out) ?_); rintro e w3 ⟨rfl, hb3⟩; have HBX := Lib.hid (HBX.out.trans (hb3.mono HBX.out.size)); clear hb3)
      | fail)
    go_ret
    exact ⟨rfl, HBX.out⟩
  | true =>
    by_cases h0 : T.length = 0
    · have h0i : ((T.length : Int) == 0) = true := by simpa using h0
      clear HROT HLAST FF HA HFA
      go_wp2_with (first
        | (go_at_call 6; (with_reducible refine Calls.mono (RR.out _ _ HBX.out HR1.out) ?_); rintro e w2 ⟨rfl, hb2⟩; have HBX := Lib.hid (HBX.out.trans (hb2.mono HBX.out.size)); clear hb2)
        | (go_at_call 7; (with_reducible refine Calls.mono (AL.out _ HBX.out) ?_); rintro e w3 ⟨rfl, hb3⟩; have HBX := Lib.hid (HBX.out.trans (hb3.mono HBX.out.size)); clear hb3)
        | fail)
      go_ret
      exact ⟨rfl, HBX.out⟩
    · have h0i : ((T.length : Int) == 0) = false := by simpa using h0
      have h0p : ((T.length : Int) = 0) = False := by simpa using h0
      obtain ⟨k, hk, hk1, hk2, hk3⟩ := mod_twice by0 T.length (by omega)
      have hkn : k ≤ T.length := by omega
      have hw1 : IntKind.i64.wrap (by0.tmod T.length + T.length) = by0.tmod T.length + T.length := by rw [IntKind.wrap_i64]; omega
      have hw2 : IntKind.i64.wrap (by0.tmod T.length) = by0.tmod T.length := by rw [IntKind.wrap_i64]; omega
      have hw3 : IntKind.i64.wrap (k : Int) = k := by rw [IntKind.wrap_i64]; omega
      obtain ⟨_, _, e1, _, _, _, hcc⟩ := id HR1.out
      injection e1 with e2 e3 e4
      subst e2
      obtain ⟨bb, off, rfl, hbb, -⟩ := hcc (by omega)
      clear hcc e3 e4
      have hck : (cap = k) = False := by rw [eq_iff_iff, iff_false]; omega
      have hkc : k ≤ cap := by omega
      have hrot := HROT.out rfl k
      have hlast := HLAST.out rfl
      obtain ⟨⟨a, e⟩, hf⟩ : ∃ x, findR T host path = x := ⟨_, rfl⟩
      rw [hf] at hrot hlast FF
      simp only at hlast FF
      have HLA := Lib.hid hlast
      have FR := Lib.hid (fun (v : Value) (W : World) (hb : Below w.heap.size w W) (hr : ReadsW W v (T.drop k ++ T.take k)) => routeFind v (T.drop k ++ T.take k) host path W hr (fun f hf => by
        rcases List.mem_append.1 hf with hf | hf
        · exact HTs.out f (List.mem_of_mem_drop hf)
        · exact HTs.out f (List.mem_of_mem_take hf)) (by simp; omega) (HLW.out W hb))
      rw [hrot] at FR
      simp only at FR
      clear HROT HLAST hlast hrot hf
      go_wp2_with (first
        | (go_at_call 6; (with_reducible refine Calls.mono (RR.out _ _ HBX.out HR1.out) ?_); rintro e w2 ⟨rfl, hb2⟩; have HBX := Lib.hid (HBX.out.trans (hb2.mono HBX.out.size)); have HR2 := Lib.hid (HR1.out.below hb2); clear hb2)
        | (go_at_call 8; (with_reducible refine Calls.mono (FF.out _ _ HBX.out HR2.out) ?_); rintro e w3 ⟨rfl, hb3⟩; have HBX := Lib.hid (HBX.out.trans (hb3.mono HBX.out.size)); have HR3 := Lib.hid (HR2.out.below hb3); clear hb3)
        | fail)
      have HB3 := Lib.hid HBX.out
      have hz3 := HB3.out.size
      have HD := Lib.hid (HR3.out.drop hkn)
      have HK := Lib.hid (HR3.out.take' hkn)
      go_upto_region 7 with fail
      go_cut [12, 13] (fun bv ev wx => bv = .string (S a) ∧ ev = .int .i64 e ∧ Below w3.heap.size w3 wx)
      case first =>
        · go_region_law (first
            | (refine step_append_wrow rfl _ _ rfl _ w3.heap.size _ [] (OwnsW.empty_at (new_cells w3) (Nat.le_refl _)) rfl _ _ _ (T.drop k) (HD.out.below (by (repeat (first | (with_reducible exact Below.refl _ _) | (with_reducible assumption) | (with_reducible refine Below.drew ?_) | (focus ((with_reducible refine Below.setCell ?_ ?_ _); rotate_left; (first | omega | (simp <;> omega)))) | (focus ((with_reducible refine Below.alloc ?_ ?_ _); rotate_left; (first | omega | (simp <;> omega)))) | exact Below.refl _ _ | assumption | refine Below.drew ?_ | refine Below.alloc ?_ (by first | omega | (simp <;> omega)) _ | refine Below.setCell ?_ (by first | omega | (simp <;> omega)) _)))) rfl (by (first | omega | (simp <;> omega))) (by (first | omega | (simp <;> omega))) ?_; intro v5 w5 hown5 hg5; have hb5 := Below.grown (show Below w3.heap.size w3 _ by (repeat (first | (with_reducible exact Below.refl _ _) | (with_reducible assumption) | (with_reducible refine Below.drew ?_) | (focus ((with_reducible refine Below.setCell ?_ ?_ _); rotate_left; (first | omega | (simp <;> omega)))) | (focus ((with_reducible refine Below.alloc ?_ ?_ _); rotate_left; (first | omega | (simp <;> omega)))) | exact Below.refl _ _ | assumption | refine Below.drew ?_ | refine Below.alloc ?_ (by first | omega | (simp <;> omega)) _ | refine Below.setCell ?_ (by first | omega | (simp <;> omega)) _))) hg5 (by (first | omega | (simp <;> omega))) (fun k hk => by simp [Value.ownBlock] at hk; omega); have hz5 := hb5.size; have HB5 := Lib.hid hb5; have HO5 := Lib.hid (show OwnsW w5 w3.heap.size v5 (T.drop k) by simpa using hown5); clear hown5 hg5 hb5)
            | (refine step_append_wrow rfl _ _ rfl _ w3.heap.size _ (T.drop k) HO5.out rfl _ _ _ (T.take k) (HK.out.below HB5.out) rfl (by (first | omega | (simp <;> omega))) (by (first | omega | (simp <;> omega))) ?_; intro v6 w6 hown6 hg6; have hb6 := Below.grown HB5.out hg6 (by omega) (fun k hk => (World.ownsRow.lt HO5.out k hk).1); have hz6 := hb6.size; have HB6 := Lib.hid hb6; have HO6 := Lib.hid hown6.reads; clear hown6 hg6 hb6)
            | (go_simp; go_at_call 8; (with_reducible refine Calls.mono (FR.out _ _ (HB3.out.trans (HB6.out.mono hz3)) HO6.out) ?_); rintro e7 w7 ⟨rfl, hb7⟩; have hb8 := HB6.out.trans (hb7.mono (by omega))))
          all_goals (go_wp2_with fail; go_meet)
          all_goals (exact ⟨rfl, rfl, hb8⟩)
      case rest =>
        obtain ⟨rfl, rfl, hbc⟩ := hcut
        obtain ⟨wd, hwd⟩ : ∃ y, y = wc := ⟨_, rfl⟩
        rw [← hwd] at hbc ⊢
        clear hwd
        have HB4 := Lib.hid (HB3.out.trans (hbc.mono hz3))
        have HR4 := Lib.hid (HR3.out.below hbc)
        have hz4 := HB4.out.size
        clear hbc HBX HB3 HD HK HR1 HR2 HR3 FF FR RR HTs HB1 C0 HLW
        obtain ⟨RA, hRA⟩ : ∃ RA, rightRt (T ++ [lastRt]) = RA := ⟨_, rfl⟩
        rw [hRA] at HA HLA
        clear hRA
        cases RA with
        | false =>
          clear HFA HLA
          go_wp2_with (first
          | (go_at_call 7; (with_reducible refine Calls.mono (AL.out _ HB4.out) ?_); rintro e4 w4 ⟨rfl, hb4⟩; have HB5 := Lib.hid (HB4.out.trans (hb4.mono HB4.out.size)); have HR5 := Lib.hid (HR4.out.below hb4); have hz5 := HB5.out.size; clear hb4)
          | (at_builtin; refine wp_append_wrow rfl _ _ rfl _ w4.heap.size _ [] (OwnsW.made w4 w4.heap.size (Nat.le_refl _)) rfl _ cap T (HR5.out.below (by (repeat (first | (with_reducible exact Below.refl _ _) | (with_reducible assumption) | (with_reducible refine Below.drew ?_) | (focus ((with_reducible refine Below.setCell ?_ ?_ _); rotate_left; (first | omega | (simp <;> omega)))) | (focus ((with_reducible refine Below.alloc ?_ ?_ _); rotate_left; (first | omega | (simp <;> omega)))) | exact Below.refl _ _ | assumption | refine Below.drew ?_ | refine Below.alloc ?_ (by first | omega | (simp <;> omega)) _ | refine Below.setCell ?_ (by first | omega | (simp <;> omega)) _)))) rfl (by simp; omega) (by simp) ?_; intro v5 w5 hown hb; have HO5 := Lib.hid (show OwnsW w5 w4.heap.size v5 T by simpa using hown); have HBA := Lib.hid (Below.trans (show Below w4.heap.size w4 _ by (repeat (first | (with_reducible exact Below.refl _ _) | (with_reducible assumption) | (with_reducible refine Below.drew ?_) | (focus ((with_reducible refine Below.setCell ?_ ?_ _); rotate_left; (first | omega | (simp <;> omega)))) | (focus ((with_reducible refine Below.alloc ?_ ?_ _); rotate_left; (first | omega | (simp <;> omega)))) | exact Below.refl _ _ | assumption | refine Below.drew ?_ | refine Below.alloc ?_ (by first | omega | (simp <;> omega)) _ | refine Below.setCell ?_ (by first | omega | (simp <;> omega)) _))) hb); have hz6 := HBA.out.size; clear hown hb)
          | (at_builtin; refine wp_append_wrd rfl _ _ rfl w5 w4.heap.size _ T lastRt HO5.out rfl _ rfl rfl (by omega) (by omega) ?_; intro v6 w6 hown hb hg; have HO6 := Lib.hid hown.reads; have HBB := Lib.hid (HBA.out.trans hb); have HB6 := Lib.hid (HB5.out.trans (HBB.out.mono hz5)); have hz7 := HB6.out.size; clear hown hb hg)
          | (go_at_call 6; (with_reducible refine Calls.mono (HA.out _ _ HB6.out HO6.out) ?_); rintro e8 w8 ⟨rfl, hb8⟩; have HB8 := Lib.hid (HB6.out.trans (hb8.mono hz7)); have HO8 := Lib.hid (HO6.out.below hb8); have hz8 := HB8.out.size; clear hb8)
          | (go_at_call 8; (with_reducible refine Calls.mono (HFA.out _ _ HB8.out HO8.out) ?_); rintro e9 w9 ⟨rfl, hb9⟩; have HB9 := Lib.hid (HB8.out.trans (hb9.mono hz8)); clear hb9)
          | fail)
          go_ret
          exact ⟨rfl, HB8.out⟩
        | true =>
          have hla := HLA.out rfl
          obtain ⟨⟨c, g⟩, hcg⟩ : ∃ x, findR (T ++ [lastRt]) host path = x := ⟨_, rfl⟩
          rw [hcg] at HFA hla
          simp only [Prod.mk.injEq] at hla HFA
          clear HLA hcg
          rcases hla with ⟨rfl, rfl, rfl⟩ | ⟨he, ⟨hp, rfl, rfl⟩ | ⟨rfl, rfl⟩⟩
          · go_wp2_with (first
          | (go_at_call 7; (with_reducible refine Calls.mono (AL.out _ HB4.out) ?_); rintro e4 w4 ⟨rfl, hb4⟩; have HB5 := Lib.hid (HB4.out.trans (hb4.mono HB4.out.size)); have HR5 := Lib.hid (HR4.out.below hb4); have hz5 := HB5.out.size; clear hb4)
          | (at_builtin; refine wp_append_wrow rfl _ _ rfl _ w4.heap.size _ [] (OwnsW.made w4 w4.heap.size (Nat.le_refl _)) rfl _ cap T (HR5.out.below (by (repeat (first | (with_reducible exact Below.refl _ _) | (with_reducible assumption) | (with_reducible refine Below.drew ?_) | (focus ((with_reducible refine Below.setCell ?_ ?_ _); rotate_left; (first | omega | (simp <;> omega)))) | (focus ((with_reducible refine Below.alloc ?_ ?_ _); rotate_left; (first | omega | (simp <;> omega)))) | exact Below.refl _ _ | assumption | refine Below.drew ?_ | refine Below.alloc ?_ (by first | omega | (simp <;> omega)) _ | refine Below.setCell ?_ (by first | omega | (simp <;> omega)) _)))) rfl (by simp; omega) (by simp) ?_; intro v5 w5 hown hb; have HO5 := Lib.hid (show OwnsW w5 w4.heap.size v5 T by simpa using hown); have HBA := Lib.hid (Below.trans (show Below w4.heap.size w4 _ by (repeat (first | (with_reducible exact Below.refl _ _) | (with_reducible assumption) | (with_reducible refine Below.drew ?_) | (focus ((with_reducible refine Below.setCell ?_ ?_ _); rotate_left; (first | omega | (simp <;> omega)))) | (focus ((with_reducible refine Below.alloc ?_ ?_ _); rotate_left; (first | omega | (simp <;> omega)))) | exact Below.refl _ _ | assumption | refine Below.drew ?_ | refine Below.alloc ?_ (by first | omega | (simp <;> omega)) _ | refine Below.setCell ?_ (by first | omega | (simp <;> omega)) _))) hb); have hz6 := HBA.out.size; clear hown hb)
          | (at_builtin; refine wp_append_wrd rfl _ _ rfl w5 w4.heap.size _ T lastRt HO5.out rfl _ rfl rfl (by omega) (by omega) ?_; intro v6 w6 hown hb hg; have HO6 := Lib.hid hown.reads; have HBB := Lib.hid (HBA.out.trans hb); have HB6 := Lib.hid (HB5.out.trans (HBB.out.mono hz5)); have hz7 := HB6.out.size; clear hown hb hg)
          | (go_at_call 6; (with_reducible refine Calls.mono (HA.out _ _ HB6.out HO6.out) ?_); rintro e8 w8 ⟨rfl, hb8⟩; have HB8 := Lib.hid (HB6.out.trans (hb8.mono hz7)); have HO8 := Lib.hid (HO6.out.below hb8); have hz8 := HB8.out.size; clear hb8)
          | (go_at_call 8; (with_reducible refine Calls.mono (HFA.out _ _ HB8.out HO8.out) ?_); rintro e9 w9 ⟨rfl, hb9⟩; have HB9 := Lib.hid (HB8.out.trans (hb9.mono hz8)); clear hb9)
          | fail)
            go_ret
            exact ⟨rfl, HB9.out⟩
          · have he1 : (e == 0) = false := by simpa using he
            have he2 : (e = 0) = False := eq_false he
            obtain ⟨rest, rfl⟩ : ∃ rest, path = 47 :: rest := by
              cases path with
              | nil => simp [Lib.hasPrefix] at hp
              | cons x r => simp [Lib.hasPrefix] at hp; exact ⟨r, by rw [hp]⟩
            clear hp
            go_wp2_with (first
          | (go_at_call 7; (with_reducible refine Calls.mono (AL.out _ HB4.out) ?_); rintro e4 w4 ⟨rfl, hb4⟩; have HB5 := Lib.hid (HB4.out.trans (hb4.mono HB4.out.size)); have HR5 := Lib.hid (HR4.out.below hb4); have hz5 := HB5.out.size; clear hb4)
          | (at_builtin; refine wp_append_wrow rfl _ _ rfl _ w4.heap.size _ [] (OwnsW.made w4 w4.heap.size (Nat.le_refl _)) rfl _ cap T (HR5.out.below (by (repeat (first | (with_reducible exact Below.refl _ _) | (with_reducible assumption) | (with_reducible refine Below.drew ?_) | (focus ((with_reducible refine Below.setCell ?_ ?_ _); rotate_left; (first | omega | (simp <;> omega)))) | (focus ((with_reducible refine Below.alloc ?_ ?_ _); rotate_left; (first | omega | (simp <;> omega)))) | exact Below.refl _ _ | assumption | refine Below.drew ?_ | refine Below.alloc ?_ (by first | omega | (simp <;> omega)) _ | refine Below.setCell ?_ (by first | omega | (simp <;> omega)) _)))) rfl (by simp; omega) (by simp) ?_; intro v5 w5 hown hb; have HO5 := Lib.hid (show OwnsW w5 w4.heap.size v5 T by simpa using hown); have HBA := Lib.hid (Below.trans (show Below w4.heap.size w4 _ by (repeat (first | (with_reducible exact Below.refl _ _) | (with_reducible assumption) | (with_reducible refine Below.drew ?_) | (focus ((with_reducible refine Below.setCell ?_ ?_ _); rotate_left; (first | omega | (simp <;> omega)))) | (focus ((with_reducible refine Below.alloc ?_ ?_ _); rotate_left; (first | omega | (simp <;> omega)))) | exact Below.refl _ _ | assumption | refine Below.drew ?_ | refine Below.alloc ?_ (by first | omega | (simp <;> omega)) _ | refine Below.setCell ?_ (by first | omega | (simp <;> omega)) _))) hb); have hz6 := HBA.out.size; clear hown hb)
          | (at_builtin; refine wp_append_wrd rfl _ _ rfl w5 w4.heap.size _ T lastRt HO5.out rfl _ rfl rfl (by omega) (by omega) ?_; intro v6 w6 hown hb hg; have HO6 := Lib.hid hown.reads; have HBB := Lib.hid (HBA.out.trans hb); have HB6 := Lib.hid (HB5.out.trans (HBB.out.mono hz5)); have hz7 := HB6.out.size; clear hown hb hg)
          | (go_at_call 6; (with_reducible refine Calls.mono (HA.out _ _ HB6.out HO6.out) ?_); rintro e8 w8 ⟨rfl, hb8⟩; have HB8 := Lib.hid (HB6.out.trans (hb8.mono hz7)); have HO8 := Lib.hid (HO6.out.below hb8); have hz8 := HB8.out.size; clear hb8)
          | (go_at_call 8; (with_reducible refine Calls.mono (HFA.out _ _ HB8.out HO8.out) ?_); rintro e9 w9 ⟨rfl, hb9⟩; have HB9 := Lib.hid (HB8.out.trans (hb9.mono hz8)); clear hb9)
          | fail)
            go_ret
            exact ⟨ret_bool (by simp), HB9.out⟩
          · have he1 : (e == 0) = false := by simpa using he
            have he2 : (e = 0) = False := eq_false he
            cases path with
            | nil =>
              go_wp2_with (first
          | (go_at_call 7; (with_reducible refine Calls.mono (AL.out _ HB4.out) ?_); rintro e4 w4 ⟨rfl, hb4⟩; have HB5 := Lib.hid (HB4.out.trans (hb4.mono HB4.out.size)); have HR5 := Lib.hid (HR4.out.below hb4); have hz5 := HB5.out.size; clear hb4)
          | (at_builtin; refine wp_append_wrow rfl _ _ rfl _ w4.heap.size _ [] (OwnsW.made w4 w4.heap.size (Nat.le_refl _)) rfl _ cap T (HR5.out.below (by (repeat (first | (with_reducible exact Below.refl _ _) | (with_reducible assumption) | (with_reducible refine Below.drew ?_) | (focus ((with_reducible refine Below.setCell ?_ ?_ _); rotate_left; (first | omega | (simp <;> omega)))) | (focus ((with_reducible refine Below.alloc ?_ ?_ _); rotate_left; (first | omega | (simp <;> omega)))) | exact Below.refl _ _ | assumption | refine Below.drew ?_ | refine Below.alloc ?_ (by first | omega | (simp <;> omega)) _ | refine Below.setCell ?_ (by first | omega | (simp <;> omega)) _)))) rfl (by simp; omega) (by simp) ?_; intro v5 w5 hown hb; have HO5 := Lib.hid (show OwnsW w5 w4.heap.size v5 T by simpa using hown); have HBA := Lib.hid (Below.trans (show Below w4.heap.size w4 _ by (repeat (first | (with_reducible exact Below.refl _ _) | (with_reducible assumption) | (with_reducible refine Below.drew ?_) | (focus ((with_reducible refine Below.setCell ?_ ?_ _); rotate_left; (first | omega | (simp <;> omega)))) | (focus ((with_reducible refine Below.alloc ?_ ?_ _); rotate_left; (first | omega | (simp <;> omega)))) | exact Below.refl _ _ | assumption | refine Below.drew ?_ | refine Below.alloc ?_ (by first | omega | (simp <;> omega)) _ | refine Below.setCell ?_ (by first | omega | (simp <;> omega)) _))) hb); have hz6 := HBA.out.size; clear hown hb)
          | (at_builtin; refine wp_append_wrd rfl _ _ rfl w5 w4.heap.size _ T lastRt HO5.out rfl _ rfl rfl (by omega) (by omega) ?_; intro v6 w6 hown hb hg; have HO6 := Lib.hid hown.reads; have HBB := Lib.hid (HBA.out.trans hb); have HB6 := Lib.hid (HB5.out.trans (HBB.out.mono hz5)); have hz7 := HB6.out.size; clear hown hb hg)
          | (go_at_call 6; (with_reducible refine Calls.mono (HA.out _ _ HB6.out HO6.out) ?_); rintro e8 w8 ⟨rfl, hb8⟩; have HB8 := Lib.hid (HB6.out.trans (hb8.mono hz7)); have HO8 := Lib.hid (HO6.out.below hb8); have hz8 := HB8.out.size; clear hb8)
          | (go_at_call 8; (with_reducible refine Calls.mono (HFA.out _ _ HB8.out HO8.out) ?_); rintro e9 w9 ⟨rfl, hb9⟩; have HB9 := Lib.hid (HB8.out.trans (hb9.mono hz8)); clear hb9)
          | fail)
              go_ret
              exact ⟨ret_bool (by simp), HB9.out⟩
            | cons x r =>
              by_cases hx : x = 47
              · subst hx
                go_wp2_with (first
          | (go_at_call 7; (with_reducible refine Calls.mono (AL.out _ HB4.out) ?_); rintro e4 w4 ⟨rfl, hb4⟩; have HB5 := Lib.hid (HB4.out.trans (hb4.mono HB4.out.size)); have HR5 := Lib.hid (HR4.out.below hb4); have hz5 := HB5.out.size; clear hb4)
          | (at_builtin; refine wp_append_wrow rfl _ _ rfl _ w4.heap.size _ [] (OwnsW.made w4 w4.heap.size (Nat.le_refl _)) rfl _ cap T (HR5.out.below (by (repeat (first | (with_reducible exact Below.refl _ _) | (with_reducible assumption) | (with_reducible refine Below.drew ?_) | (focus ((with_reducible refine Below.setCell ?_ ?_ _); rotate_left; (first | omega | (simp <;> omega)))) | (focus ((with_reducible refine Below.alloc ?_ ?_ _); rotate_left; (first | omega | (simp <;> omega)))) | exact Below.refl _ _ | assumption | refine Below.drew ?_ | refine Below.alloc ?_ (by first | omega | (simp <;> omega)) _ | refine Below.setCell ?_ (by first | omega | (simp <;> omega)) _)))) rfl (by simp; omega) (by simp) ?_; intro v5 w5 hown hb; have HO5 := Lib.hid (show OwnsW w5 w4.heap.size v5 T by simpa using hown); have HBA := Lib.hid (Below.trans (show Below w4.heap.size w4 _ by (repeat (first | (with_reducible exact Below.refl _ _) | (with_reducible assumption) | (with_reducible refine Below.drew ?_) | (focus ((with_reducible refine Below.setCell ?_ ?_ _); rotate_left; (first | omega | (simp <;> omega)))) | (focus ((with_reducible refine Below.alloc ?_ ?_ _); rotate_left; (first | omega | (simp <;> omega)))) | exact Below.refl _ _ | assumption | refine Below.drew ?_ | refine Below.alloc ?_ (by first | omega | (simp <;> omega)) _ | refine Below.setCell ?_ (by first | omega | (simp <;> omega)) _))) hb); have hz6 := HBA.out.size; clear hown hb)
          | (at_builtin; refine wp_append_wrd rfl _ _ rfl w5 w4.heap.size _ T lastRt HO5.out rfl _ rfl rfl (by omega) (by omega) ?_; intro v6 w6 hown hb hg; have HO6 := Lib.hid hown.reads; have HBB := Lib.hid (HBA.out.trans hb); have HB6 := Lib.hid (HB5.out.trans (HBB.out.mono hz5)); have hz7 := HB6.out.size; clear hown hb hg)
          | (go_at_call 6; (with_reducible refine Calls.mono (HA.out _ _ HB6.out HO6.out) ?_); rintro e8 w8 ⟨rfl, hb8⟩; have HB8 := Lib.hid (HB6.out.trans (hb8.mono hz7)); have HO8 := Lib.hid (HO6.out.below hb8); have hz8 := HB8.out.size; clear hb8)
          | (go_at_call 8; (with_reducible refine Calls.mono (HFA.out _ _ HB8.out HO8.out) ?_); rintro e9 w9 ⟨rfl, hb9⟩; have HB9 := Lib.hid (HB8.out.trans (hb9.mono hz8)); clear hb9)
          | fail)
                go_ret
                exact ⟨ret_bool (by simp), HB9.out⟩
              · have hx1 : (x == 47) = false := by simpa using hx
                go_wp2_with (first
          | (go_at_call 7; (with_reducible refine Calls.mono (AL.out _ HB4.out) ?_); rintro e4 w4 ⟨rfl, hb4⟩; have HB5 := Lib.hid (HB4.out.trans (hb4.mono HB4.out.size)); have HR5 := Lib.hid (HR4.out.below hb4); have hz5 := HB5.out.size; clear hb4)
          | (at_builtin; refine wp_append_wrow rfl _ _ rfl _ w4.heap.size _ [] (OwnsW.made w4 w4.heap.size (Nat.le_refl _)) rfl _ cap T (HR5.out.below (by (repeat (first | (with_reducible exact Below.refl _ _) | (with_reducible assumption) | (with_reducible refine Below.drew ?_) | (focus ((with_reducible refine Below.setCell ?_ ?_ _); rotate_left; (first | omega | (simp <;> omega)))) | (focus ((with_reducible refine Below.alloc ?_ ?_ _); rotate_left; (first | omega | (simp <;> omega)))) | exact Below.refl _ _ | assumption | refine Below.drew ?_ | refine Below.alloc ?_ (by first | omega | (simp <;> omega)) _ | refine Below.setCell ?_ (by first | omega | (simp <;> omega)) _)))) rfl (by simp; omega) (by simp) ?_; intro v5 w5 hown hb; have HO5 := Lib.hid (show OwnsW w5 w4.heap.size v5 T by simpa using hown); have HBA := Lib.hid (Below.trans (show Below w4.heap.size w4 _ by (repeat (first | (with_reducible exact Below.refl _ _) | (with_reducible assumption) | (with_reducible refine Below.drew ?_) | (focus ((with_reducible refine Below.setCell ?_ ?_ _); rotate_left; (first | omega | (simp <;> omega)))) | (focus ((with_reducible refine Below.alloc ?_ ?_ _); rotate_left; (first | omega | (simp <;> omega)))) | exact Below.refl _ _ | assumption | refine Below.drew ?_ | refine Below.alloc ?_ (by first | omega | (simp <;> omega)) _ | refine Below.setCell ?_ (by first | omega | (simp <;> omega)) _))) hb); have hz6 := HBA.out.size; clear hown hb)
          | (at_builtin; refine wp_append_wrd rfl _ _ rfl w5 w4.heap.size _ T lastRt HO5.out rfl _ rfl rfl (by omega) (by omega) ?_; intro v6 w6 hown hb hg; have HO6 := Lib.hid hown.reads; have HBB := Lib.hid (HBA.out.trans hb); have HB6 := Lib.hid (HB5.out.trans (HBB.out.mono hz5)); have hz7 := HB6.out.size; clear hown hb hg)
          | (go_at_call 6; (with_reducible refine Calls.mono (HA.out _ _ HB6.out HO6.out) ?_); rintro e8 w8 ⟨rfl, hb8⟩; have HB8 := Lib.hid (HB6.out.trans (hb8.mono hz7)); have HO8 := Lib.hid (HO6.out.below hb8); have hz8 := HB8.out.size; clear hb8)
          | (go_at_call 8; (with_reducible refine Calls.mono (HFA.out _ _ HB8.out HO8.out) ?_); rintro e9 w9 ⟨rfl, hb9⟩; have HB9 := Lib.hid (HB8.out.trans (hb9.mono hz8)); clear hb9)
          | fail)
                all_goals (go_ret; exact ⟨ret_bool (by simp), HB9.out⟩)
end Go.Proofs.YtgjemgilanhdiaaDoor
