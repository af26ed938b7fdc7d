/- The law RouteHosts: its walk. -/
import Derived.Test.YtgjemgilanhdiaaGreatDoorRh35
import Derived.Test.YtgjemgilanhdiaaGreatDoorRh46
namespace Go.Proofs.YtgjemgilanhdiaaGreatDoor
open Go.RowKit Go.Sort Go.Shelf
set_option linter.unusedVariables false
set_option linter.unusedSimpArgs false

def getS (t : List UInt8) : St := ⟨[71, 69, 84], t, 0, [], 1⟩
theorem getS_ok {t : List UInt8} (h : targetL t = true) : startOk (getS t) = true := by
  have hk : tokenL [71, 69, 84] = true := by decide
  unfold startOk getS
  simp only [h, hk]
  rfl
theorem find_bad_nil {L : List Wrd} {host path : List UInt8} {o : List UInt8} {g : Int} (h : findR L host path = (o, g)) (hg : g ≠ 0) : o = [] := by
  unfold findR at h
  split at h
  · split at h
    · exact (Prod.mk.inj h).1.symm
    · exact absurd (Prod.mk.inj h).2.symm hg
  · exact (Prod.mk.inj h).1.symm
/-- What both requests ask. -/
theorem hosts_ask {L : List Wrd} {q : List UInt8} (hR : rightRt L = true) (hq : q.length ≤ 100) (hp : ∀ c ∈ q, pathB c = true) {o : List UInt8} {g : Int} (hf : findR L [107] (47 :: q) = (o, g)) (h : List UInt8) :
    askR L (getS (httpL ++ (107 :: 47 :: q))) h = (if g ≠ 0 then (UU.nil, [], g) else (⟨true, [107], 0, 47 :: q, false, []⟩, o, 0)) ∧
    askR L (getS (47 :: q)) [107] = (if g ≠ 0 then (UU.nil, [], g) else (⟨true, [107], 0, 47 :: q, false, []⟩, o, 0)) := by
  obtain ⟨t1, t2, t3, t4⟩ := clean_target hq hp
  have hpar := clean_parse hq hp
  refine ⟨?_, ?_⟩
  · have := askR_yes (L := L) (s := getS (httpL ++ (107 :: 47 :: q))) (h := h) ⟨hR, getS_ok t2, rfl⟩ (q := httpL ++ (107 :: 47 :: q)) (by unfold askT getS; simp only; rw [if_pos t4]) hpar hf
    rw [this, if_neg (by simp)]
  · have := askR_yes (L := L) (s := getS (47 :: q)) (h := [107]) ⟨hR, getS_ok t1, rfl⟩ (q := httpL ++ (107 :: 47 :: q)) (by unfold askT getS; simp only; rw [t3]; rfl) hpar hf
    rw [this, if_neg (by simp)]

theorem reads_one {W : World} {b : Nat} {n x : List UInt8} (hb : b < W.heap.size) (h0 : W.cell? ⟨b, 0, none⟩ = some (.string (S n))) (h1 : W.cell? ⟨b, 1, none⟩ = some (.string (S x))) : ReadsF W (.slice (some ⟨b, 0, none⟩) 1 1) [(n, x)] := by
  refine ⟨some ⟨b, 0, none⟩, 1, rfl, by simp, by decide, by simp, fun _ => ⟨b, 0, rfl, hb, fun j hj => ?_⟩⟩
  obtain rfl : j = 0 := by simp at hj; omega
  exact ⟨by simpa using h0, by simpa using h1⟩
set_option maxHeartbeats 6400000 in
set_option maxRecDepth 100000 in
theorem routeHosts_any (v : Value) (L : List (List Value)) (c : ByteArray) (w : World) (hv : RowsIn w 3 v L ∧ ∀ c ∈ L, AllSh [.str, .str, .str] c) (k1 : c.size ≤ maxLen) (hL : Laid w) :
    Calls Tryz.prog 4 #[v, .string c] w fun e w' => e = .returned (.bool true) ∧ Below w.heap.size w w' := by
  obtain ⟨xs, hr0, hxl⟩ := reads_inW hv
  have C0 := Lib.hid (rtFew v xs w hr0 hxl)
  clear hr0 hxl hv
  obtain ⟨T, hT⟩ : ∃ T, fewR xs = T := ⟨_, rfl⟩
  have hTs : ∀ f ∈ T, f.1.length ≤ 900 ∧ f.2.1.length ≤ 900 ∧ f.2.2.length ≤ 900 := fun f hf => by
    have := fewR_small xs f (by rw [hT]; exact hf)
    omega
  have hTl : T.length ≤ 20 := by rw [← hT]; exact fewR_len xs
  rw [hT] at C0
  clear hT
  obtain ⟨path, rfl⟩ := S_of c
  rw [S_size] at k1
  have hm : maxLen = 9223372036854775807 := rfl
  rw [hm] at k1
  have RR := Lib.hid (fun (v : Value) (W : World) (hb : Below w.heap.size w W) (hr : ReadsW W v T) => refRoutesRight v T W hr hTs (by omega) (hL.on hb))
  have AL := Lib.hid (fun (W : World) (hb : Below w.heap.size w W) => alive W (hL.on hb))
  have FF := Lib.hid (fun (v : Value) (p : List UInt8) (W : World) (hb : Below w.heap.size w W) (hr : ReadsW W v T) => routeFind v T [107] p W hr hTs (by omega) (hL.on hb))
  have AK := Lib.hid (fun (v : Value) (t : List UInt8) (ht : t.length ≤ 1000) (fv : Value) (F : List Fld) (hF : ∀ f ∈ F, f.1.length ≤ 100 ∧ f.2.length ≤ 100) (W : World) (hb : Below w.heap.size w W) (hr : ReadsW W v T) (hfr : ReadsF W fv F) =>
    routeAsk v T (getS t) fv F [] W hr hTs (by omega) hfr (fun f hf => by have := hF f hf; omega) (by simp [getS]) (by simp only [getS]; omega) (by simp [getS]) (hL.on hb) (fun W => startRight0 (getS t) (by simp [getS]) (by simp only [getS]; omega) rfl W))
  have HH := Lib.hid (fun (hR : rightRt T = true) (q : List UInt8) (hq : q.length ≤ 100) (hp : ∀ c ∈ q, pathB c = true) (o : List UInt8) (g : Int) (hf : findR T [107] (47 :: q) = (o, g)) (h : List UInt8) => hosts_ask hR hq hp hf h)
  obtain ⟨m, hmm, hml, hm30⟩ : ∃ m : Nat, min (path.length : Int) 30 = m ∧ m ≤ path.length ∧ m ≤ 30 := ⟨min path.length 30, by omega, by omega, by omega⟩
  obtain ⟨R, hR⟩ : ∃ R, rightRt T = R := ⟨_, rfl⟩
  rw [hR] at RR HH
  clear hm hTs hL hR
  go_enter Tryz.func4, Tryz.ntmps4
  go_wp2_with (go_at_call 5; (with_reducible refine Calls.mono C0.out ?_); rintro e w1 ⟨v1, rfl, hr1, hb1⟩; have HR1 := Lib.hid hr1; have HB1 := Lib.hid hb1; obtain ⟨ao, cap, rfl, g1, g2, _, _⟩ := hr1; clear hb1)
  have HBX := Lib.hid HB1.out
  have hz1 := HB1.out.size
  cases R with
  | false =>
    clear FF AK HH
    go_wp2_with (first
      | (go_at_call 10; (with_reducible refine Calls.mono (RR.out _ _ HBX.out HR1.out) ?_); rintro e w2 ⟨rfl, hb2⟩; have HBX := Lib.hid (HBX.out.trans (hb2.mono HBX.out.size)); clear hb2)
      | (go_at_call 11; (with_reducible refine Calls.mono (AL.out _ HBX.out) ?_); rintro e w3 ⟨rfl, hb3⟩; have HBX := Lib.hid (HBX.out.trans (hb3.mono HBX.out.size)); clear hb3)
      | fail)
    go_ret
    exact ⟨rfl, HBX.out⟩
  | true =>
    go_wp2_with (first
      | (go_at_call 10; (with_reducible refine Calls.mono (RR.out _ _ HBX.out HR1.out) ?_); rintro e w2 ⟨rfl, hb2⟩; have HBX := Lib.hid (HBX.out.trans (hb2.mono HBX.out.size)); have HR2 := Lib.hid (HR1.out.below hb2); clear hb2)
      | fail)
    try simp only [mk_S]
    have HB2 := Lib.hid HBX.out
    have hz2 := HB2.out.size
    clear HBX HB1 HR1 RR
    go_loop [5, 27] (fun pv iv => ∃ (k : Nat) (q : List UInt8), iv = .int .i64 k ∧ pv = .string (S (47 :: q)) ∧ k ≤ m ∧ (∀ x ∈ q, pathB x = true) ∧ q.length ≤ k) (fun _ iv => m - (intOf iv).toNat)
    case atStart => exact ⟨0, [], rfl, rfl, Nat.zero_le _, by simp, by simp⟩
    case round =>
      obtain ⟨k, q, rfl, rfl, hk, hp, hpl⟩ := hrel
      have HP := Lib.hid hp
      clear hp
      by_cases hkm : k < m
      · have hks : k < path.length := by omega
        have hbat := bAt_eq hks
        obtain ⟨c, hc⟩ : ∃ c, path[k] = c := ⟨_, rfl⟩
        rw [hc] at hbat
        have hsl : (path.take (k + 1)).drop k = [c] := by rw [List.drop_take, show k + 1 - k = 1 by omega, List.drop_eq_getElem_cons hks, hc]; rfl
        have HPC := Lib.hid (fun (h : pathB c = true) => (show ∀ x ∈ q ++ [c], pathB x = true from fun x hx => (List.mem_append.1 hx).elim (fun h' => HP.out x h') (fun h' => by rw [List.mem_singleton.1 h']; exact h)))
        have LB := Lib.hid (show pathB c = ((decide (97 ≤ c.toNat) && decide (c.toNat ≤ 122)) || decide (c.toNat = 47)) from rfl)
        clear hc
        obtain ⟨z, hz⟩ : ∃ z, c.toNat = z := ⟨_, rfl⟩
        rw [hz] at hbat LB
        clear hz
        by_cases g1 : 97 ≤ z
        · have i1 : (97 : Int) ≤ bAt path k := by omega
          have i3 : (bAt path k == (47 : Int)) = false := by simp only [beq_eq_false_iff_ne, ne_eq]; omega
          by_cases g2 : z ≤ 122
          · have i2 : bAt path k ≤ (122 : Int) := by omega
            have HL := Lib.hid (HPC.out (by rw [LB.out]; simp; omega))
            clear hbat
            go_wp2_with fail
            go_round
            case rel => exact ⟨k + 1, q ++ [c], by go_num, rfl, by omega, HL.out, by simp; omega⟩
            case measure => simp [intOf]; omega
          · have i2 : ¬ bAt path k ≤ (122 : Int) := by omega
            clear hbat
            go_wp2_with fail
            go_round
            case rel => exact ⟨k + 1, q, by go_num, rfl, by omega, HP.out, by omega⟩
            case measure => simp [intOf]; omega
        · have i1 : ¬ (97 : Int) ≤ bAt path k := by omega
          by_cases g3 : z = 47
          · have i3 : (bAt path k == (47 : Int)) = true := by rw [hbat, g3]; rfl
            have HL := Lib.hid (HPC.out (by rw [LB.out]; simp; omega))
            clear hbat
            go_wp2_with fail
            go_round
            case rel => exact ⟨k + 1, q ++ [c], by go_num, rfl, by omega, HL.out, by simp; omega⟩
            case measure => simp [intOf]; omega
          · have i3 : (bAt path k == (47 : Int)) = false := by simp only [beq_eq_false_iff_ne, ne_eq]; omega
            clear hbat
            go_wp2_with fail
            go_round
            case rel => exact ⟨k + 1, q, by go_num, rfl, by omega, HP.out, by omega⟩
            case measure => simp [intOf]; omega
      · obtain rfl : k = m := by omega
        obtain ⟨⟨o, g⟩, hf⟩ : ∃ x, findR T [107] (47 :: q) = x := ⟨_, rfl⟩
        have hq100 : q.length ≤ 100 := by omega
        have HAB := fun h => HH.out (by first | rfl | trivial) q hq100 HP.out o g hf h
        have HNIL := Lib.hid (fun hg => find_bad_nil hf hg)
        have hg1 : getV [(([104, 111, 115, 116] : List UInt8), ([107] : List UInt8))] [72, 111, 115, 116] = ([107], true) := by decide
        have KA := Lib.hid (fun W hb hr hfr => AK.out (.slice ao T.length cap) (httpL ++ (107 :: 47 :: q)) (by have : httpL.length = 7 := rfl; simp only [List.length_append, List.length_cons]; omega) (.slice none 0 0) [] (by simp) W hb hr hfr)
        rw [(HAB _).1] at KA
        have KB := Lib.hid (fun b W hb hr hfr => AK.out (.slice ao T.length cap) (47 :: q) (by simp only [List.length_cons]; omega) (.slice (some ⟨b, 0, none⟩) 1 1) [([104, 111, 115, 116], [107])] (by simp) W hb hr hfr)
        rw [hg1] at KB
        simp only at KB
        rw [(HAB [107]).2] at KB
        have FK := Lib.hid (fun W hb hr => FF.out (.slice ao T.length cap) (47 :: q) W hb hr)
        rw [hf] at FK
        unfold getS httpL at KA
        unfold getS at KB
        simp only [List.cons_append, List.nil_append] at KA KB FK
        unfold askV UU.v uv at KA KB
        clear HAB hf hg1 AK FF HH
        by_cases hg : g = 0
        · subst hg
          clear HNIL
          rw [if_neg (by simp)] at KA KB
          simp only at KA KB
          go_wp2_with fail
          refine Calls.mono (KA.out _ (HB2.out.trans (Below.mono (show Below w2.heap.size w2 _ by (repeat (first | (with_reducible exact Below.refl _ _) | (with_reducible assumption) | (with_reducible refine Below.drew ?_) | (focus ((with_reducible refine Below.setCell ?_ ?_ _); rotate_left; (first | omega | (simp <;> omega)))) | (focus ((with_reducible refine Below.alloc ?_ ?_ _); rotate_left; (first | omega | (simp <;> omega)))) | exact Below.refl _ _ | assumption | refine Below.drew ?_ | refine Below.alloc ?_ (by first | omega | (simp <;> omega)) _ | refine Below.setCell ?_ (by first | omega | (simp <;> omega)) _))) hz2)) (HR2.out.below (by (repeat (first | (with_reducible exact Below.refl _ _) | (with_reducible assumption) | (with_reducible refine Below.drew ?_) | (focus ((with_reducible refine Below.setCell ?_ ?_ _); rotate_left; (first | omega | (simp <;> omega)))) | (focus ((with_reducible refine Below.alloc ?_ ?_ _); rotate_left; (first | omega | (simp <;> omega)))) | exact Below.refl _ _ | assumption | refine Below.drew ?_ | refine Below.alloc ?_ (by first | omega | (simp <;> omega)) _ | refine Below.setCell ?_ (by first | omega | (simp <;> omega)) _)))) (ReadsF.nil _)) ?_
          rintro e w3 ⟨rfl, hb_w3⟩
          have hz_w3 := hb_w3.size
          try simp at hz_w3
          obtain ⟨c_w3_w2_0, f_w3_w2_0⟩ := bk hb_w3 (w2.heap.size) (by first | omega | (simp <;> omega))
          have c_w3_w2_0_0 := c_w3_w2_0 0
          conv at c_w3_w2_0_0 => rhs; simp [go_sem, *]
          have f_w3_w2_0_0 := f_w3_w2_0 0
          conv at f_w3_w2_0_0 => rhs; simp [go_sem, *]
          have c_w3_w2_0_1 := c_w3_w2_0 1
          conv at c_w3_w2_0_1 => rhs; simp [go_sem, *]
          have f_w3_w2_0_1 := f_w3_w2_0 1
          conv at f_w3_w2_0_1 => rhs; simp [go_sem, *]
          have c_w3_w2_0_2 := c_w3_w2_0 2
          conv at c_w3_w2_0_2 => rhs; simp [go_sem, *]
          have f_w3_w2_0_2 := f_w3_w2_0 2
          conv at f_w3_w2_0_2 => rhs; simp [go_sem, *]
          have c_w3_w2_0_3 := c_w3_w2_0 3
          conv at c_w3_w2_0_3 => rhs; simp [go_sem, *]
          have f_w3_w2_0_3 := f_w3_w2_0 3
          conv at f_w3_w2_0_3 => rhs; simp [go_sem, *]
          have c_w3_w2_0_4 := c_w3_w2_0 4
          conv at c_w3_w2_0_4 => rhs; simp [go_sem, *]
          have f_w3_w2_0_4 := f_w3_w2_0 4
          conv at f_w3_w2_0_4 => rhs; simp [go_sem, *]
          have c_w3_w2_0_5 := c_w3_w2_0 5
          conv at c_w3_w2_0_5 => rhs; simp [go_sem, *]
          have f_w3_w2_0_5 := f_w3_w2_0 5
          conv at f_w3_w2_0_5 => rhs; simp [go_sem, *]
          have c_w3_w2_0_6 := c_w3_w2_0 6
          conv at c_w3_w2_0_6 => rhs; simp [go_sem, *]
          have f_w3_w2_0_6 := f_w3_w2_0 6
          conv at f_w3_w2_0_6 => rhs; simp [go_sem, *]
          obtain ⟨c_w3_w2_1, f_w3_w2_1⟩ := bk hb_w3 (w2.heap.size + 1) (by first | omega | (simp <;> omega))
          have c_w3_w2_1_0 := c_w3_w2_1 0
          conv at c_w3_w2_1_0 => rhs; simp [go_sem, *]
          have f_w3_w2_1_0 := f_w3_w2_1 0
          conv at f_w3_w2_1_0 => rhs; simp [go_sem, *]
          have c_w3_w2_1_1 := c_w3_w2_1 1
          conv at c_w3_w2_1_1 => rhs; simp [go_sem, *]
          have f_w3_w2_1_1 := f_w3_w2_1 1
          conv at f_w3_w2_1_1 => rhs; simp [go_sem, *]
          obtain ⟨c_w3_w2_s2, f_w3_w2_s2⟩ := bk hb_w3 (w2.heap.size + 1 + 1) (by first | omega | (simp <;> omega))
          have c_w3_w2_s2_0 := c_w3_w2_s2 0
          conv at c_w3_w2_s2_0 => rhs; simp [go_sem, *]
          have f_w3_w2_s2_0 := f_w3_w2_s2 0
          conv at f_w3_w2_s2_0 => rhs; simp [go_sem, *]
          have c_w3_w2_s2_1 := c_w3_w2_s2 1
          conv at c_w3_w2_s2_1 => rhs; simp [go_sem, *]
          have f_w3_w2_s2_1 := f_w3_w2_s2 1
          conv at f_w3_w2_s2_1 => rhs; simp [go_sem, *]
          have c_w3_w2_s2_2 := c_w3_w2_s2 2
          conv at c_w3_w2_s2_2 => rhs; simp [go_sem, *]
          have f_w3_w2_s2_2 := f_w3_w2_s2 2
          conv at f_w3_w2_s2_2 => rhs; simp [go_sem, *]
          have c_w3_w2_s2_3 := c_w3_w2_s2 3
          conv at c_w3_w2_s2_3 => rhs; simp [go_sem, *]
          have f_w3_w2_s2_3 := f_w3_w2_s2 3
          conv at f_w3_w2_s2_3 => rhs; simp [go_sem, *]
          have c_w3_w2_s2_4 := c_w3_w2_s2 4
          conv at c_w3_w2_s2_4 => rhs; simp [go_sem, *]
          have f_w3_w2_s2_4 := f_w3_w2_s2 4
          conv at f_w3_w2_s2_4 => rhs; simp [go_sem, *]
          have c_w3_w2_s2_5 := c_w3_w2_s2 5
          conv at c_w3_w2_s2_5 => rhs; simp [go_sem, *]
          have f_w3_w2_s2_5 := f_w3_w2_s2 5
          conv at f_w3_w2_s2_5 => rhs; simp [go_sem, *]
          have c_w3_w2_s2_6 := c_w3_w2_s2 6
          conv at c_w3_w2_s2_6 => rhs; simp [go_sem, *]
          have f_w3_w2_s2_6 := f_w3_w2_s2 6
          conv at f_w3_w2_s2_6 => rhs; simp [go_sem, *]
          have HH_w3 := Lib.hid hb_w3
          have hB_w3 : Below w2.heap.size w2 w3 := Below.trans (by (repeat (first | (with_reducible exact Below.refl _ _) | (with_reducible assumption) | (with_reducible refine Below.drew ?_) | (focus ((with_reducible refine Below.setCell ?_ ?_ _); rotate_left; (first | omega | (simp <;> omega)))) | (focus ((with_reducible refine Below.alloc ?_ ?_ _); rotate_left; (first | omega | (simp <;> omega)))) | exact Below.refl _ _ | assumption | refine Below.drew ?_ | refine Below.alloc ?_ (by first | omega | (simp <;> omega)) _ | refine Below.setCell ?_ (by first | omega | (simp <;> omega)) _))) (hb_w3.mono (by first | omega | (simp <;> omega)))
          clear hb_w3 c_w3_w2_0 f_w3_w2_0 c_w3_w2_1 f_w3_w2_1 c_w3_w2_s2 f_w3_w2_s2
          have far_w3_w2_0 := far (show w2.heap.size < w3.heap.size by omega)
          have far_w3_w2_1 := far (show w2.heap.size + 1 < w3.heap.size by omega)
          have far_w3_w2_s2 := far (show w2.heap.size + 1 + 1 < w3.heap.size by omega)
          go_wp2_with fail
          refine Calls.mono (KB.out _ _ (HB2.out.trans (Below.mono (show Below w2.heap.size w2 _ by (repeat (first | (with_reducible exact Below.refl _ _) | (with_reducible assumption) | (with_reducible refine Below.drew ?_) | (focus ((with_reducible refine Below.setCell ?_ ?_ _); rotate_left; (first | omega | (simp <;> omega)))) | (focus ((with_reducible refine Below.alloc ?_ ?_ _); rotate_left; (first | omega | (simp <;> omega)))) | exact Below.refl _ _ | assumption | refine Below.drew ?_ | refine Below.alloc ?_ (by first | omega | (simp <;> omega)) _ | refine Below.setCell ?_ (by first | omega | (simp <;> omega)) _))) hz2)) (HR2.out.below (by (repeat (first | (with_reducible exact Below.refl _ _) | (with_reducible assumption) | (with_reducible refine Below.drew ?_) | (focus ((with_reducible refine Below.setCell ?_ ?_ _); rotate_left; (first | omega | (simp <;> omega)))) | (focus ((with_reducible refine Below.alloc ?_ ?_ _); rotate_left; (first | omega | (simp <;> omega)))) | exact Below.refl _ _ | assumption | refine Below.drew ?_ | refine Below.alloc ?_ (by first | omega | (simp <;> omega)) _ | refine Below.setCell ?_ (by first | omega | (simp <;> omega)) _)))) (reads_one (by (first | omega | (simp <;> omega))) (by simp [go_sem, *]) (by simp [go_sem, *]))) ?_
          rintro e w4 ⟨rfl, hb_w4⟩
          have hz_w4 := hb_w4.size
          try simp at hz_w4
          obtain ⟨c_w4_w2_1, f_w4_w2_1⟩ := bk hb_w4 (w2.heap.size + 1) (by first | omega | (simp <;> omega))
          have c_w4_w2_1_0 := c_w4_w2_1 0
          conv at c_w4_w2_1_0 => rhs; simp [go_sem, *]
          have f_w4_w2_1_0 := f_w4_w2_1 0
          conv at f_w4_w2_1_0 => rhs; simp [go_sem, *]
          have c_w4_w2_1_1 := c_w4_w2_1 1
          conv at c_w4_w2_1_1 => rhs; simp [go_sem, *]
          have f_w4_w2_1_1 := f_w4_w2_1 1
          conv at f_w4_w2_1_1 => rhs; simp [go_sem, *]
          obtain ⟨c_w4_w3_0, f_w4_w3_0⟩ := bk hb_w4 (w3.heap.size) (by first | omega | (simp <;> omega))
          have c_w4_w3_0_0 := c_w4_w3_0 0
          conv at c_w4_w3_0_0 => rhs; simp [go_sem, *]
          have f_w4_w3_0_0 := f_w4_w3_0 0
          conv at f_w4_w3_0_0 => rhs; simp [go_sem, *]
          have c_w4_w3_0_1 := c_w4_w3_0 1
          conv at c_w4_w3_0_1 => rhs; simp [go_sem, *]
          have f_w4_w3_0_1 := f_w4_w3_0 1
          conv at f_w4_w3_0_1 => rhs; simp [go_sem, *]
          have c_w4_w3_0_2 := c_w4_w3_0 2
          conv at c_w4_w3_0_2 => rhs; simp [go_sem, *]
          have f_w4_w3_0_2 := f_w4_w3_0 2
          conv at f_w4_w3_0_2 => rhs; simp [go_sem, *]
          have c_w4_w3_0_3 := c_w4_w3_0 3
          conv at c_w4_w3_0_3 => rhs; simp [go_sem, *]
          have f_w4_w3_0_3 := f_w4_w3_0 3
          conv at f_w4_w3_0_3 => rhs; simp [go_sem, *]
          have c_w4_w3_0_4 := c_w4_w3_0 4
          conv at c_w4_w3_0_4 => rhs; simp [go_sem, *]
          have f_w4_w3_0_4 := f_w4_w3_0 4
          conv at f_w4_w3_0_4 => rhs; simp [go_sem, *]
          have c_w4_w3_0_5 := c_w4_w3_0 5
          conv at c_w4_w3_0_5 => rhs; simp [go_sem, *]
          have f_w4_w3_0_5 := f_w4_w3_0 5
          conv at f_w4_w3_0_5 => rhs; simp [go_sem, *]
          have HH_w4 := Lib.hid hb_w4
          have hB_w4 : Below w2.heap.size w2 w4 := Below.trans (by (repeat (first | (with_reducible exact Below.refl _ _) | (with_reducible assumption) | (with_reducible refine Below.drew ?_) | (focus ((with_reducible refine Below.setCell ?_ ?_ _); rotate_left; (first | omega | (simp <;> omega)))) | (focus ((with_reducible refine Below.alloc ?_ ?_ _); rotate_left; (first | omega | (simp <;> omega)))) | exact Below.refl _ _ | assumption | refine Below.drew ?_ | refine Below.alloc ?_ (by first | omega | (simp <;> omega)) _ | refine Below.setCell ?_ (by first | omega | (simp <;> omega)) _))) (hb_w4.mono (by first | omega | (simp <;> omega)))
          clear hb_w4 c_w4_w2_1 f_w4_w2_1 c_w4_w3_0 f_w4_w3_0
          try clear c_w3_w2_0_0
          try clear f_w3_w2_0_0
          try clear c_w3_w2_0_1
          try clear f_w3_w2_0_1
          try clear c_w3_w2_0_2
          try clear f_w3_w2_0_2
          try clear c_w3_w2_0_3
          try clear f_w3_w2_0_3
          try clear c_w3_w2_0_4
          try clear f_w3_w2_0_4
          try clear c_w3_w2_0_5
          try clear f_w3_w2_0_5
          try clear c_w3_w2_0_6
          try clear f_w3_w2_0_6
          try clear c_w3_w2_1_0
          try clear f_w3_w2_1_0
          try clear c_w3_w2_1_1
          try clear f_w3_w2_1_1
          try clear c_w3_w2_s2_0
          try clear f_w3_w2_s2_0
          try clear c_w3_w2_s2_1
          try clear f_w3_w2_s2_1
          try clear c_w3_w2_s2_2
          try clear f_w3_w2_s2_2
          try clear c_w3_w2_s2_3
          try clear f_w3_w2_s2_3
          try clear c_w3_w2_s2_4
          try clear f_w3_w2_s2_4
          try clear c_w3_w2_s2_5
          try clear f_w3_w2_s2_5
          try clear c_w3_w2_s2_6
          try clear f_w3_w2_s2_6
          try clear far_w3_w2_0
          try clear far_w3_w2_1
          try clear far_w3_w2_s2
          try clear hB_w3
          have far_w4_w2_1 := far (show w2.heap.size + 1 < w4.heap.size by omega)
          have far_w4_w3_0 := far (show w3.heap.size < w4.heap.size by omega)
          go_wp2_with fail
          refine Calls.mono (FK.out _ (HB2.out.trans (Below.mono (show Below w2.heap.size w2 _ by (repeat (first | (with_reducible exact Below.refl _ _) | (with_reducible assumption) | (with_reducible refine Below.drew ?_) | (focus ((with_reducible refine Below.setCell ?_ ?_ _); rotate_left; (first | omega | (simp <;> omega)))) | (focus ((with_reducible refine Below.alloc ?_ ?_ _); rotate_left; (first | omega | (simp <;> omega)))) | exact Below.refl _ _ | assumption | refine Below.drew ?_ | refine Below.alloc ?_ (by first | omega | (simp <;> omega)) _ | refine Below.setCell ?_ (by first | omega | (simp <;> omega)) _))) hz2)) (HR2.out.below (by (repeat (first | (with_reducible exact Below.refl _ _) | (with_reducible assumption) | (with_reducible refine Below.drew ?_) | (focus ((with_reducible refine Below.setCell ?_ ?_ _); rotate_left; (first | omega | (simp <;> omega)))) | (focus ((with_reducible refine Below.alloc ?_ ?_ _); rotate_left; (first | omega | (simp <;> omega)))) | exact Below.refl _ _ | assumption | refine Below.drew ?_ | refine Below.alloc ?_ (by first | omega | (simp <;> omega)) _ | refine Below.setCell ?_ (by first | omega | (simp <;> omega)) _))))) ?_
          rintro e w5 ⟨rfl, hb_w5⟩
          have hz_w5 := hb_w5.size
          try simp at hz_w5
          obtain ⟨c_w5_w3_0, f_w5_w3_0⟩ := bk hb_w5 (w3.heap.size) (by first | omega | (simp <;> omega))
          have c_w5_w3_0_0 := c_w5_w3_0 0
          conv at c_w5_w3_0_0 => rhs; simp [go_sem, *]
          have f_w5_w3_0_0 := f_w5_w3_0 0
          conv at f_w5_w3_0_0 => rhs; simp [go_sem, *]
          have c_w5_w3_0_1 := c_w5_w3_0 1
          conv at c_w5_w3_0_1 => rhs; simp [go_sem, *]
          have f_w5_w3_0_1 := f_w5_w3_0 1
          conv at f_w5_w3_0_1 => rhs; simp [go_sem, *]
          have c_w5_w3_0_2 := c_w5_w3_0 2
          conv at c_w5_w3_0_2 => rhs; simp [go_sem, *]
          have f_w5_w3_0_2 := f_w5_w3_0 2
          conv at f_w5_w3_0_2 => rhs; simp [go_sem, *]
          have c_w5_w3_0_3 := c_w5_w3_0 3
          conv at c_w5_w3_0_3 => rhs; simp [go_sem, *]
          have f_w5_w3_0_3 := f_w5_w3_0 3
          conv at f_w5_w3_0_3 => rhs; simp [go_sem, *]
          have c_w5_w3_0_4 := c_w5_w3_0 4
          conv at c_w5_w3_0_4 => rhs; simp [go_sem, *]
          have f_w5_w3_0_4 := f_w5_w3_0 4
          conv at f_w5_w3_0_4 => rhs; simp [go_sem, *]
          have c_w5_w3_0_5 := c_w5_w3_0 5
          conv at c_w5_w3_0_5 => rhs; simp [go_sem, *]
          have f_w5_w3_0_5 := f_w5_w3_0 5
          conv at f_w5_w3_0_5 => rhs; simp [go_sem, *]
          obtain ⟨c_w5_w4_0, f_w5_w4_0⟩ := bk hb_w5 (w4.heap.size) (by first | omega | (simp <;> omega))
          have c_w5_w4_0_0 := c_w5_w4_0 0
          conv at c_w5_w4_0_0 => rhs; simp [go_sem, *]
          have f_w5_w4_0_0 := f_w5_w4_0 0
          conv at f_w5_w4_0_0 => rhs; simp [go_sem, *]
          have c_w5_w4_0_1 := c_w5_w4_0 1
          conv at c_w5_w4_0_1 => rhs; simp [go_sem, *]
          have f_w5_w4_0_1 := f_w5_w4_0 1
          conv at f_w5_w4_0_1 => rhs; simp [go_sem, *]
          have c_w5_w4_0_2 := c_w5_w4_0 2
          conv at c_w5_w4_0_2 => rhs; simp [go_sem, *]
          have f_w5_w4_0_2 := f_w5_w4_0 2
          conv at f_w5_w4_0_2 => rhs; simp [go_sem, *]
          have c_w5_w4_0_3 := c_w5_w4_0 3
          conv at c_w5_w4_0_3 => rhs; simp [go_sem, *]
          have f_w5_w4_0_3 := f_w5_w4_0 3
          conv at f_w5_w4_0_3 => rhs; simp [go_sem, *]
          have c_w5_w4_0_4 := c_w5_w4_0 4
          conv at c_w5_w4_0_4 => rhs; simp [go_sem, *]
          have f_w5_w4_0_4 := f_w5_w4_0 4
          conv at f_w5_w4_0_4 => rhs; simp [go_sem, *]
          have c_w5_w4_0_5 := c_w5_w4_0 5
          conv at c_w5_w4_0_5 => rhs; simp [go_sem, *]
          have f_w5_w4_0_5 := f_w5_w4_0 5
          conv at f_w5_w4_0_5 => rhs; simp [go_sem, *]
          have HH_w5 := Lib.hid hb_w5
          have hB_w5 : Below w2.heap.size w2 w5 := Below.trans (by (repeat (first | (with_reducible exact Below.refl _ _) | (with_reducible assumption) | (with_reducible refine Below.drew ?_) | (focus ((with_reducible refine Below.setCell ?_ ?_ _); rotate_left; (first | omega | (simp <;> omega)))) | (focus ((with_reducible refine Below.alloc ?_ ?_ _); rotate_left; (first | omega | (simp <;> omega)))) | exact Below.refl _ _ | assumption | refine Below.drew ?_ | refine Below.alloc ?_ (by first | omega | (simp <;> omega)) _ | refine Below.setCell ?_ (by first | omega | (simp <;> omega)) _))) (hb_w5.mono (by first | omega | (simp <;> omega)))
          clear hb_w5 c_w5_w3_0 f_w5_w3_0 c_w5_w4_0 f_w5_w4_0
          try clear c_w4_w2_1_0
          try clear f_w4_w2_1_0
          try clear c_w4_w2_1_1
          try clear f_w4_w2_1_1
          try clear c_w4_w3_0_0
          try clear f_w4_w3_0_0
          try clear c_w4_w3_0_1
          try clear f_w4_w3_0_1
          try clear c_w4_w3_0_2
          try clear f_w4_w3_0_2
          try clear c_w4_w3_0_3
          try clear f_w4_w3_0_3
          try clear c_w4_w3_0_4
          try clear f_w4_w3_0_4
          try clear c_w4_w3_0_5
          try clear f_w4_w3_0_5
          try clear far_w4_w2_1
          try clear far_w4_w3_0
          try clear hB_w4
          have far_w5_w3_0 := far (show w3.heap.size < w5.heap.size by omega)
          have far_w5_w4_0 := far (show w4.heap.size < w5.heap.size by omega)
          go_wp2_with fail
          refine Calls.mono (AL.out _ (HB2.out.trans (Below.mono (show Below w2.heap.size w2 _ by (repeat (first | (with_reducible exact Below.refl _ _) | (with_reducible assumption) | (with_reducible refine Below.drew ?_) | (focus ((with_reducible refine Below.setCell ?_ ?_ _); rotate_left; (first | omega | (simp <;> omega)))) | (focus ((with_reducible refine Below.alloc ?_ ?_ _); rotate_left; (first | omega | (simp <;> omega)))) | exact Below.refl _ _ | assumption | refine Below.drew ?_ | refine Below.alloc ?_ (by first | omega | (simp <;> omega)) _ | refine Below.setCell ?_ (by first | omega | (simp <;> omega)) _))) hz2))) ?_
          rintro e w6 ⟨rfl, hb_w6⟩
          have hz_w6 := hb_w6.size
          try simp at hz_w6
          obtain ⟨c_w6_w3_0, f_w6_w3_0⟩ := bk hb_w6 (w3.heap.size) (by first | omega | (simp <;> omega))
          have c_w6_w3_0_0 := c_w6_w3_0 0
          conv at c_w6_w3_0_0 => rhs; simp [go_sem, *]
          have f_w6_w3_0_0 := f_w6_w3_0 0
          conv at f_w6_w3_0_0 => rhs; simp [go_sem, *]
          have c_w6_w3_0_1 := c_w6_w3_0 1
          conv at c_w6_w3_0_1 => rhs; simp [go_sem, *]
          have f_w6_w3_0_1 := f_w6_w3_0 1
          conv at f_w6_w3_0_1 => rhs; simp [go_sem, *]
          have c_w6_w3_0_2 := c_w6_w3_0 2
          conv at c_w6_w3_0_2 => rhs; simp [go_sem, *]
          have f_w6_w3_0_2 := f_w6_w3_0 2
          conv at f_w6_w3_0_2 => rhs; simp [go_sem, *]
          have c_w6_w3_0_3 := c_w6_w3_0 3
          conv at c_w6_w3_0_3 => rhs; simp [go_sem, *]
          have f_w6_w3_0_3 := f_w6_w3_0 3
          conv at f_w6_w3_0_3 => rhs; simp [go_sem, *]
          have c_w6_w3_0_4 := c_w6_w3_0 4
          conv at c_w6_w3_0_4 => rhs; simp [go_sem, *]
          have f_w6_w3_0_4 := f_w6_w3_0 4
          conv at f_w6_w3_0_4 => rhs; simp [go_sem, *]
          have c_w6_w3_0_5 := c_w6_w3_0 5
          conv at c_w6_w3_0_5 => rhs; simp [go_sem, *]
          have f_w6_w3_0_5 := f_w6_w3_0 5
          conv at f_w6_w3_0_5 => rhs; simp [go_sem, *]
          obtain ⟨c_w6_w4_0, f_w6_w4_0⟩ := bk hb_w6 (w4.heap.size) (by first | omega | (simp <;> omega))
          have c_w6_w4_0_0 := c_w6_w4_0 0
          conv at c_w6_w4_0_0 => rhs; simp [go_sem, *]
          have f_w6_w4_0_0 := f_w6_w4_0 0
          conv at f_w6_w4_0_0 => rhs; simp [go_sem, *]
          have c_w6_w4_0_1 := c_w6_w4_0 1
          conv at c_w6_w4_0_1 => rhs; simp [go_sem, *]
          have f_w6_w4_0_1 := f_w6_w4_0 1
          conv at f_w6_w4_0_1 => rhs; simp [go_sem, *]
          have c_w6_w4_0_2 := c_w6_w4_0 2
          conv at c_w6_w4_0_2 => rhs; simp [go_sem, *]
          have f_w6_w4_0_2 := f_w6_w4_0 2
          conv at f_w6_w4_0_2 => rhs; simp [go_sem, *]
          have c_w6_w4_0_3 := c_w6_w4_0 3
          conv at c_w6_w4_0_3 => rhs; simp [go_sem, *]
          have f_w6_w4_0_3 := f_w6_w4_0 3
          conv at f_w6_w4_0_3 => rhs; simp [go_sem, *]
          have c_w6_w4_0_4 := c_w6_w4_0 4
          conv at c_w6_w4_0_4 => rhs; simp [go_sem, *]
          have f_w6_w4_0_4 := f_w6_w4_0 4
          conv at f_w6_w4_0_4 => rhs; simp [go_sem, *]
          have c_w6_w4_0_5 := c_w6_w4_0 5
          conv at c_w6_w4_0_5 => rhs; simp [go_sem, *]
          have f_w6_w4_0_5 := f_w6_w4_0 5
          conv at f_w6_w4_0_5 => rhs; simp [go_sem, *]
          have HH_w6 := Lib.hid hb_w6
          have hB_w6 : Below w2.heap.size w2 w6 := Below.trans (by (repeat (first | (with_reducible exact Below.refl _ _) | (with_reducible assumption) | (with_reducible refine Below.drew ?_) | (focus ((with_reducible refine Below.setCell ?_ ?_ _); rotate_left; (first | omega | (simp <;> omega)))) | (focus ((with_reducible refine Below.alloc ?_ ?_ _); rotate_left; (first | omega | (simp <;> omega)))) | exact Below.refl _ _ | assumption | refine Below.drew ?_ | refine Below.alloc ?_ (by first | omega | (simp <;> omega)) _ | refine Below.setCell ?_ (by first | omega | (simp <;> omega)) _))) (hb_w6.mono (by first | omega | (simp <;> omega)))
          clear hb_w6 c_w6_w3_0 f_w6_w3_0 c_w6_w4_0 f_w6_w4_0
          try clear c_w5_w3_0_0
          try clear f_w5_w3_0_0
          try clear c_w5_w3_0_1
          try clear f_w5_w3_0_1
          try clear c_w5_w3_0_2
          try clear f_w5_w3_0_2
          try clear c_w5_w3_0_3
          try clear f_w5_w3_0_3
          try clear c_w5_w3_0_4
          try clear f_w5_w3_0_4
          try clear c_w5_w3_0_5
          try clear f_w5_w3_0_5
          try clear c_w5_w4_0_0
          try clear f_w5_w4_0_0
          try clear c_w5_w4_0_1
          try clear f_w5_w4_0_1
          try clear c_w5_w4_0_2
          try clear f_w5_w4_0_2
          try clear c_w5_w4_0_3
          try clear f_w5_w4_0_3
          try clear c_w5_w4_0_4
          try clear f_w5_w4_0_4
          try clear c_w5_w4_0_5
          try clear f_w5_w4_0_5
          try clear far_w5_w3_0
          try clear far_w5_w4_0
          try clear hB_w5
          have far_w6_w3_0 := far (show w3.heap.size < w6.heap.size by omega)
          have far_w6_w4_0 := far (show w4.heap.size < w6.heap.size by omega)
          go_wp2
          go_ret
          exact ⟨ret_bool (by simp), HB2.out.trans (Below.mono (show Below w2.heap.size w2 _ by (repeat (first | (with_reducible exact Below.refl _ _) | (with_reducible assumption) | (with_reducible refine Below.drew ?_) | (focus ((with_reducible refine Below.setCell ?_ ?_ _); rotate_left; (first | omega | (simp <;> omega)))) | (focus ((with_reducible refine Below.alloc ?_ ?_ _); rotate_left; (first | omega | (simp <;> omega)))) | exact Below.refl _ _ | assumption | refine Below.drew ?_ | refine Below.alloc ?_ (by first | omega | (simp <;> omega)) _ | refine Below.setCell ?_ (by first | omega | (simp <;> omega)) _))) hz2)⟩
        · have hg2 : (g == 0) = false := by simpa using hg
          obtain rfl : o = [] := HNIL.out hg
          clear HNIL
          rw [if_pos hg] at KA KB
          unfold UU.nil at KA KB
          simp only at KA KB
          go_wp2_with fail
          refine Calls.mono (KA.out _ (HB2.out.trans (Below.mono (show Below w2.heap.size w2 _ by (repeat (first | (with_reducible exact Below.refl _ _) | (with_reducible assumption) | (with_reducible refine Below.drew ?_) | (focus ((with_reducible refine Below.setCell ?_ ?_ _); rotate_left; (first | omega | (simp <;> omega)))) | (focus ((with_reducible refine Below.alloc ?_ ?_ _); rotate_left; (first | omega | (simp <;> omega)))) | exact Below.refl _ _ | assumption | refine Below.drew ?_ | refine Below.alloc ?_ (by first | omega | (simp <;> omega)) _ | refine Below.setCell ?_ (by first | omega | (simp <;> omega)) _))) hz2)) (HR2.out.below (by (repeat (first | (with_reducible exact Below.refl _ _) | (with_reducible assumption) | (with_reducible refine Below.drew ?_) | (focus ((with_reducible refine Below.setCell ?_ ?_ _); rotate_left; (first | omega | (simp <;> omega)))) | (focus ((with_reducible refine Below.alloc ?_ ?_ _); rotate_left; (first | omega | (simp <;> omega)))) | exact Below.refl _ _ | assumption | refine Below.drew ?_ | refine Below.alloc ?_ (by first | omega | (simp <;> omega)) _ | refine Below.setCell ?_ (by first | omega | (simp <;> omega)) _)))) (ReadsF.nil _)) ?_
          rintro e w3 ⟨rfl, hb_w3⟩
          have hz_w3 := hb_w3.size
          try simp at hz_w3
          obtain ⟨c_w3_w2_0, f_w3_w2_0⟩ := bk hb_w3 (w2.heap.size) (by first | omega | (simp <;> omega))
          have c_w3_w2_0_0 := c_w3_w2_0 0
          conv at c_w3_w2_0_0 => rhs; simp [go_sem, *]
          have f_w3_w2_0_0 := f_w3_w2_0 0
          conv at f_w3_w2_0_0 => rhs; simp [go_sem, *]
          have c_w3_w2_0_1 := c_w3_w2_0 1
          conv at c_w3_w2_0_1 => rhs; simp [go_sem, *]
          have f_w3_w2_0_1 := f_w3_w2_0 1
          conv at f_w3_w2_0_1 => rhs; simp [go_sem, *]
          have c_w3_w2_0_2 := c_w3_w2_0 2
          conv at c_w3_w2_0_2 => rhs; simp [go_sem, *]
          have f_w3_w2_0_2 := f_w3_w2_0 2
          conv at f_w3_w2_0_2 => rhs; simp [go_sem, *]
          have c_w3_w2_0_3 := c_w3_w2_0 3
          conv at c_w3_w2_0_3 => rhs; simp [go_sem, *]
          have f_w3_w2_0_3 := f_w3_w2_0 3
          conv at f_w3_w2_0_3 => rhs; simp [go_sem, *]
          have c_w3_w2_0_4 := c_w3_w2_0 4
          conv at c_w3_w2_0_4 => rhs; simp [go_sem, *]
          have f_w3_w2_0_4 := f_w3_w2_0 4
          conv at f_w3_w2_0_4 => rhs; simp [go_sem, *]
          have c_w3_w2_0_5 := c_w3_w2_0 5
          conv at c_w3_w2_0_5 => rhs; simp [go_sem, *]
          have f_w3_w2_0_5 := f_w3_w2_0 5
          conv at f_w3_w2_0_5 => rhs; simp [go_sem, *]
          have c_w3_w2_0_6 := c_w3_w2_0 6
          conv at c_w3_w2_0_6 => rhs; simp [go_sem, *]
          have f_w3_w2_0_6 := f_w3_w2_0 6
          conv at f_w3_w2_0_6 => rhs; simp [go_sem, *]
          obtain ⟨c_w3_w2_1, f_w3_w2_1⟩ := bk hb_w3 (w2.heap.size + 1) (by first | omega | (simp <;> omega))
          have c_w3_w2_1_0 := c_w3_w2_1 0
          conv at c_w3_w2_1_0 => rhs; simp [go_sem, *]
          have f_w3_w2_1_0 := f_w3_w2_1 0
          conv at f_w3_w2_1_0 => rhs; simp [go_sem, *]
          have c_w3_w2_1_1 := c_w3_w2_1 1
          conv at c_w3_w2_1_1 => rhs; simp [go_sem, *]
          have f_w3_w2_1_1 := f_w3_w2_1 1
          conv at f_w3_w2_1_1 => rhs; simp [go_sem, *]
          obtain ⟨c_w3_w2_s2, f_w3_w2_s2⟩ := bk hb_w3 (w2.heap.size + 1 + 1) (by first | omega | (simp <;> omega))
          have c_w3_w2_s2_0 := c_w3_w2_s2 0
          conv at c_w3_w2_s2_0 => rhs; simp [go_sem, *]
          have f_w3_w2_s2_0 := f_w3_w2_s2 0
          conv at f_w3_w2_s2_0 => rhs; simp [go_sem, *]
          have c_w3_w2_s2_1 := c_w3_w2_s2 1
          conv at c_w3_w2_s2_1 => rhs; simp [go_sem, *]
          have f_w3_w2_s2_1 := f_w3_w2_s2 1
          conv at f_w3_w2_s2_1 => rhs; simp [go_sem, *]
          have c_w3_w2_s2_2 := c_w3_w2_s2 2
          conv at c_w3_w2_s2_2 => rhs; simp [go_sem, *]
          have f_w3_w2_s2_2 := f_w3_w2_s2 2
          conv at f_w3_w2_s2_2 => rhs; simp [go_sem, *]
          have c_w3_w2_s2_3 := c_w3_w2_s2 3
          conv at c_w3_w2_s2_3 => rhs; simp [go_sem, *]
          have f_w3_w2_s2_3 := f_w3_w2_s2 3
          conv at f_w3_w2_s2_3 => rhs; simp [go_sem, *]
          have c_w3_w2_s2_4 := c_w3_w2_s2 4
          conv at c_w3_w2_s2_4 => rhs; simp [go_sem, *]
          have f_w3_w2_s2_4 := f_w3_w2_s2 4
          conv at f_w3_w2_s2_4 => rhs; simp [go_sem, *]
          have c_w3_w2_s2_5 := c_w3_w2_s2 5
          conv at c_w3_w2_s2_5 => rhs; simp [go_sem, *]
          have f_w3_w2_s2_5 := f_w3_w2_s2 5
          conv at f_w3_w2_s2_5 => rhs; simp [go_sem, *]
          have c_w3_w2_s2_6 := c_w3_w2_s2 6
          conv at c_w3_w2_s2_6 => rhs; simp [go_sem, *]
          have f_w3_w2_s2_6 := f_w3_w2_s2 6
          conv at f_w3_w2_s2_6 => rhs; simp [go_sem, *]
          have HH_w3 := Lib.hid hb_w3
          have hB_w3 : Below w2.heap.size w2 w3 := Below.trans (by (repeat (first | (with_reducible exact Below.refl _ _) | (with_reducible assumption) | (with_reducible refine Below.drew ?_) | (focus ((with_reducible refine Below.setCell ?_ ?_ _); rotate_left; (first | omega | (simp <;> omega)))) | (focus ((with_reducible refine Below.alloc ?_ ?_ _); rotate_left; (first | omega | (simp <;> omega)))) | exact Below.refl _ _ | assumption | refine Below.drew ?_ | refine Below.alloc ?_ (by first | omega | (simp <;> omega)) _ | refine Below.setCell ?_ (by first | omega | (simp <;> omega)) _))) (hb_w3.mono (by first | omega | (simp <;> omega)))
          clear hb_w3 c_w3_w2_0 f_w3_w2_0 c_w3_w2_1 f_w3_w2_1 c_w3_w2_s2 f_w3_w2_s2
          try clear c_w6_w3_0_0
          try clear f_w6_w3_0_0
          try clear c_w6_w3_0_1
          try clear f_w6_w3_0_1
          try clear c_w6_w3_0_2
          try clear f_w6_w3_0_2
          try clear c_w6_w3_0_3
          try clear f_w6_w3_0_3
          try clear c_w6_w3_0_4
          try clear f_w6_w3_0_4
          try clear c_w6_w3_0_5
          try clear f_w6_w3_0_5
          try clear c_w6_w4_0_0
          try clear f_w6_w4_0_0
          try clear c_w6_w4_0_1
          try clear f_w6_w4_0_1
          try clear c_w6_w4_0_2
          try clear f_w6_w4_0_2
          try clear c_w6_w4_0_3
          try clear f_w6_w4_0_3
          try clear c_w6_w4_0_4
          try clear f_w6_w4_0_4
          try clear c_w6_w4_0_5
          try clear f_w6_w4_0_5
          try clear far_w6_w3_0
          try clear far_w6_w4_0
          try clear hB_w6
          have far_w3_w2_0 := far (show w2.heap.size < w3.heap.size by omega)
          have far_w3_w2_1 := far (show w2.heap.size + 1 < w3.heap.size by omega)
          have far_w3_w2_s2 := far (show w2.heap.size + 1 + 1 < w3.heap.size by omega)
          go_wp2_with fail
          refine Calls.mono (KB.out _ _ (HB2.out.trans (Below.mono (show Below w2.heap.size w2 _ by (repeat (first | (with_reducible exact Below.refl _ _) | (with_reducible assumption) | (with_reducible refine Below.drew ?_) | (focus ((with_reducible refine Below.setCell ?_ ?_ _); rotate_left; (first | omega | (simp <;> omega)))) | (focus ((with_reducible refine Below.alloc ?_ ?_ _); rotate_left; (first | omega | (simp <;> omega)))) | exact Below.refl _ _ | assumption | refine Below.drew ?_ | refine Below.alloc ?_ (by first | omega | (simp <;> omega)) _ | refine Below.setCell ?_ (by first | omega | (simp <;> omega)) _))) hz2)) (HR2.out.below (by (repeat (first | (with_reducible exact Below.refl _ _) | (with_reducible assumption) | (with_reducible refine Below.drew ?_) | (focus ((with_reducible refine Below.setCell ?_ ?_ _); rotate_left; (first | omega | (simp <;> omega)))) | (focus ((with_reducible refine Below.alloc ?_ ?_ _); rotate_left; (first | omega | (simp <;> omega)))) | exact Below.refl _ _ | assumption | refine Below.drew ?_ | refine Below.alloc ?_ (by first | omega | (simp <;> omega)) _ | refine Below.setCell ?_ (by first | omega | (simp <;> omega)) _)))) (reads_one (by (first | omega | (simp <;> omega))) (by simp [go_sem, *]) (by simp [go_sem, *]))) ?_
          rintro e w4 ⟨rfl, hb_w4⟩
          have hz_w4 := hb_w4.size
          try simp at hz_w4
          obtain ⟨c_w4_w2_1, f_w4_w2_1⟩ := bk hb_w4 (w2.heap.size + 1) (by first | omega | (simp <;> omega))
          have c_w4_w2_1_0 := c_w4_w2_1 0
          conv at c_w4_w2_1_0 => rhs; simp [go_sem, *]
          have f_w4_w2_1_0 := f_w4_w2_1 0
          conv at f_w4_w2_1_0 => rhs; simp [go_sem, *]
          have c_w4_w2_1_1 := c_w4_w2_1 1
          conv at c_w4_w2_1_1 => rhs; simp [go_sem, *]
          have f_w4_w2_1_1 := f_w4_w2_1 1
          conv at f_w4_w2_1_1 => rhs; simp [go_sem, *]
          obtain ⟨c_w4_w3_0, f_w4_w3_0⟩ := bk hb_w4 (w3.heap.size) (by first | omega | (simp <;> omega))
          have c_w4_w3_0_0 := c_w4_w3_0 0
          conv at c_w4_w3_0_0 => rhs; simp [go_sem, *]
          have f_w4_w3_0_0 := f_w4_w3_0 0
          conv at f_w4_w3_0_0 => rhs; simp [go_sem, *]
          have c_w4_w3_0_1 := c_w4_w3_0 1
          conv at c_w4_w3_0_1 => rhs; simp [go_sem, *]
          have f_w4_w3_0_1 := f_w4_w3_0 1
          conv at f_w4_w3_0_1 => rhs; simp [go_sem, *]
          have c_w4_w3_0_2 := c_w4_w3_0 2
          conv at c_w4_w3_0_2 => rhs; simp [go_sem, *]
          have f_w4_w3_0_2 := f_w4_w3_0 2
          conv at f_w4_w3_0_2 => rhs; simp [go_sem, *]
          have c_w4_w3_0_3 := c_w4_w3_0 3
          conv at c_w4_w3_0_3 => rhs; simp [go_sem, *]
          have f_w4_w3_0_3 := f_w4_w3_0 3
          conv at f_w4_w3_0_3 => rhs; simp [go_sem, *]
          have c_w4_w3_0_4 := c_w4_w3_0 4
          conv at c_w4_w3_0_4 => rhs; simp [go_sem, *]
          have f_w4_w3_0_4 := f_w4_w3_0 4
          conv at f_w4_w3_0_4 => rhs; simp [go_sem, *]
          have c_w4_w3_0_5 := c_w4_w3_0 5
          conv at c_w4_w3_0_5 => rhs; simp [go_sem, *]
          have f_w4_w3_0_5 := f_w4_w3_0 5
          conv at f_w4_w3_0_5 => rhs; simp [go_sem, *]
          have HH_w4 := Lib.hid hb_w4
          have hB_w4 : Below w2.heap.size w2 w4 := Below.trans (by (repeat (first | (with_reducible exact Below.refl _ _) | (with_reducible assumption) | (with_reducible refine Below.drew ?_) | (focus ((with_reducible refine Below.setCell ?_ ?_ _); rotate_left; (first | omega | (simp <;> omega)))) | (focus ((with_reducible refine Below.alloc ?_ ?_ _); rotate_left; (first | omega | (simp <;> omega)))) | exact Below.refl _ _ | assumption | refine Below.drew ?_ | refine Below.alloc ?_ (by first | omega | (simp <;> omega)) _ | refine Below.setCell ?_ (by first | omega | (simp <;> omega)) _))) (hb_w4.mono (by first | omega | (simp <;> omega)))
          clear hb_w4 c_w4_w2_1 f_w4_w2_1 c_w4_w3_0 f_w4_w3_0
          try clear c_w3_w2_0_0
          try clear f_w3_w2_0_0
          try clear c_w3_w2_0_1
          try clear f_w3_w2_0_1
          try clear c_w3_w2_0_2
          try clear f_w3_w2_0_2
          try clear c_w3_w2_0_3
          try clear f_w3_w2_0_3
          try clear c_w3_w2_0_4
          try clear f_w3_w2_0_4
          try clear c_w3_w2_0_5
          try clear f_w3_w2_0_5
          try clear c_w3_w2_0_6
          try clear f_w3_w2_0_6
          try clear c_w3_w2_1_0
          try clear f_w3_w2_1_0
          try clear c_w3_w2_1_1
          try clear f_w3_w2_1_1
          try clear c_w3_w2_s2_0
          try clear f_w3_w2_s2_0
          try clear c_w3_w2_s2_1
          try clear f_w3_w2_s2_1
          try clear c_w3_w2_s2_2
          try clear f_w3_w2_s2_2
          try clear c_w3_w2_s2_3
          try clear f_w3_w2_s2_3
          try clear c_w3_w2_s2_4
          try clear f_w3_w2_s2_4
          try clear c_w3_w2_s2_5
          try clear f_w3_w2_s2_5
          try clear c_w3_w2_s2_6
          try clear f_w3_w2_s2_6
          try clear far_w3_w2_0
          try clear far_w3_w2_1
          try clear far_w3_w2_s2
          try clear hB_w3
          have far_w4_w2_1 := far (show w2.heap.size + 1 < w4.heap.size by omega)
          have far_w4_w3_0 := far (show w3.heap.size < w4.heap.size by omega)
          go_wp2_with fail
          refine Calls.mono (FK.out _ (HB2.out.trans (Below.mono (show Below w2.heap.size w2 _ by (repeat (first | (with_reducible exact Below.refl _ _) | (with_reducible assumption) | (with_reducible refine Below.drew ?_) | (focus ((with_reducible refine Below.setCell ?_ ?_ _); rotate_left; (first | omega | (simp <;> omega)))) | (focus ((with_reducible refine Below.alloc ?_ ?_ _); rotate_left; (first | omega | (simp <;> omega)))) | exact Below.refl _ _ | assumption | refine Below.drew ?_ | refine Below.alloc ?_ (by first | omega | (simp <;> omega)) _ | refine Below.setCell ?_ (by first | omega | (simp <;> omega)) _))) hz2)) (HR2.out.below (by (repeat (first | (with_reducible exact Below.refl _ _) | (with_reducible assumption) | (with_reducible refine Below.drew ?_) | (focus ((with_reducible refine Below.setCell ?_ ?_ _); rotate_left; (first | omega | (simp <;> omega)))) | (focus ((with_reducible refine Below.alloc ?_ ?_ _); rotate_left; (first | omega | (simp <;> omega)))) | exact Below.refl _ _ | assumption | refine Below.drew ?_ | refine Below.alloc ?_ (by first | omega | (simp <;> omega)) _ | refine Below.setCell ?_ (by first | omega | (simp <;> omega)) _))))) ?_
          rintro e w5 ⟨rfl, hb_w5⟩
          have hz_w5 := hb_w5.size
          try simp at hz_w5
          obtain ⟨c_w5_w3_0, f_w5_w3_0⟩ := bk hb_w5 (w3.heap.size) (by first | omega | (simp <;> omega))
          have c_w5_w3_0_0 := c_w5_w3_0 0
          conv at c_w5_w3_0_0 => rhs; simp [go_sem, *]
          have f_w5_w3_0_0 := f_w5_w3_0 0
          conv at f_w5_w3_0_0 => rhs; simp [go_sem, *]
          have c_w5_w3_0_1 := c_w5_w3_0 1
          conv at c_w5_w3_0_1 => rhs; simp [go_sem, *]
          have f_w5_w3_0_1 := f_w5_w3_0 1
          conv at f_w5_w3_0_1 => rhs; simp [go_sem, *]
          have c_w5_w3_0_2 := c_w5_w3_0 2
          conv at c_w5_w3_0_2 => rhs; simp [go_sem, *]
          have f_w5_w3_0_2 := f_w5_w3_0 2
          conv at f_w5_w3_0_2 => rhs; simp [go_sem, *]
          have c_w5_w3_0_3 := c_w5_w3_0 3
          conv at c_w5_w3_0_3 => rhs; simp [go_sem, *]
          have f_w5_w3_0_3 := f_w5_w3_0 3
          conv at f_w5_w3_0_3 => rhs; simp [go_sem, *]
          have c_w5_w3_0_4 := c_w5_w3_0 4
          conv at c_w5_w3_0_4 => rhs; simp [go_sem, *]
          have f_w5_w3_0_4 := f_w5_w3_0 4
          conv at f_w5_w3_0_4 => rhs; simp [go_sem, *]
          have c_w5_w3_0_5 := c_w5_w3_0 5
          conv at c_w5_w3_0_5 => rhs; simp [go_sem, *]
          have f_w5_w3_0_5 := f_w5_w3_0 5
          conv at f_w5_w3_0_5 => rhs; simp [go_sem, *]
          obtain ⟨c_w5_w4_0, f_w5_w4_0⟩ := bk hb_w5 (w4.heap.size) (by first | omega | (simp <;> omega))
          have c_w5_w4_0_0 := c_w5_w4_0 0
          conv at c_w5_w4_0_0 => rhs; simp [go_sem, *]
          have f_w5_w4_0_0 := f_w5_w4_0 0
          conv at f_w5_w4_0_0 => rhs; simp [go_sem, *]
          have c_w5_w4_0_1 := c_w5_w4_0 1
          conv at c_w5_w4_0_1 => rhs; simp [go_sem, *]
          have f_w5_w4_0_1 := f_w5_w4_0 1
          conv at f_w5_w4_0_1 => rhs; simp [go_sem, *]
          have c_w5_w4_0_2 := c_w5_w4_0 2
          conv at c_w5_w4_0_2 => rhs; simp [go_sem, *]
          have f_w5_w4_0_2 := f_w5_w4_0 2
          conv at f_w5_w4_0_2 => rhs; simp [go_sem, *]
          have c_w5_w4_0_3 := c_w5_w4_0 3
          conv at c_w5_w4_0_3 => rhs; simp [go_sem, *]
          have f_w5_w4_0_3 := f_w5_w4_0 3
          conv at f_w5_w4_0_3 => rhs; simp [go_sem, *]
          have c_w5_w4_0_4 := c_w5_w4_0 4
          conv at c_w5_w4_0_4 => rhs; simp [go_sem, *]
          have f_w5_w4_0_4 := f_w5_w4_0 4
          conv at f_w5_w4_0_4 => rhs; simp [go_sem, *]
          have c_w5_w4_0_5 := c_w5_w4_0 5
          conv at c_w5_w4_0_5 => rhs; simp [go_sem, *]
          have f_w5_w4_0_5 := f_w5_w4_0 5
          conv at f_w5_w4_0_5 => rhs; simp [go_sem, *]
          have HH_w5 := Lib.hid hb_w5
          have hB_w5 : Below w2.heap.size w2 w5 := Below.trans (by (repeat (first | (with_reducible exact Below.refl _ _) | (with_reducible assumption) | (with_reducible refine Below.drew ?_) | (focus ((with_reducible refine Below.setCell ?_ ?_ _); rotate_left; (first | omega | (simp <;> omega)))) | (focus ((with_reducible refine Below.alloc ?_ ?_ _); rotate_left; (first | omega | (simp <;> omega)))) | exact Below.refl _ _ | assumption | refine Below.drew ?_ | refine Below.alloc ?_ (by first | omega | (simp <;> omega)) _ | refine Below.setCell ?_ (by first | omega | (simp <;> omega)) _))) (hb_w5.mono (by first | omega | (simp <;> omega)))
          clear hb_w5 c_w5_w3_0 f_w5_w3_0 c_w5_w4_0 f_w5_w4_0
          try clear c_w4_w2_1_0
          try clear f_w4_w2_1_0
          try clear c_w4_w2_1_1
          try clear f_w4_w2_1_1
          try clear c_w4_w3_0_0
          try clear f_w4_w3_0_0
          try clear c_w4_w3_0_1
          try clear f_w4_w3_0_1
          try clear c_w4_w3_0_2
          try clear f_w4_w3_0_2
          try clear c_w4_w3_0_3
          try clear f_w4_w3_0_3
          try clear c_w4_w3_0_4
          try clear f_w4_w3_0_4
          try clear c_w4_w3_0_5
          try clear f_w4_w3_0_5
          try clear far_w4_w2_1
          try clear far_w4_w3_0
          try clear hB_w4
          have far_w5_w3_0 := far (show w3.heap.size < w5.heap.size by omega)
          have far_w5_w4_0 := far (show w4.heap.size < w5.heap.size by omega)
          go_wp2_with fail
          refine Calls.mono (AL.out _ (HB2.out.trans (Below.mono (show Below w2.heap.size w2 _ by (repeat (first | (with_reducible exact Below.refl _ _) | (with_reducible assumption) | (with_reducible refine Below.drew ?_) | (focus ((with_reducible refine Below.setCell ?_ ?_ _); rotate_left; (first | omega | (simp <;> omega)))) | (focus ((with_reducible refine Below.alloc ?_ ?_ _); rotate_left; (first | omega | (simp <;> omega)))) | exact Below.refl _ _ | assumption | refine Below.drew ?_ | refine Below.alloc ?_ (by first | omega | (simp <;> omega)) _ | refine Below.setCell ?_ (by first | omega | (simp <;> omega)) _))) hz2))) ?_
          rintro e w6 ⟨rfl, hb_w6⟩
          have hz_w6 := hb_w6.size
          try simp at hz_w6
          obtain ⟨c_w6_w3_0, f_w6_w3_0⟩ := bk hb_w6 (w3.heap.size) (by first | omega | (simp <;> omega))
          have c_w6_w3_0_0 := c_w6_w3_0 0
          conv at c_w6_w3_0_0 => rhs; simp [go_sem, *]
          have f_w6_w3_0_0 := f_w6_w3_0 0
          conv at f_w6_w3_0_0 => rhs; simp [go_sem, *]
          have c_w6_w3_0_1 := c_w6_w3_0 1
          conv at c_w6_w3_0_1 => rhs; simp [go_sem, *]
          have f_w6_w3_0_1 := f_w6_w3_0 1
          conv at f_w6_w3_0_1 => rhs; simp [go_sem, *]
          have c_w6_w3_0_2 := c_w6_w3_0 2
          conv at c_w6_w3_0_2 => rhs; simp [go_sem, *]
          have f_w6_w3_0_2 := f_w6_w3_0 2
          conv at f_w6_w3_0_2 => rhs; simp [go_sem, *]
          have c_w6_w3_0_3 := c_w6_w3_0 3
          conv at c_w6_w3_0_3 => rhs; simp [go_sem, *]
          have f_w6_w3_0_3 := f_w6_w3_0 3
          conv at f_w6_w3_0_3 => rhs; simp [go_sem, *]
          have c_w6_w3_0_4 := c_w6_w3_0 4
          conv at c_w6_w3_0_4 => rhs; simp [go_sem, *]
          have f_w6_w3_0_4 := f_w6_w3_0 4
          conv at f_w6_w3_0_4 => rhs; simp [go_sem, *]
          have c_w6_w3_0_5 := c_w6_w3_0 5
          conv at c_w6_w3_0_5 => rhs; simp [go_sem, *]
          have f_w6_w3_0_5 := f_w6_w3_0 5
          conv at f_w6_w3_0_5 => rhs; simp [go_sem, *]
          obtain ⟨c_w6_w4_0, f_w6_w4_0⟩ := bk hb_w6 (w4.heap.size) (by first | omega | (simp <;> omega))
          have c_w6_w4_0_0 := c_w6_w4_0 0
          conv at c_w6_w4_0_0 => rhs; simp [go_sem, *]
          have f_w6_w4_0_0 := f_w6_w4_0 0
          conv at f_w6_w4_0_0 => rhs; simp [go_sem, *]
          have c_w6_w4_0_1 := c_w6_w4_0 1
          conv at c_w6_w4_0_1 => rhs; simp [go_sem, *]
          have f_w6_w4_0_1 := f_w6_w4_0 1
          conv at f_w6_w4_0_1 => rhs; simp [go_sem, *]
          have c_w6_w4_0_2 := c_w6_w4_0 2
          conv at c_w6_w4_0_2 => rhs; simp [go_sem, *]
          have f_w6_w4_0_2 := f_w6_w4_0 2
          conv at f_w6_w4_0_2 => rhs; simp [go_sem, *]
          have c_w6_w4_0_3 := c_w6_w4_0 3
          conv at c_w6_w4_0_3 => rhs; simp [go_sem, *]
          have f_w6_w4_0_3 := f_w6_w4_0 3
          conv at f_w6_w4_0_3 => rhs; simp [go_sem, *]
          have c_w6_w4_0_4 := c_w6_w4_0 4
          conv at c_w6_w4_0_4 => rhs; simp [go_sem, *]
          have f_w6_w4_0_4 := f_w6_w4_0 4
          conv at f_w6_w4_0_4 => rhs; simp [go_sem, *]
          have c_w6_w4_0_5 := c_w6_w4_0 5
          conv at c_w6_w4_0_5 => rhs; simp [go_sem, *]
          have f_w6_w4_0_5 := f_w6_w4_0 5
          conv at f_w6_w4_0_5 => rhs; simp [go_sem, *]
          have HH_w6 := Lib.hid hb_w6
          have hB_w6 : Below w2.heap.size w2 w6 := Below.trans (by (repeat (first | (with_reducible exact Below.refl _ _) | (with_reducible assumption) | (with_reducible refine Below.drew ?_) | (focus ((with_reducible refine Below.setCell ?_ ?_ _); rotate_left; (first | omega | (simp <;> omega)))) | (focus ((with_reducible refine Below.alloc ?_ ?_ _); rotate_left; (first | omega | (simp <;> omega)))) | exact Below.refl _ _ | assumption | refine Below.drew ?_ | refine Below.alloc ?_ (by first | omega | (simp <;> omega)) _ | refine Below.setCell ?_ (by first | omega | (simp <;> omega)) _))) (hb_w6.mono (by first | omega | (simp <;> omega)))
          clear hb_w6 c_w6_w3_0 f_w6_w3_0 c_w6_w4_0 f_w6_w4_0
          try clear c_w5_w3_0_0
          try clear f_w5_w3_0_0
          try clear c_w5_w3_0_1
          try clear f_w5_w3_0_1
          try clear c_w5_w3_0_2
          try clear f_w5_w3_0_2
          try clear c_w5_w3_0_3
          try clear f_w5_w3_0_3
          try clear c_w5_w3_0_4
          try clear f_w5_w3_0_4
          try clear c_w5_w3_0_5
          try clear f_w5_w3_0_5
          try clear c_w5_w4_0_0
          try clear f_w5_w4_0_0
          try clear c_w5_w4_0_1
          try clear f_w5_w4_0_1
          try clear c_w5_w4_0_2
          try clear f_w5_w4_0_2
          try clear c_w5_w4_0_3
          try clear f_w5_w4_0_3
          try clear c_w5_w4_0_4
          try clear f_w5_w4_0_4
          try clear c_w5_w4_0_5
          try clear f_w5_w4_0_5
          try clear far_w5_w3_0
          try clear far_w5_w4_0
          try clear hB_w5
          have far_w6_w3_0 := far (show w3.heap.size < w6.heap.size by omega)
          have far_w6_w4_0 := far (show w4.heap.size < w6.heap.size by omega)
          go_wp2
          go_ret
          exact ⟨ret_bool (by simp), HB2.out.trans (Below.mono (show Below w2.heap.size w2 _ by (repeat (first | (with_reducible exact Below.refl _ _) | (with_reducible assumption) | (with_reducible refine Below.drew ?_) | (focus ((with_reducible refine Below.setCell ?_ ?_ _); rotate_left; (first | omega | (simp <;> omega)))) | (focus ((with_reducible refine Below.alloc ?_ ?_ _); rotate_left; (first | omega | (simp <;> omega)))) | exact Below.refl _ _ | assumption | refine Below.drew ?_ | refine Below.alloc ?_ (by first | omega | (simp <;> omega)) _ | refine Below.setCell ?_ (by first | omega | (simp <;> omega)) _))) hz2)⟩
end Go.Proofs.YtgjemgilanhdiaaGreatDoor
