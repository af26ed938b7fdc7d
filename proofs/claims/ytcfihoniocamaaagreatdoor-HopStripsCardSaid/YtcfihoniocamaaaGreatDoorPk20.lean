/- Rows of texts that are read. The document's All and Joined: the walks. -/
import Derived.Test.YtcfihoniocamaaaGreatDoorPk7
import Derived.Test.YtcfihoniocamaaaGreatDoorPk14
namespace Go.Proofs.YtcfihoniocamaaaGreatDoor
open Go.RowKit
set_option linter.unusedVariables false

/-- The slice v reads as these texts. -/
def Reads (W : World) (v : Value) (L : List (List UInt8)) : Prop :=
  ∃ ao cap, v = .slice ao L.length cap ∧ L.length ≤ cap ∧ cap ≤ maxLen ∧ (0 < L.length → ∃ b off, ao = some ⟨b, off, none⟩ ∧ b < W.heap.size ∧ ∀ j (h : j < L.length), W.cell? ⟨b, off + j, none⟩ = some (.string (S L[j])))
theorem Owns.reads {W : World} {B : Nat} {v : Value} {L : List (List UInt8)} (h : Owns W B v L) : Reads W v L := by
  obtain ⟨ao, cap, h1, h2, h3, h4, h5⟩ := h.shape
  refine ⟨ao, cap, h1, h2, h3, fun h0 => ?_⟩
  obtain ⟨g, cap', e1, e2, e3, e4, e5⟩ := h.at 0 h0
  rw [h1] at e1
  injection e1 with e6 e7 e8
  exact ⟨g, 0, e6, e4, fun j hj => by rw [Nat.zero_add]; exact e5 j hj⟩
theorem Reads.below {W W' : World} {v : Value} {L : List (List UInt8)} (h : Reads W v L) (hb : Below W.heap.size W W') : Reads W' v L := by
  obtain ⟨ao, cap, h1, h2, h3, h4⟩ := h
  refine ⟨ao, cap, h1, h2, h3, fun h0 => ?_⟩
  obtain ⟨b, off, e1, e2, e3⟩ := h4 h0
  exact ⟨b, off, e1, Nat.lt_of_lt_of_le e2 hb.size, fun j hj => by rw [hb.cell (p := ⟨b, off + j, none⟩) e2]; exact e3 j hj⟩

theorem ownsMade (W : World) (B : Nat) (hB : B ≤ W.heap.size) : Owns (W.alloc (.cells #[] 9)) B (.slice (some ⟨W.heap.size, 0, none⟩) 0 0) [] := Owns.made W B hB
end Go.Proofs.YtcfihoniocamaaaGreatDoor
namespace Go.Proofs.YtcfihoniocamaaaGreatDoor
open Go.RowKit Go.Sort Go.Shelf
set_option linter.unusedVariables false

set_option maxHeartbeats 1600000 in
set_option maxRecDepth 100000 in
theorem refAll (v : Value) (L : List Fld) (m : List UInt8) (hm : m.length ≤ 4611686018427387903) (W : World) (hr : ReadsF W v L) (hs : ∀ f ∈ L, Small f) (hlen : L.length ≤ 1099511627776) :
    Calls Tryz.prog 10 #[v, .string (S m)] W fun e w' => ∃ v', e = .returned v' ∧ Owns w' W.heap.size v' ((namedL L m).map (·.2)) ∧ Below W.heap.size W w' := by
  obtain ⟨ao, cap, rfl, hc1, hc2, hc3, hcell⟩ := hr
  have hmx : maxLen = 9223372036854775807 := rfl
  rw [hmx] at hc2
  have HC := Lib.hid hcell
  have HS := Lib.hid hs
  clear hmx hcell hs hc3
  go_enter Tryz.func10, Tryz.ntmps10
  go_wp2
  go_loopw [5, 11] (fun ov iv wr => ∃ i : Nat, iv = .int .i64 i ∧ i ≤ L.length ∧ Owns wr W.heap.size ov ((namedL (L.take i) m).map (·.2)) ∧ Below W.heap.size W wr) (fun _ iv _ => L.length - (intOf iv).toNat)
  case atStart => exact ⟨0, rfl, Nat.zero_le _, ownsMade _ _ (Nat.le_refl _), by (repeat (first | (with_reducible exact Below.refl _ _) | (with_reducible assumption) | (with_reducible refine Below.drew ?_) | (focus ((with_reducible refine Below.setCell ?_ ?_ _); rotate_left; (first | omega | (simp <;> omega)))) | (focus ((with_reducible refine Below.alloc ?_ ?_ _); rotate_left; (first | omega | (simp <;> omega)))) | exact Below.refl _ _ | assumption | refine Below.drew ?_ | refine Below.alloc ?_ (by first | omega | (simp <;> omega)) _ | refine Below.setCell ?_ (by first | omega | (simp <;> omega)) _))⟩
  case round =>
    obtain ⟨i, rfl, hi, hown, hB⟩ := hrel
    have HO := Lib.hid hown
    have hz := hB.size
    clear hown
    by_cases hlt : i < L.length
    · obtain ⟨b, off, rfl, hb, hcl⟩ := HC.out (by omega)
      obtain ⟨e1, e2⟩ := hcl i hlt
      rw [← hB.cell (p := ⟨b, off + i * 2, none⟩) hb] at e1
      rw [← hB.cell (p := ⟨b, off + i * 2 + 1, none⟩) hb] at e2
      have hsm := HS.out _ (List.getElem_mem hlt)
      have htk : (namedL (L.take (i + 1)) m).map (·.2) = (namedL (L.take i) m).map (·.2) ++ (if sameN L[i].1 m = true then [L[i].2] else []) := by
        unfold namedL
        rw [List.take_succ_eq_append_getElem hlt, List.filter_append]
        cases hp : sameN L[i].1 m <;> simp [hp]
      have hfl : ((namedL (L.take i) m).map (·.2)).length ≤ 1099511627776 := by
        have := List.length_filter_le (fun f => sameN f.1 m) (L.take i)
        have h2 : (L.take i).length ≤ L.length := by simp; omega
        rw [List.length_map]
        exact Nat.le_trans (Nat.le_trans this h2) hlen
      obtain ⟨⟨n, x⟩, hf⟩ : ∃ f, L[i] = f := ⟨_, rfl⟩
      rw [hf] at e1 e2 hsm htk
      have C := Lib.hid (fun W => refSameN n m hsm.1 hm W)
      obtain ⟨y, hy⟩ : ∃ y, sameN n m = y := ⟨_, rfl⟩
      simp only at htk
      rw [hy] at C htk
      have HT := Lib.hid htk
      simp only at e1 e2
      clear hcl hf hy htk hsm
      cases y with
      | true =>
        go_wp2_with (first
          | (go_at_call 30; refine (C.out _).mono ?_; rintro e w1 ⟨rfl, hb1⟩; obtain ⟨hcc, hff⟩ := bk hb1 wr.heap.size (by simp); have hbw := Below.trans (show Below wr.heap.size wr _ by (repeat (first | (with_reducible exact Below.refl _ _) | (with_reducible assumption) | (with_reducible refine Below.drew ?_) | (focus ((with_reducible refine Below.setCell ?_ ?_ _); rotate_left; (first | omega | (simp <;> omega)))) | (focus ((with_reducible refine Below.alloc ?_ ?_ _); rotate_left; (first | omega | (simp <;> omega)))) | exact Below.refl _ _ | assumption | refine Below.drew ?_ | refine Below.alloc ?_ (by first | omega | (simp <;> omega)) _ | refine Below.setCell ?_ (by first | omega | (simp <;> omega)) _))) (hb1.mono (by simp)); have hz1 := hb1.size; simp at hz1)
          | (at_builtin; refine wp_append_text' rfl _ _ rfl _ W.heap.size _ _ x (Owns.below HO.out hbw) rfl _ rfl rfl (by omega) (by omega) ?_; intro v4 w4 hown4 hb4; have HO4 := Lib.hid hown4; have hbw4 := Below.trans (hB.trans (hbw.mono hz)) hb4; clear hown4))
        go_roundw
        case rel => exact ⟨i + 1, by go_num, by omega, by rw [HT.out]; exact HO4.out, hbw4⟩
        case measure => simp [intOf]; omega
      | false =>
        go_wp2_with (go_at_call 30; refine (C.out _).mono ?_; rintro e w1 ⟨rfl, hb1⟩; have hbw := Below.trans (show Below wr.heap.size wr _ by (repeat (first | (with_reducible exact Below.refl _ _) | (with_reducible assumption) | (with_reducible refine Below.drew ?_) | (focus ((with_reducible refine Below.setCell ?_ ?_ _); rotate_left; (first | omega | (simp <;> omega)))) | (focus ((with_reducible refine Below.alloc ?_ ?_ _); rotate_left; (first | omega | (simp <;> omega)))) | exact Below.refl _ _ | assumption | refine Below.drew ?_ | refine Below.alloc ?_ (by first | omega | (simp <;> omega)) _ | refine Below.setCell ?_ (by first | omega | (simp <;> omega)) _))) (hb1.mono (by simp)))
        go_roundw
        case rel => exact ⟨i + 1, by go_num, by omega, by rw [HT.out]; simpa using Owns.below HO.out hbw, hB.trans (hbw.mono hz)⟩
        case measure => simp [intOf]; omega
    · obtain rfl : i = L.length := by omega
      have HO2 := Lib.hid (show Owns wr W.heap.size _ ((namedL L m).map (·.2)) from by have := HO.out; rw [List.take_length] at this; exact this)
      go_wp2
      go_ret
      exact ⟨_, rfl, HO2.out, hB⟩

theorem join_next (xs : List (List UInt8)) (sep : List UInt8) (k : Nat) (hk : k < xs.length) : Lib.join (xs.take (k + 1)) sep = Lib.join (xs.take k) sep ++ (if 0 < k then sep else []) ++ xs[k] := by
  cases xs with
  | nil => simp at hk
  | cons x r =>
    cases k with
    | zero => simp [Lib.join_nil, Lib.join_one]
    | succ k =>
      have hk' : k < r.length := by simpa using hk
      rw [List.take_succ_cons, List.take_succ_cons, Lib.join_cons, Lib.join_cons, Lib.joinTail_take_succ sep r k r[k] (List.getElem?_eq_getElem hk')]
      simp

set_option maxHeartbeats 1600000 in
theorem refJoined (v : Value) (xs : List (List UInt8)) (W : World) (hr : Reads W v xs) (hx : ∀ x ∈ xs, x.length ≤ 10000) (hl : xs.length ≤ 1000) :
    Calls Tryz.prog 40 #[v] W fun e w' => e = .returned (.string (S (Lib.join xs [44, 32]))) ∧ w' = W := by
  obtain ⟨ao, cap, rfl, hc1, hc2, hcell⟩ := hr
  have hmx : maxLen = 9223372036854775807 := rfl
  rw [hmx] at hc2
  have HC := Lib.hid hcell
  have HX := Lib.hid hx
  clear hmx hcell hx
  go_enter Tryz.func40, Tryz.ntmps40
  go_wp2
  simp only [mk_S]
  go_loop [3, 8] (fun ov iv => ∃ i : Nat, iv = .int .i64 i ∧ i ≤ xs.length ∧ ov = .string (S (Lib.join (xs.take i) [44, 32]))) (fun _ iv => xs.length - (intOf iv).toNat)
  case atStart => exact ⟨0, rfl, Nat.zero_le _, rfl⟩
  case round =>
    obtain ⟨i, rfl, hi, rfl⟩ := hrel
    have hj := join_le (K := 10000) (xs.take i) (fun x hx => HX.out x (List.mem_of_mem_take hx))
    have hjl : (xs.take i).length ≤ 1000 := by simp; omega
    have hj2 : (Lib.join (xs.take i) [44, 32]).length ≤ 20000000 := by omega
    clear hj hjl
    by_cases hlt : i < xs.length
    · obtain ⟨b, off, rfl, hb, hcl⟩ := HC.out (by omega)
      have e1 := hcl i hlt
      have hxl := HX.out _ (List.getElem_mem hlt)
      have HN := Lib.hid (join_next xs [44, 32] i hlt)
      obtain ⟨x, hx⟩ : ∃ x, xs[i] = x := ⟨_, rfl⟩
      obtain ⟨js, hjs⟩ : ∃ js, Lib.join (xs.take i) [44, 32] = js := ⟨_, rfl⟩
      rw [hx] at e1 hxl HN
      rw [hjs] at hj2 HN ⊢
      clear hcl hx hjs
      rcases Nat.eq_zero_or_pos i with rfl | hi0
      · rw [Nat.add_zero] at e1
        go_wp2
        go_round
        case rel => exact ⟨1, by go_num, by omega, by rw [HN.out]; simp⟩
        case measure => simp [intOf]; omega
      · go_wp2
        go_round
        case rel => exact ⟨i + 1, by go_num, by omega, by rw [HN.out, if_pos hi0]; simp⟩
        case measure => simp [intOf]; omega
    · obtain rfl : i = xs.length := by omega
      rw [List.take_length]
      go_wp2
      go_ret
      exact ⟨rfl, rfl⟩
end Go.Proofs.YtcfihoniocamaaaGreatDoor
