/- table.Joined; the document's Remove: the walks. -/
import Derived.Test.YtcfihoniocamaaaDoorTableAll
import Derived.Test.YtcfihoniocamaaaDoorTableFew
namespace Go.Proofs.YtcfihoniocamaaaDoor
open Go.RowKit Go.Sort Go.Shelf
set_option linter.unusedVariables false

theorem lens_le {K : Nat} : ∀ xs : List (List UInt8), (∀ x ∈ xs, x.length ≤ K) → Lib.lens xs ≤ K * xs.length
  | [], _ => by simp [Lib.lens]
  | x :: r, h => by
    have h1 := lens_le r fun y hy => h y (by simp [hy])
    have h2 := h x (by simp)
    simp only [Lib.lens, List.map_cons, List.sum_cons, List.length_cons] at *
    rw [Nat.mul_add]
    omega
theorem join_le {K : Nat} (xs : List (List UInt8)) (h : ∀ x ∈ xs, x.length ≤ K) : (Lib.join xs [44, 32]).length ≤ 2 * xs.length + K * xs.length := by
  cases xs with
  | nil => simp [Lib.join, List.intercalate]
  | cons x r =>
    rw [Lib.join_length]
    have := lens_le (x :: r) h
    simp only [List.length_cons, List.length_nil] at *
    omega
/-- The values of a name, joined. -/
def joinedL (L : List Fld) (m : List UInt8) : List UInt8 := Lib.join ((namedL L m).map (·.2)) [44, 32]

set_option maxHeartbeats 1600000 in
set_option maxRecDepth 100000 in
theorem tableJoined (v : Value) (L : List Fld) (m : List UInt8) (hm : m.length ≤ 4611686018427387903) (w : World) (hr : ReadsF w v L) (hs : ∀ f ∈ L, Small f) (hv : ∀ f ∈ L, f.2.length ≤ 10000) (hlen : L.length ≤ 1000) :
    Calls Tryd.prog 48 #[v, .string (S m)] w fun e w' => e = .returned (.tuple #[.string (S (joinedL L m)), .bool (decide (0 < (namedL L m).length))]) ∧ Below w.heap.size w w' := by
  have C := Lib.hid (tableAll v L m hm w hr hs (by omega))
  have hnl : (namedL L m).length ≤ 1000 := Nat.le_trans (List.length_filter_le _ _) hlen
  have hvl : ∀ x ∈ (namedL L m).map (·.2), x.length ≤ 10000 := fun x hx => by
    obtain ⟨f, hf, rfl⟩ := List.mem_map.1 hx
    exact hv f (List.mem_filter.1 hf).1
  have hj := join_le ((namedL L m).map (·.2)) hvl
  unfold joinedL
  have hlm : ((namedL L m).map (·.2)).length = (namedL L m).length := by simp
  rw [← hlm] at hnl ⊢
  obtain ⟨xs, hxs⟩ : ∃ xs, (namedL L m).map (·.2) = xs := ⟨_, rfl⟩
  rw [hxs] at C hnl hj ⊢
  clear hr hs hv hm hlen hvl hxs hlm
  go_enter Tryd.func48, Tryd.ntmps48
  go_wp2_with fail
  refine C.out.mono ?_
  rintro e w1 ⟨v', rfl, hown, hb1⟩
  cases xs with
  | nil =>
    obtain ⟨ao, cap, rfl, k1, k2, _⟩ := hown.shape
    have hjn := fun W => Tryd.strings_Join_none ao cap (S [44, 32]) W
    clear hown hj
    go_wp2_with (go_at_call 65; refine (hjn _).mono ?_; rintro e w' ⟨rfl, rfl⟩)
    go_ret2
    exact ⟨rfl, hb1⟩
  | cons x r =>
    obtain ⟨g, cap, rfl, k1, k2, k3, k4⟩ := hown.at 0 (by simp)
    have hmx : maxLen = 9223372036854775807 := rfl
    rw [hmx] at k2
    have hjn := Tryd.strings_Join g 0 cap ((x :: r).map S) (S [44, 32]) w1 (fun j y hy => by
      rw [List.getElem?_map] at hy
      cases hj : (x :: r)[j]? with
      | none => rw [hj] at hy; cases hy
      | some z =>
        rw [hj] at hy
        cases hy
        have hjl : j < (x :: r).length := by
          rcases Nat.lt_or_ge j (x :: r).length with h | h
          · exact h
          · rw [List.getElem?_eq_none h] at hj; cases hj
        rw [List.getElem?_eq_getElem hjl] at hj
        cases hj
        rw [Nat.zero_add]
        exact k4 j hjl) k3 (by rw [List.length_map]; omega) (by rw [List.length_map]; exact k1) (by
      rw [List.map_map, S_data]
      have e : (x :: r).map ((fun s : ByteArray => s.data.toList) ∘ S) = x :: r := by
        conv => rhs; rw [← List.map_id (x :: r)]
        apply List.map_congr_left; intro a _; exact S_data a
      rw [e]; omega)
    rw [List.length_map, List.map_map, S_data] at hjn
    have e : (x :: r).map ((fun s : ByteArray => s.data.toList) ∘ S) = x :: r := by
      conv => rhs; rw [← List.map_id (x :: r)]
      apply List.map_congr_left; intro a _; exact S_data a
    rw [e] at hjn
    have HJ := Lib.hid hjn
    clear hown hj hjn k4 e hmx
    go_wp2_with (go_at_call 65; refine HJ.out.mono ?_; rintro e w' ⟨rfl, hb2⟩; have hb3 := hb1.trans (hb2.mono hb1.size))
    go_ret2
    exact ⟨by simp [S], hb3⟩

set_option maxHeartbeats 400000 in
theorem refSameN (l m : List UInt8) (hl : l.length ≤ 4611686018427387903) (hm : m.length ≤ 4611686018427387903) (w : World) : Calls Tryd.prog 32 #[.string (S l), .string (S m)] w fun e w' => e = .returned (.bool (sameN l m)) ∧ Below w.heap.size w w' := by
  have C1 := Lib.hid (fun W => refLower l hl W)
  have C2 := Lib.hid (fun W => refLower m hm W)
  unfold sameN
  go_enter Tryd.func32, Tryd.ntmps32
  go_wp2_with fail
  refine (C1.out _).mono ?_
  rintro e w1 ⟨rfl, hb1⟩
  go_wp2_with fail
  refine (C2.out _).mono ?_
  rintro e w2 ⟨rfl, hb2⟩
  have hb := hb1.trans (hb2.mono hb1.size)
  go_wp2
  go_ret
  exact ⟨by rfl, hb⟩

set_option maxHeartbeats 1600000 in
set_option maxRecDepth 100000 in
theorem refRemove (v : Value) (L : List Fld) (m : List UInt8) (hm : m.length ≤ 4611686018427387903) (W : World) (hr : ReadsF W v L) (hs : ∀ f ∈ L, Small f) (hlen : L.length ≤ 1099511627776) :
    Calls Tryd.prog 14 #[v, .string (S m)] W fun e w' => ∃ v', e = .returned v' ∧ OwnsF w' W.heap.size v' (removeL L m) ∧ Below W.heap.size W w' := by
  obtain ⟨ao, cap, rfl, hc1, hc2, hc3, hcell⟩ := hr
  have hmx : maxLen = 9223372036854775807 := rfl
  rw [hmx] at hc2
  have HC := Lib.hid hcell
  have HS := Lib.hid hs
  clear hmx hcell hs hc3
  go_enter Tryd.func14, Tryd.ntmps14
  go_wp2
  go_loopw [5, 11] (fun ov iv wr => ∃ i : Nat, iv = .int .i64 i ∧ i ≤ L.length ∧ OwnsF wr W.heap.size ov (removeL (L.take i) m) ∧ Below W.heap.size W wr) (fun _ iv _ => L.length - (intOf iv).toNat)
  case atStart => exact ⟨0, rfl, Nat.zero_le _, OwnsF.made _ _ (Nat.le_refl _), by (repeat (first | (with_reducible exact Below.refl _ _) | (with_reducible assumption) | (with_reducible refine Below.drew ?_) | (focus ((with_reducible refine Below.setCell ?_ ?_ _); rotate_left; (first | omega | (simp <;> omega)))) | (focus ((with_reducible refine Below.alloc ?_ ?_ _); rotate_left; (first | omega | (simp <;> omega)))) | exact Below.refl _ _ | assumption | refine Below.drew ?_ | refine Below.alloc ?_ (by first | omega | (simp <;> omega)) _ | refine Below.setCell ?_ (by first | omega | (simp <;> omega)) _))⟩
  case round =>
    obtain ⟨i, rfl, hi, hown, hB⟩ := hrel
    have HO := Lib.hid hown
    have hz := hB.size
    clear hown
    by_cases hlt : i < L.length
    · obtain ⟨b, off, rfl, hb, hcl⟩ := HC.out (by omega)
      obtain ⟨e1, e2⟩ := hcl i hlt
      rw [← hB.cell (p := ⟨b, off + i * 2, none⟩) hb] at e1
      rw [← hB.cell (p := ⟨b, off + i * 2 + 1, none⟩) hb] at e2
      have hsm := HS.out _ (List.getElem_mem hlt)
      have htk : removeL (L.take (i + 1)) m = removeL (L.take i) m ++ (if sameN L[i].1 m = true then [] else [L[i]]) := by
        unfold removeL
        rw [List.take_succ_eq_append_getElem hlt, List.filter_append]
        cases hp : sameN L[i].1 m <;> simp [hp]
      have hfl : (removeL (L.take i) m).length ≤ 1099511627776 := by
        have := List.length_filter_le (fun f => !sameN f.1 m) (L.take i)
        have h2 : (L.take i).length ≤ L.length := by simp; omega
        exact Nat.le_trans (Nat.le_trans this h2) hlen
      obtain ⟨⟨n, x⟩, hf⟩ : ∃ f, L[i] = f := ⟨_, rfl⟩
      rw [hf] at e1 e2 hsm htk
      have C := Lib.hid (fun W => refSameN n m hsm.1 hm W)
      obtain ⟨y, hy⟩ : ∃ y, sameN n m = y := ⟨_, rfl⟩
      simp only at htk
      rw [hy] at C htk
      have HT := Lib.hid htk
      simp only at e1 e2
      clear hcl hf hy htk hsm
      cases y with
      | false =>
        go_wp2_with (first
          | (go_at_call 32; refine (C.out _).mono ?_; rintro e w1 ⟨rfl, hb1⟩; obtain ⟨hcc, hff⟩ := bk hb1 wr.heap.size (by simp); have hbw := Below.trans (show Below wr.heap.size wr _ by (repeat (first | (with_reducible exact Below.refl _ _) | (with_reducible assumption) | (with_reducible refine Below.drew ?_) | (focus ((with_reducible refine Below.setCell ?_ ?_ _); rotate_left; (first | omega | (simp <;> omega)))) | (focus ((with_reducible refine Below.alloc ?_ ?_ _); rotate_left; (first | omega | (simp <;> omega)))) | exact Below.refl _ _ | assumption | refine Below.drew ?_ | refine Below.alloc ?_ (by first | omega | (simp <;> omega)) _ | refine Below.setCell ?_ (by first | omega | (simp <;> omega)) _))) (hb1.mono (by simp)); have hz1 := hb1.size; simp at hz1)
          | (at_builtin; refine wp_append_fld rfl _ _ rfl _ W.heap.size _ _ (n, x) (HO.out.below hbw) rfl _ rfl rfl (by omega) (by omega) ?_; intro v4 w4 hown4 hb4 _; have HO4 := Lib.hid hown4; have hbw4 := Below.trans (hB.trans (hbw.mono hz)) hb4; clear hown4))
        go_roundw
        case rel => exact ⟨i + 1, by go_num, by omega, by rw [HT.out]; exact HO4.out, hbw4⟩
        case measure => simp [intOf]; omega
      | true =>
        go_wp2_with (go_at_call 32; refine (C.out _).mono ?_; rintro e w1 ⟨rfl, hb1⟩; have hbw := Below.trans (show Below wr.heap.size wr _ by (repeat (first | (with_reducible exact Below.refl _ _) | (with_reducible assumption) | (with_reducible refine Below.drew ?_) | (focus ((with_reducible refine Below.setCell ?_ ?_ _); rotate_left; (first | omega | (simp <;> omega)))) | (focus ((with_reducible refine Below.alloc ?_ ?_ _); rotate_left; (first | omega | (simp <;> omega)))) | exact Below.refl _ _ | assumption | refine Below.drew ?_ | refine Below.alloc ?_ (by first | omega | (simp <;> omega)) _ | refine Below.setCell ?_ (by first | omega | (simp <;> omega)) _))) (hb1.mono (by simp)))
        go_roundw
        case rel => exact ⟨i + 1, by go_num, by omega, by rw [HT.out]; simpa using HO.out.below hbw, hB.trans (hbw.mono hz)⟩
        case measure => simp [intOf]; omega
    · obtain rfl : i = L.length := by omega
      have HO2 := Lib.hid (show OwnsF wr W.heap.size _ (removeL L m) from by have := HO.out; rw [List.take_length] at this; exact this)
      go_wp2
      go_ret
      exact ⟨_, rfl, HO2.out, hB⟩
end Go.Proofs.YtcfihoniocamaaaDoor
