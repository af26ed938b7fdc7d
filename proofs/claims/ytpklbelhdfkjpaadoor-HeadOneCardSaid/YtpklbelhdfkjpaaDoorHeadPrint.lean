/- head.Print: the walk. -/
import Derived.Test.YtpklbelhdfkjpaaDoorHeadMath
import Derived.Test.YtpklbelhdfkjpaaDoorBuilderLay
import Derived.Test.YtpklbelhdfkjpaaDoorTableRight
namespace Go.Proofs.YtpklbelhdfkjpaaDoor
open Go.RowKit Go.Sort Go.Shelf
set_option linter.unusedVariables false

def ShortF (f : Fl) : Prop := f.1.length ≤ 5000 ∧ f.2.length ≤ 5000
theorem ShortF.small {f : Fl} (h : ShortF f) : Small f := ⟨by have := h.1; omega, by have := h.2; omega⟩
theorem writeE_len (L : List Fl) (h : ∀ f ∈ L, ShortF f) : (writeE [13, 10] L).length ≤ L.length * 10004 := by
  induction L with
  | nil => simp [writeE]
  | cons f L ih =>
    have := ih (fun g hg => h g (by simp [hg]))
    obtain ⟨h1, h2⟩ := h f (by simp)
    rw [writeE_cons]
    simp only [List.length_append, List.length_cons, List.length_nil, lineOf]
    omega

set_option maxHeartbeats 3200000 in
set_option maxRecDepth 100000 in
theorem headPrint_c (v : Value) (L : List Fl) (W : World) (hr : ReadsF W v L) (hs : ∀ f ∈ L, ShortF f) :
    Calls Tryd.prog 9 #[v] W fun e w' => e = .returned (.tuple #[.string (S (headPrint L).1), .int .i64 (headPrint L).2]) ∧ Below W.heap.size W w' := by
  have C1 := Lib.hid (tableRight v L W hr (fun f hf => (hs f hf).small))
  obtain ⟨ao, cap, rfl, hc1, hc2, _, hcell⟩ := hr
  have hm : maxLen = 9223372036854775807 := rfl
  rw [hm] at hc2
  obtain ⟨⟨pt, pe⟩, hp⟩ : ∃ x, headPrint L = x := ⟨_, rfl⟩
  rw [hp]
  simp only
  unfold headPrint at hp
  have HP := Lib.hid hp
  clear hp
  cases ha : rightL L with
  | false =>
    rw [ha] at C1 HP
    rw [if_neg (by simp)] at HP
    obtain ⟨rfl, rfl⟩ := Prod.mk.inj HP.out
    clear hs ha hm hcell HP
    go_enter Tryd.func9, Tryd.ntmps9
    go_wp2_with (go_at_call 18; refine C1.out.mono ?_; rintro e w1 ⟨rfl, hb⟩)
    go_ret2
    exact ⟨rfl, by (repeat (first | (with_reducible exact Below.refl _ _) | (with_reducible assumption) | (with_reducible refine Below.drew ?_) | (focus ((with_reducible refine Below.setCell ?_ ?_ _); rotate_left; (first | omega | (simp <;> omega)))) | (focus ((with_reducible refine Below.alloc ?_ ?_ _); rotate_left; (first | omega | (simp <;> omega)))) | exact Below.refl _ _ | assumption | refine Below.drew ?_ | refine Below.alloc ?_ (by first | omega | (simp <;> omega)) _ | refine Below.setCell ?_ (by first | omega | (simp <;> omega)) _))⟩
  | true =>
    rw [ha] at C1 HP
    have h40 := (right_parts ha).1
    rw [if_pos rfl] at HP
    have HC := Lib.hid hcell
    have HW := Lib.hid (fun k => writeE_len (L.take k) (fun f hf => hs f (List.mem_of_mem_take hf)))
    have HS := Lib.hid hs
    clear ha hm hcell hs
    go_enter Tryd.func9, Tryd.ntmps9
    go_wp2_with (go_at_call 18; refine C1.out.mono ?_; rintro e w1 ⟨rfl, hb1⟩)
    have hz1 := hb1.size
    have HB1 := Lib.hid hb1
    clear hb1
    go_loopw [12] (fun iv wr => ∃ k : Nat, iv = .int .i64 k ∧ k ≤ L.length ∧ Holds wr w1.heap.size (writeE [13, 10] (L.take k)) ∧ Below w1.heap.size w1 wr) (fun iv _ => L.length - (intOf iv).toNat)
    case atStart => exact ⟨0, rfl, Nat.zero_le _, Holds.fresh _, by (repeat (first | (with_reducible exact Below.refl _ _) | (with_reducible assumption) | (with_reducible refine Below.drew ?_) | (focus ((with_reducible refine Below.setCell ?_ ?_ _); rotate_left; (first | omega | (simp <;> omega)))) | (focus ((with_reducible refine Below.alloc ?_ ?_ _); rotate_left; (first | omega | (simp <;> omega)))) | exact Below.refl _ _ | assumption | refine Below.drew ?_ | refine Below.alloc ?_ (by first | omega | (simp <;> omega)) _ | refine Below.setCell ?_ (by first | omega | (simp <;> omega)) _))⟩
    case round =>
      obtain ⟨k, rfl, hk, hh, hB⟩ := hrel
      by_cases hlt : k < L.length
      · obtain ⟨b, off, rfl, hb, hcl⟩ := HC.out (by omega)
        obtain ⟨e1, e2⟩ := hcl k hlt
        have hB0 := HB1.out.trans (hB.mono hz1)
        rw [← hB0.cell (p := ⟨b, off + k * 2, none⟩) hb] at e1
        rw [← hB0.cell (p := ⟨b, off + k * 2 + 1, none⟩) hb] at e2
        have hsf := HS.out _ (List.getElem_mem hlt)
        have htk : writeE [13, 10] (L.take (k + 1)) = writeE [13, 10] (L.take k) ++ (L[k].1 ++ ([58, 32] ++ (L[k].2 ++ [13, 10]))) := by
          rw [List.take_add_one, List.getElem?_eq_getElem hlt]
          exact write_snoc _ _
        have hwl := HW.out k
        rw [List.length_take, Nat.min_eq_left hk] at hwl
        obtain ⟨⟨n, x⟩, hf⟩ : ∃ f, L[k] = f := ⟨_, rfl⟩
        rw [hf] at e1 e2 hsf htk
        simp only at e1 e2 htk
        obtain ⟨hn, hx⟩ := hsf
        simp only at hn hx
        obtain ⟨Q, hQ⟩ : ∃ Q, writeE [13, 10] (L.take k) = Q := ⟨_, rfl⟩
        rw [hQ] at htk hh hwl
        have hlb := hB.size
        have HH := Lib.hid (fun (W' : World) (o : Obj) => hh.alloc (W := wr) o)
        have WS := Lib.hid (fun (W' : World) (h : Holds W' w1.heap.size Q) => writeString_c (l := Q) (t := n ++ ([58, 32] ++ (x ++ [13, 10]))) W' h (by simp only [List.length_append, List.length_cons, List.length_nil]; omega) _ rfl)
        have HT := Lib.hid htk
        have HH0 := Lib.hid hh
        have hbl := hh.lt
        have HBB := Lib.hid hB
        clear hcl hf htk hQ hh hwl hB hB0
        go_wp2_with (go_at_call 19; have HHx := HH0.out.alloc (.cells #[.string (S n), .string (S x)] 33); refine (Calls.mono (by simpa using WS.out _ HHx) ?_); rintro e w3 ⟨rfl, hh3, hb3⟩)
        go_roundw
        case rel => exact ⟨k + 1, by go_num, by omega, by rw [HT.out]; exact hh3, HBB.out.trans (Below.trans (by (repeat (first | (with_reducible exact Below.refl _ _) | (with_reducible assumption) | (with_reducible refine Below.drew ?_) | (focus ((with_reducible refine Below.setCell ?_ ?_ _); rotate_left; (first | omega | (simp <;> omega)))) | (focus ((with_reducible refine Below.alloc ?_ ?_ _); rotate_left; (first | omega | (simp <;> omega)))) | exact Below.refl _ _ | assumption | refine Below.drew ?_ | refine Below.alloc ?_ (by first | omega | (simp <;> omega)) _ | refine Below.setCell ?_ (by first | omega | (simp <;> omega)) _))) hb3)⟩
        case measure => simp [intOf]; omega
      · obtain rfl : k = L.length := by omega
        rw [List.take_length] at hh
        have hwl := HW.out L.length
        rw [List.take_length] at hwl
        obtain ⟨Q, hQ⟩ : ∃ Q, writeE [13, 10] L = Q := ⟨_, rfl⟩
        rw [hQ] at hh hwl
        have HQ := Lib.hid hQ
        have hlb := hB.size
        have LE := Lib.hid (fun (W' : World) (h : Holds W' w1.heap.size Q) => builderLen_c W' h _ rfl)
        have ST := Lib.hid (fun (W' : World) (h : Holds W' w1.heap.size Q) => builderString_c W' h)
        have HH := Lib.hid hh
        have hB0 := HB1.out.trans (hB.mono hz1)
        clear hQ hh
        by_cases h4 : 4000 < Q.length
        · have H4 := Lib.hid h4
          clear h4
          have h5 : (4000 : Int) < (Q.length : Int) := by have := H4.out; omega
          go_wp2_with (go_at_call 20; refine (LE.out _ HH.out).mono ?_; rintro e w' ⟨rfl, rfl⟩)
          go_ret2
          have h6 := HP.out
          rw [HQ.out, if_pos H4.out] at h6
          obtain ⟨rfl, rfl⟩ := Prod.mk.inj h6
          exact ⟨rfl, hB0⟩
        · have H4 := Lib.hid h4
          clear h4
          have h5 : (Q.length : Int) ≤ 4000 := by have := H4.out; omega
          go_wp2_with (first
            | (go_at_call 20; refine (LE.out _ HH.out).mono ?_; rintro e w' ⟨rfl, rfl⟩)
            | (go_at_call 21; refine (ST.out _ HH.out).mono ?_; rintro e w4 ⟨rfl, hb4⟩))
          go_ret2
          have h6 := HP.out
          rw [HQ.out, if_neg H4.out] at h6
          obtain ⟨rfl, rfl⟩ := Prod.mk.inj h6
          exact ⟨rfl, hB0.trans (hb4.mono (by omega))⟩
end Go.Proofs.YtpklbelhdfkjpaaDoor
