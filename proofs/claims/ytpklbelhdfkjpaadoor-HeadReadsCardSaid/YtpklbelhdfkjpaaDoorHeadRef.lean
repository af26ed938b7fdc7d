/- The document's head: its walks. -/
import Derived.Test.YtpklbelhdfkjpaaDoorHeadLaw
import Derived.Test.YtpklbelhdfkjpaaDoorTextRef
import Derived.Test.YtpklbelhdfkjpaaDoorTableRef
import Derived.Deep.RegionWith
import Derived.Deep.DeepCutAuto
namespace Go.Proofs.YtpklbelhdfkjpaaDoor
open Go.RowKit Go.Sort Go.Shelf
set_option linter.unusedVariables false

def idxFrom (l : List UInt8) (c : UInt8) (i : Nat) : Int := if Lib.indexByte (l.drop i) c = -1 then -1 else i + Lib.indexByte (l.drop i) c
theorem idxFrom_zero (l : List UInt8) (c : UInt8) : idxFrom l c 0 = Lib.indexByte l c := by
  unfold idxFrom
  split
  · rename_i h; rw [List.drop_zero] at h; exact h.symm
  · simp
theorem idxFrom_hit {l : List UInt8} {c : UInt8} {i : Nat} (h : i < l.length) (hc : l[i] = c) : idxFrom l c i = i := by
  unfold idxFrom
  rw [List.drop_eq_getElem_cons h, hc]
  simp [Lib.indexByte]
theorem idxFrom_miss {l : List UInt8} {c : UInt8} {i : Nat} (h : i < l.length) (hc : l[i] ≠ c) : idxFrom l c i = idxFrom l c (i + 1) := by
  unfold idxFrom
  rw [List.drop_eq_getElem_cons h]
  have hge := Lib.indexByte_ge (l.drop (i + 1)) c
  simp only [Lib.indexByte, beq_iff_eq, hc, if_false]
  by_cases he : Lib.indexByte (l.drop (i + 1)) c = -1
  · simp [he]
  · rw [if_neg he, if_neg (by omega), if_neg he]; omega
theorem idxFrom_end (l : List UInt8) (c : UInt8) : idxFrom l c l.length = -1 := by
  unfold idxFrom
  rw [List.drop_length]
  simp [Lib.indexByte]

set_option maxHeartbeats 800000 in
theorem refFind (l : List UInt8) (c : UInt8) (hl : l.length ≤ 4611686018427387903) (w : World) : Calls Tryd.prog 26 #[.string (S l), .int .u8 (c.toNat : Int)] w fun e w' => e = .returned (.int .i64 (Lib.indexByte l c)) ∧ w' = w := by
  rw [← idxFrom_zero]
  have hc256 := c.toNat_lt
  have HB := Lib.hid (show ∀ d : UInt8, (d = c ↔ (d.toNat : Int) = (c.toNat : Int)) from fun d => ⟨fun e => by rw [e], fun e => UInt8.toNat.inj (by omega)⟩)
  obtain ⟨ci, hci⟩ : ∃ ci : Int, (c.toNat : Int) = ci := ⟨_, rfl⟩
  have hci0 : 0 ≤ ci ∧ ci < 256 := by omega
  obtain ⟨hci0, hci1⟩ := hci0
  rw [hci] at HB ⊢
  clear hci hc256
  go_enter Tryd.func26, Tryd.ntmps26
  go_wp2
  go_loop [5] (fun iv => ∃ i : Nat, iv = .int .i64 i ∧ i ≤ l.length ∧ idxFrom l c 0 = idxFrom l c i) (fun iv => l.length - (intOf iv).toNat)
  case atStart => exact ⟨0, rfl, Nat.zero_le _, rfl⟩
  case round =>
    obtain ⟨i, rfl, hi, hidx⟩ := hrel
    have HI := Lib.hid hidx
    clear hidx
    by_cases hlt : i < l.length
    · by_cases hc : l[i] = c
      · have e1 : bAt l i = ci := by rw [bAt_eq hlt]; exact (HB.out _).1 hc
        have HF := Lib.hid (HI.out.trans (idxFrom_hit hlt hc))
        clear hc
        go_wp2
        go_ret
        exact ⟨by rw [HF.out]; rfl, rfl⟩
      · have e1 : ¬ bAt l i = ci := by rw [bAt_eq hlt]; exact fun e => hc ((HB.out _).2 e)
        have e2 : (bAt l i == ci) = false := by simpa using e1
        have HF := Lib.hid (HI.out.trans (idxFrom_miss hlt hc))
        clear hc
        go_wp2
        go_round
        case rel => exact ⟨i + 1, by go_num, by omega, HF.out⟩
        case measure => simp [intOf]; omega
    · obtain rfl : i = l.length := by omega
      have HF := Lib.hid (HI.out.trans (idxFrom_end l c))
      go_wp2
      go_ret
      exact ⟨by rw [HF.out]; rfl, rfl⟩
theorem find_S {l : List UInt8} {c : UInt8} {ci i : Int} (hci : (c.toNat : Int) = ci) (hl : l.length ≤ 4611686018427387903) (h : Lib.indexByte l c = i) (w : World) : Calls Tryd.prog 26 #[.string (S l), .int .u8 ci] w fun e w' => e = .returned (.int .i64 i) ∧ w' = w :=
  hci ▸ h ▸ refFind l c hl w

theorem bare_at {l : List UInt8} (h : 0 < l.length) : bare l = if bAt l (l.length - 1) = 13 then l.take (l.length - 1) else l := by
  have hl : l.getLast? = some (l[l.length - 1]'(by omega)) := by rw [List.getLast?_eq_getElem?, List.getElem?_eq_getElem]
  unfold bare Lib.trimSuffix
  by_cases hc : l[l.length - 1]'(by omega) = 13
  · rw [if_pos ((suffix13 l).2 (by rw [hl, hc])), if_pos (by rw [bAt_eq (by omega), hc]; rfl)]
    rfl
  · rw [if_neg (fun e => hc (by have := (suffix13 l).1 e; rw [hl] at this; simpa using this)), if_neg]
    rw [bAt_eq (by omega)]
    intro e
    exact hc (UInt8.toNat.inj (Int.ofNat.inj e))
set_option maxHeartbeats 800000 in
theorem refBare (l x : List UInt8) (hl : l.length ≤ 4611686018427387903) (hx : bare l = x) (w : World) : Calls Tryd.prog 27 #[.string (S l)] w fun e w' => e = .returned (.string (S x)) ∧ w' = w := by
  by_cases h0 : 0 < l.length
  · have hb := bare_at h0
    rw [hx] at hb
    have hbb : bAt l ((l.length : Int) - 1).toNat = bAt l (l.length - 1) := by congr 1; omega
    have ht : ((l.length : Int) - 1).toNat = l.length - 1 := by omega
    obtain ⟨z, hz⟩ : ∃ z, bAt l (l.length - 1) = z := ⟨_, rfl⟩
    rw [hz] at hb hbb
    by_cases h13 : z = 13
    · subst h13
      rw [if_pos rfl] at hb
      have hx2 : (l.take (l.length - 1)).drop 0 = x := hb.symm
      have HX := Lib.hid hb
      clear hb hx
      go_enter Tryd.func27, Tryd.ntmps27
      go_wp2
      go_ret
      exact ⟨by first | rfl | (simp; done) | (rw [HX.out]; simp [ht]), rfl⟩
    · rw [if_neg h13] at hb
      subst hb
      have h13b : (z == 13) = false := by simpa using h13
      go_enter Tryd.func27, Tryd.ntmps27
      go_wp2
      go_ret
      exact ⟨rfl, rfl⟩
  · obtain rfl : l = [] := List.length_eq_zero_iff.1 (by omega)
    obtain rfl : [] = x := hx
    go_enter Tryd.func27, Tryd.ntmps27
    go_wp2
    go_ret
    exact ⟨rfl, rfl⟩

set_option maxHeartbeats 1600000 in
theorem refWrite (v : Value) (L : List Fl) (W : World) (hr : ReadsF W v L) (hs : ∀ f ∈ L, ShortF f) (h45 : L.length ≤ 45) :
    Calls Tryd.prog 16 #[v] W fun e w' => e = .returned (.string (S (writeE [13, 10] L))) ∧ Below W.heap.size W w' := by
  obtain ⟨ao, cap, rfl, hc1, hc2, _, hcell⟩ := hr
  have hm : maxLen = 9223372036854775807 := rfl
  rw [hm] at hc2
  have HC := Lib.hid hcell
  have HW := Lib.hid (fun k => writeE_len (L.take k) (fun f hf => hs f (List.mem_of_mem_take hf)))
  have HS := Lib.hid hs
  clear hm hcell hs
  go_enter Tryd.func16, Tryd.ntmps16
  go_wp2
  go_loopw [3, 8] (fun ov iv wr => ∃ k : Nat, ov = .string (S (writeE [13, 10] (L.take k))) ∧ iv = .int .i64 k ∧ k ≤ L.length ∧ Below W.heap.size W wr) (fun _ iv _ => L.length - (intOf iv).toNat)
  case atStart => exact ⟨0, rfl, rfl, Nat.zero_le _, Below.refl _ _⟩
  case round =>
    obtain ⟨k, rfl, rfl, hk, hB⟩ := hrel
    by_cases hlt : k < L.length
    · obtain ⟨b, off, rfl, hb, hcl⟩ := HC.out (by omega)
      obtain ⟨e1, e2⟩ := hcl k hlt
      rw [← hB.cell (p := ⟨b, off + k * 2, none⟩) hb] at e1
      rw [← hB.cell (p := ⟨b, off + k * 2 + 1, none⟩) hb] at e2
      have hsf := HS.out _ (List.getElem_mem hlt)
      have htk : writeE [13, 10] (L.take (k + 1)) = writeE [13, 10] (L.take k) ++ (L[k].1 ++ ([58, 32] ++ (L[k].2 ++ [13, 10]))) := by
        rw [List.take_add_one, List.getElem?_eq_getElem hlt]
        exact write_snoc _ _
      have hwl := HW.out k
      rw [List.length_take, Nat.min_eq_left hk] at hwl
      obtain ⟨⟨n, x⟩, hf⟩ : ∃ f, L[k] = f := ⟨_, rfl⟩
      rw [hf] at e1 e2 hsf htk
      simp only at e1 e2 htk
      obtain ⟨hn, hx⟩ := hsf
      simp only at hn hx
      obtain ⟨Q, hQ⟩ : ∃ Q, writeE [13, 10] (L.take k) = Q := ⟨_, rfl⟩
      rw [hQ] at htk hwl ⊢
      have HT := Lib.hid htk
      have hlb := hB.size
      clear hcl hf htk hQ
      go_wp2
      go_roundw
      case rel => exact ⟨k + 1, by rw [HT.out]; simp, by go_num, by omega, by (repeat (first | (with_reducible exact Below.refl _ _) | (with_reducible assumption) | (with_reducible refine Below.drew ?_) | (focus ((with_reducible refine Below.setCell ?_ ?_ _); rotate_left; (first | omega | (simp <;> omega)))) | (focus ((with_reducible refine Below.alloc ?_ ?_ _); rotate_left; (first | omega | (simp <;> omega)))) | exact Below.refl _ _ | assumption | refine Below.drew ?_ | refine Below.alloc ?_ (by first | omega | (simp <;> omega)) _ | refine Below.setCell ?_ (by first | omega | (simp <;> omega)) _))⟩
      case measure => simp [intOf]; omega
    · obtain rfl : k = L.length := by omega
      rw [List.take_length]
      go_wp2
      go_ret
      exact ⟨rfl, hB⟩
end Go.Proofs.YtpklbelhdfkjpaaDoor
