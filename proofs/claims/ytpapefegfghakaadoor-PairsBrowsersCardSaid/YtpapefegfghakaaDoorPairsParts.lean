/- pairs.parts, pairs.Query: the walks. -/
import Derived.Test.YtpapefegfghakaaDoorPairsClo
import Derived.Test.YtpapefegfghakaaDoorSplitGen
namespace Go.Proofs.YtpapefegfghakaaDoor
open Go.RowKit Go.Sort Go.Shelf
set_option linter.unusedVariables false

/-- The parts that are not empty. -/
def someL (L : List (List UInt8)) : List (List UInt8) := L.filter fun p => !p.isEmpty
theorem someL_snoc (L : List (List UInt8)) (p : List UInt8) : someL (L ++ [p]) = someL L ++ (if p.isEmpty then [] else [p]) := by
  unfold someL
  rw [List.filter_append]
  cases h : p.isEmpty <;> simp [h]
theorem someL_len (L : List (List UInt8)) : (someL L).length ≤ L.length := List.length_filter_le _ _
theorem split_count (s : List UInt8) (c : UInt8) : (Lib.split s [c]).length ≤ s.length + 1 := by
  obtain ⟨n, hn⟩ : ∃ n, s.length = n := ⟨_, rfl⟩
  induction n using Nat.strongRecOn generalizing s with
  | ind n ih =>
    rcases first_part s c with h | ⟨a, r, h1, h2⟩
    · rw [split_none _ _ h]; simp
    · subst h2
      simp only [List.length_append, List.length_cons] at hn
      rw [split_at _ _ _ h1]
      have := ih r.length (by omega) r rfl
      simp only [List.length_append, List.length_cons]
      omega

set_option maxHeartbeats 1600000 in
set_option maxRecDepth 100000 in
theorem pairsParts (fn : Nat) (lb : Array Value) (eg : ∀ args w, (callFunc fn args).run Tryd.prog w = .ok (.enter fn args) w) (s : List UInt8) (c : UInt8) (hs : s.length ≤ 1000000) (w : World) (hM : ∃ m, w.cell? ⟨0, 0, none⟩ = some (.int .i64 m)) (J : List (List UInt8) → World → Prop)
    (h0 : ∀ W, Below w.heap.size w W → w.heap.size < W.heap.size → J [] W)
    (hJ : ∀ pre p W, J pre W → p.isEmpty = false → p.length ≤ s.length → pre.length ≤ 1000001 → w.heap.size < W.heap.size → Calls Tryd.prog fn (#[.string (S p)] ++ lb) W fun e W' => (∃ r, e = .returned r) ∧ J (pre ++ [p]) W' ∧ W.heap.size ≤ W'.heap.size ∧ W'.heap[w.heap.size]? = W.heap[w.heap.size]?) :
    Calls Tryd.prog 25 #[.string (S s), .string (S [c]), .func (.func fn) #[] lb] w fun e w' => (∃ r, e = .returned r) ∧ J (someL (Lib.split s [c])) w' := by
  have SP := Lib.hid (split1_S s c hs w hM)
  have hlen := split_len s c
  have hcnt := split_count s c
  obtain ⟨ss, hss⟩ : ∃ x, Lib.split s [c] = x := ⟨_, rfl⟩
  rw [hss] at SP hlen hcnt ⊢
  have H0 := Lib.hid h0
  have HJ := Lib.hid hJ
  have HL := Lib.hid hlen
  have hss1 : (ss.length : Int) ≤ 1000001 := by omega
  clear hss hlen h0 hJ hM
  go_enter Tryd.func25, Tryd.ntmps25
  go_wp2_with (go_at_call 47; refine Calls.mono SP.out ?_; rintro e w1 ⟨rfl, hb1, hlt1, hcell⟩; have HC := Lib.hid hcell; have HB1 := Lib.hid hb1; clear hcell hb1)
  simp only [mk_S]
  go_loopw [12] (fun iv wr => ∃ k : Nat, iv = .int .i64 k ∧ k ≤ ss.length ∧ J (someL (ss.take k)) wr ∧ wr.heap[w.heap.size]? = w1.heap[w.heap.size]? ∧ w.heap.size < wr.heap.size) (fun iv _ => ss.length - (intOf iv).toNat)
  case atStart => exact ⟨0, rfl, Nat.zero_le _, H0.out _ HB1.out hlt1, rfl, hlt1⟩
  case round =>
    obtain ⟨k, rfl, hk, hj, hblk, hlt⟩ := hrel
    have HJJ := Lib.hid hj
    have HBK := Lib.hid hblk
    clear hj hblk
    by_cases hkl : k < ss.length
    · have e1 := (World.cell?_of_block (a := ⟨w.heap.size, k, none⟩) HBK.out).trans (HC.out k hkl)
      have hpl := HL.out _ (List.getElem_mem hkl)
      have htk : someL (ss.take (k + 1)) = someL (ss.take k) ++ (if ss[k].isEmpty then [] else [ss[k]]) := by
        rw [List.take_succ_eq_append_getElem hkl, someL_snoc]
      have hpre : (someL (ss.take k)).length ≤ 1000001 := by have := someL_len (ss.take k); rw [List.length_take] at this; omega
      obtain ⟨p, hp⟩ : ∃ p, ss[k] = p := ⟨_, rfl⟩
      rw [hp] at e1 hpl htk
      have HT := Lib.hid htk
      clear htk hp
      cases he : p.isEmpty with
      | true =>
        go_wp2
        go_roundw
        case rel => exact ⟨k + 1, by go_num, by omega, by rw [HT.out, he]; simpa using HJJ.out, HBK.out, hlt⟩
        case measure => simp [intOf]; omega
      | false =>
        have hcall := HJ.out _ p wr HJJ.out he hpl hpre hlt
        go_wp2_with (go_at_fn fn; refine hcall.mono ?_; rintro e w2 ⟨⟨r, rfl⟩, hj2, hz2, hk2⟩)
        go_roundw
        case rel => exact ⟨k + 1, by go_num, by omega, by rw [HT.out, he]; exact hj2, hk2.trans HBK.out, by omega⟩
        case measure => simp [intOf]; omega
    · obtain rfl : k = ss.length := by omega
      have hj := HJJ.out
      rw [List.take_length] at hj
      go_wp2
      go_end0
      exact ⟨⟨_, rfl⟩, hj⟩
end Go.Proofs.YtpapefegfghakaaDoor
