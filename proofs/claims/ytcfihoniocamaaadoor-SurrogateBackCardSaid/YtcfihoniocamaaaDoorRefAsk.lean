/- The document's has, Asks and Same: the walks. -/
import Derived.Test.YtcfihoniocamaaaDoorRefSur
import Derived.Test.YtcfihoniocamaaaDoorAskMath
namespace Go.Proofs.YtcfihoniocamaaaDoor
open Go.RowKit Go.Sort Go.Shelf
set_option linter.unusedVariables false
set_option linter.unusedSimpArgs false

set_option maxHeartbeats 1600000 in
set_option maxRecDepth 100000 in
theorem refHasW (s : List UInt8) (hs : s.length ≤ 1000000) (x : List UInt8) (w : World) : Calls Tryd.prog 41 #[.string (S s), .string (S x)] w fun e w' => e = .returned (.bool (decide (x ∈ Lib.split s [32]))) ∧ w' = w := by
  have hs1 : (s.length : Int) ≤ 1000000 := by omega
  obtain ⟨R, hR⟩ : ∃ R, decide (x ∈ Lib.split s [32]) = R := ⟨_, rfl⟩
  have HR := Lib.hid hR
  rw [hR]
  clear hR
  go_enter Tryd.func41, Tryd.ntmps41
  go_wp2
  simp only [mk_S]
  go_loop [5, 6] (fun nv iv => ∃ (k : Nat) (now : List UInt8), iv = .int .i64 k ∧ k ≤ s.length ∧ nv = .string (S now) ∧ (32 : UInt8) ∉ now ∧ now.length ≤ k ∧ decide (x ∈ Lib.split (now ++ s.drop k) [32]) = R) (fun _ iv => s.length - (intOf iv).toNat)
  case atStart => exact ⟨0, [], rfl, Nat.zero_le _, rfl, by simp, Nat.le_refl _, HR.out⟩
  case round =>
    obtain ⟨k, now, rfl, hk, rfl, hno, hnl, hin⟩ := hrel
    have HN := Lib.hid hno
    have HI := Lib.hid hin
    clear hno hin
    by_cases hlt : k < s.length
    · by_cases h32 : s[k] = 32
      · have hb : bAt s k = 32 := by rw [bAt_eq hlt, h32]; rfl
        have hsp : Lib.split (now ++ s.drop k) [32] = now :: Lib.split (s.drop (k + 1)) [32] := by
          rw [List.drop_eq_getElem_cons hlt, h32, split_at _ _ _ HN.out]
        have HI2 := Lib.hid (hsp ▸ HI.out)
        clear hsp h32
        by_cases hx : now = x
        · subst hx
          have hR2 : R = true := by rw [← HI2.out]; simp
          subst hR2
          go_wp2
          go_ret
          exact ⟨rfl, rfl⟩
        · have hxb : (now == x) = false := by simpa using hx
          have HF := Lib.hid (show decide (x ∈ Lib.split ([] ++ s.drop (k + 1)) [32]) = R by
            rw [← HI2.out, List.nil_append]
            congr 1
            rw [List.mem_cons]
            exact propext ⟨.inr, fun h => h.resolve_left (fun e => hx e.symm)⟩)
          clear hx
          go_wp2
          go_round
          case rel => exact ⟨k + 1, [], by go_num, by omega, rfl, by simp, by simp, HF.out⟩
          case measure => simp [intOf]; omega
      · have hb : (bAt s k == 32) = false := by
          rw [bAt_eq hlt]; simp only [beq_eq_false_iff_ne, ne_eq]; intro e; exact h32 (UInt8.toNat.inj (Int.ofNat.inj e))
        have hsl : (s.take (k + 1)).drop k = [s[k]] := by
          rw [List.take_succ_eq_append_getElem hlt, List.drop_append]
          simp [Nat.le_of_lt hlt]
        have HF := Lib.hid (show decide (x ∈ Lib.split ((now ++ [s[k]]) ++ s.drop (k + 1)) [32]) = R by
          rw [← HI.out, List.drop_eq_getElem_cons hlt]; simp)
        have HNO := Lib.hid (show (32 : UInt8) ∉ now ++ [s[k]] from fun hm => by
          rcases List.mem_append.1 hm with hm | hm
          · exact HN.out hm
          · exact h32 (List.mem_singleton.1 hm).symm)
        obtain ⟨c, hc⟩ : ∃ c, s[k] = c := ⟨_, rfl⟩
        rw [hc] at hsl HF HNO
        clear hc h32
        go_wp2
        go_round
        case rel => exact ⟨k + 1, now ++ [c], by go_num, by omega, by simp, HNO.out, by simp; omega, HF.out⟩
        case measure => simp [intOf]; omega
    · obtain rfl : k = s.length := by omega
      have hin := HI.out
      rw [List.drop_length, List.append_nil, split_none _ _ HN.out] at hin
      have hR2 : R = (now == x) := by
        rw [← hin, Bool.eq_iff_iff, decide_eq_true_eq, List.mem_singleton, beq_iff_eq]
        exact eq_comm
      subst hR2
      clear hin
      go_wp2
      go_ret
      exact ⟨by simp, rfl⟩

theorem parts_word (p : List UInt8) {x : Wrd} (h : wordW p = some x) : x.2.1.length ≤ p.length + 1000000 ∨ True := .inr trivial

set_option maxHeartbeats 3200000 in
set_option maxRecDepth 100000 in
theorem refAsks (s dev : List UInt8) (hs : s.length ≤ 100000) (hval : ∀ x ∈ readV s, x.2.1.length ≤ 1000000) (w : World) :
    Calls Tryd.prog 22 #[.string (S s), .string (S dev)] w fun e w' => e = .returned (.bool (asksL s dev)) ∧ Below w.heap.size w w' := by
  have RD := Lib.hid (fun W => refRead s hs W)
  unfold asksL
  unfold readE readV at RD
  have hlen : ∀ L, readL s = some L → L.length ≤ 100001 := fun L h => by
    unfold readL at h
    cases h44 : splitL 44 s with
    | none => rw [h44] at h; cases h
    | some ps =>
      rw [h44] at h
      have h1 := (split_bound h44).2.1
      have h2 := read_len ps L h
      omega
  unfold readV at hval
  cases hR : readL s with
  | none =>
    rw [hR] at RD
    clear hR hlen hval
    go_enter Tryd.func22, Tryd.ntmps22
    go_wp2_with (go_at_call 18; refine Calls.mono (RD.out _) ?_; rintro e w1 ⟨v1, rfl, ho1, hb1⟩; have HB1 := Lib.hid hb1; clear ho1 hb1; simp only [errW])
    go_ret
    exact ⟨rfl, HB1.out⟩
  | some L =>
    have hl := hlen L hR
    rw [hR] at RD hval
    have HV := Lib.hid (show ∀ x ∈ L, x.2.1.length ≤ 1000000 from hval)
    have hli : (L.length : Int) ≤ 100001 := by omega
    have HH := Lib.hid (fun t ht W => refHasW t ht esiL W)
    have HA := Lib.hid (fun (k : Nat) (h : k < L.length) => ask_snoc (L.take k) L[k] dev)
    have HT := Lib.hid (fun (k : Nat) (h : k < L.length) => List.take_succ_eq_append_getElem (l := L) h)
    clear hR hlen hval
    simp only
    have RD := Lib.hid (show ∀ W, Calls Tryd.prog 18 #[.string (S s)] W fun e w' => ∃ v, e = .returned (.tuple #[v, .int .i64 0]) ∧ OwnsW w' W.heap.size v L ∧ Below W.heap.size W w' from RD.out)
    go_enter Tryd.func22, Tryd.ntmps22
    go_wp2_with (go_at_call 18; refine Calls.mono (RD.out _) ?_; rintro e w1 ⟨v1, rfl, ho1, hb1⟩; have HB1 := Lib.hid hb1; obtain ⟨ao, cap, h1, hc1, hc2, _, hcell⟩ := ho1.reads; subst h1; have HC := Lib.hid hcell; have hz1 := hb1.size; clear ho1 hb1 hcell)
    have hmx : maxLen = 9223372036854775807 := rfl
    rw [hmx] at hc2
    go_loopw [7, 8, 20] (fun mv sv iv wr => ∃ k : Nat, iv = .int .i64 k ∧ k ≤ L.length ∧ mv = .bool (lastOf (L.take k) dev).isSome ∧ sv = .bool (asksW (L.take k) dev) ∧ Below w1.heap.size w1 wr) (fun _ _ iv _ => L.length - (intOf iv).toNat)
    case atStart => exact ⟨0, rfl, Nat.zero_le _, rfl, rfl, Below.refl _ _⟩
    case round =>
      obtain ⟨k, rfl, hk, rfl, rfl, hB⟩ := hrel
      have hz := hB.size
      by_cases hkl : k < L.length
      · obtain ⟨b, off, rfl, hb, hcl⟩ := HC.out (by omega)
        obtain ⟨e1, e2, e3⟩ := hcl k hkl
        rw [← hB.cell (p := ⟨b, off + k * 3, none⟩) hb] at e1
        rw [← hB.cell (p := ⟨b, off + k * 3 + 1, none⟩) hb] at e2
        rw [← hB.cell (p := ⟨b, off + k * 3 + 2, none⟩) hb] at e3
        have hv := HV.out _ (List.getElem_mem hkl)
        have ha := HA.out k hkl
        rw [← HT.out k hkl] at ha
        obtain ⟨⟨n, v, d⟩, hf⟩ : ∃ f, L[k] = f := ⟨_, rfl⟩
        rw [hf] at e1 e2 e3 hv ha
        simp only at e1 e2 e3 hv
        have C := Lib.hid (HH.out v hv)
        unfold askStep isFor at ha
        simp only at ha
        have hes : decide (esiL ∈ Lib.split v [32]) = hasEsi v := rfl
        rw [hes] at C
        unfold esiL at C
        obtain ⟨hv2, hhv⟩ : ∃ q, hasEsi v = q := ⟨_, rfl⟩
        rw [hhv] at C ha
        obtain ⟨M, hM⟩ : ∃ q, (lastOf (L.take k) dev).isSome = q := ⟨_, rfl⟩
        obtain ⟨A, hA⟩ : ∃ q, asksW (L.take k) dev = q := ⟨_, rfl⟩
        rw [hM, hA] at ha ⊢
        obtain ⟨c1, hc1'⟩ : ∃ q, (n == contentL) = q := ⟨_, rfl⟩
        obtain ⟨c2, hc2'⟩ : ∃ q, (d == dev) = q := ⟨_, rfl⟩
        obtain ⟨c3, hc3'⟩ : ∃ q, (d == []) = q := ⟨_, rfl⟩
        rw [hc1', hc2', hc3'] at ha
        unfold contentL at hc1'
        have hc3e : d.isEmpty = c3 := by rw [← hc3']; cases d <;> rfl
        have HAA := Lib.hid ha
        have hbz : b < wr.heap.size := by omega
        have hfb := far hbz
        clear hcl hf ha hhv hM hA hes
        have hcase : (c1 = true ∧ c2 = true) ∨ (c1 = false) ∨ (c1 = true ∧ c2 = false ∧ c3 = false) ∨ (c1 = true ∧ c2 = false ∧ c3 = true ∧ M = true) ∨ (c1 = true ∧ c2 = false ∧ c3 = true ∧ M = false) := by
          cases c1 <;> cases c2 <;> cases c3 <;> cases M <;> simp
        rcases hcase with ⟨rfl, rfl⟩ | rfl | ⟨rfl, rfl, rfl⟩ | ⟨rfl, rfl, rfl, rfl⟩ | ⟨rfl, rfl, rfl, rfl⟩
        all_goals
          (try cases c3)
          all_goals
            (try cases c2)
            all_goals
              (try cases M)
              all_goals
                have HX := Lib.hid HAA.out
                simp only [Bool.and_true, Bool.true_and, Bool.and_false, Bool.false_and, Bool.not_true, Bool.not_false, if_true, if_false, Bool.false_eq_true] at HX
                go_wp2_with (go_at_call 41; refine Calls.mono (C.out _) ?_; rintro e w' ⟨rfl, hw'⟩; obtain rfl := hw'.symm)
                have i1 := congrArg Prod.fst HX.out
                have i2 := congrArg Prod.snd HX.out
                simp at i1 i2
                have I1 := Lib.hid i1
                have I2 := Lib.hid i2
                go_roundw
                case rel => exact ⟨k + 1, by go_num, by omega, by simp [I1.out], by simp [I2.out], by (repeat (first | (with_reducible exact Below.refl _ _) | (with_reducible assumption) | (with_reducible refine Below.drew ?_) | (focus ((with_reducible refine Below.setCell ?_ ?_ _); rotate_left; (first | omega | (simp <;> omega)))) | (focus ((with_reducible refine Below.alloc ?_ ?_ _); rotate_left; (first | omega | (simp <;> omega)))) | exact Below.refl _ _ | assumption | refine Below.drew ?_ | refine Below.alloc ?_ (by first | omega | (simp <;> omega)) _ | refine Below.setCell ?_ (by first | omega | (simp <;> omega)) _))⟩
                case measure => simp [intOf]; omega
      · obtain rfl : k = L.length := by omega
        rw [List.take_length]
        go_wp2
        go_ret
        exact ⟨rfl, HB1.out.trans (hB.mono hz1)⟩
end Go.Proofs.YtcfihoniocamaaaDoor
