/- What is for the next one alone: the walks of hop.words, hop.gone, hop.Strip, hop.Keeps. Append of a row of texts to a row of texts that the call has built. -/
import Derived.Test.YtcfihoniocamaaaGreatDoorPk16
import Derived.Test.YtcfihoniocamaaaGreatDoorPk17
import Derived.Test.YtcfihoniocamaaaGreatDoorPk10
import Derived.Test.YtcfihoniocamaaaGreatDoorPk5
import Derived.Test.YtcfihoniocamaaaGreatDoorPk4
import Derived.Test.YtcfihoniocamaaaGreatDoorPk7
namespace Go.Proofs.YtcfihoniocamaaaGreatDoor
open Go.RowKit Go.Sort Go.Shelf
set_option linter.unusedVariables false

/-- A row as the laws cut it. -/
structure HopRow (L : List Fld) : Prop where
  len : L.length ≤ 50
  each : ∀ f ∈ L, f.1.length ≤ 1000 ∧ f.2.length ≤ 1010
theorem HopRow.small {L : List Fld} (h : HopRow L) : ∀ f ∈ L, Small f := fun f hf => by
  obtain ⟨h1, h2⟩ := h.each f hf
  exact ⟨by omega, by omega⟩
theorem HopRow.joined {L : List Fld} (h : HopRow L) (m : List UInt8) : (joinedL L m).length ≤ 60000 := by
  have hn : ((namedL L m).map (·.2)).length ≤ 50 := by rw [List.length_map]; exact Nat.le_trans (List.length_filter_le _ _) h.len
  have hv : ∀ x ∈ (namedL L m).map (·.2), x.length ≤ 1010 := fun x hx => by
    obtain ⟨f, hf, rfl⟩ := List.mem_map.1 hx
    exact (h.each f (List.mem_filter.1 hf).1).2
  have := join_le _ hv
  unfold joinedL
  omega
theorem split_count' (s : List UInt8) (c : UInt8) : (Lib.split s [c]).length ≤ s.length + 1 := by
  obtain ⟨n, hn⟩ : ∃ n, s.length = n := ⟨_, rfl⟩
  induction n using Nat.strongRecOn generalizing s with
  | ind n ih =>
    rcases first_part s c with h | ⟨a, r, h1, h2⟩
    · rw [split_none _ _ h]; simp
    · subst h2
      simp only [List.length_append, List.length_cons] at hn
      rw [split_at _ _ _ h1]
      have := ih r.length (by omega) r rfl
      simp only [List.length_append, List.length_cons]
      omega
theorem words_len (s : List UInt8) : (wordsOf s).length ≤ s.length + 1 := by
  unfold wordsOf
  rw [List.length_map]
  exact split_count' _ _
theorem trim_le (l : List UInt8) : (trim l).length ≤ l.length := by
  unfold trim trimL trimR
  refine Nat.le_trans (List.dropWhile_sublist _).length_le ?_
  rw [List.length_reverse]
  refine Nat.le_trans (List.dropWhile_sublist _).length_le ?_
  rw [List.length_reverse]
  exact Nat.le_refl _
theorem words_each (s : List UInt8) : ∀ x ∈ wordsOf s, x.length ≤ s.length := fun x hx => by
  obtain ⟨p, hp, rfl⟩ := List.mem_map.1 hx
  have h1 := split_len s 44 p hp
  have h2 := trim_le p
  rw [lower_len]; omega

set_option maxHeartbeats 1600000 in
set_option maxRecDepth 100000 in
theorem hopWords_c (v : Value) (L : List Fld) (w : World) (hr : ReadsF w v L) (hL : HopRow L) (hM : ∃ m, w.cell? ⟨0, 0, none⟩ = some (.int .i64 m)) :
    Calls Tryz.prog 36 #[v] w fun e w' => ∃ v', e = .returned v' ∧ Owns w' w.heap.size v' (hopWords L) ∧ Below w.heap.size w w' := by
  have J := Lib.hid (tableJoined v L [67, 111, 110, 110, 101, 99, 116, 105, 111, 110] (by decide) w hr hL.small (fun f hf => by have := (hL.each f hf).2; omega) (by have := hL.len; omega))
  rw [joined_named (show sameN [67, 111, 110, 110, 101, 99, 116, 105, 111, 110] connL = true by decide)] at J
  have hjl := hL.joined connL
  unfold hopWords wordsOf
  obtain ⟨s, hs⟩ : ∃ s, joinedL L connL = s := ⟨_, rfl⟩
  rw [hs] at J hjl ⊢
  have hM2 := Lib.hid (fun W (hb : Below w.heap.size w W) => (show ∃ m, W.cell? ⟨0, 0, none⟩ = some (.int .i64 m) from by
    obtain ⟨m, hm⟩ := hM
    exact ⟨m, (hb.cell (p := ⟨0, 0, none⟩) (block_lt_of_cell hm)).trans hm⟩))
  have SP := Lib.hid (fun W h => split1_S s 44 (by omega) W h)
  have hlen := split_len s 44
  have hcnt := split_count' s 44
  obtain ⟨ss, hss⟩ : ∃ x, Lib.split s [44] = x := ⟨_, rfl⟩
  rw [hss] at SP hlen hcnt ⊢
  have HL := Lib.hid hlen
  have hss1 : (ss.length : Int) ≤ 1000001 := by omega
  have TT := Lib.hid (fun l hl W => textTrim l hl W)
  have TL := Lib.hid (fun l hl W => textLower l hl W)
  clear hr hM hs hss hlen hL
  go_enter Tryz.func36, Tryz.ntmps36
  go_wp2_with (first
    | (go_at_call 29; refine Calls.mono J.out ?_; rintro e w1 ⟨rfl, hb1⟩; have HB1 := Lib.hid hb1; have hz1 := hb1.size; clear hb1)
    | (go_at_call 52; refine Calls.mono (SP.out _ (hM2.out _ HB1.out)) ?_; rintro e w2 ⟨rfl, hb2, hlt2, hcell⟩; have HC := Lib.hid hcell; have HB2 := Lib.hid hb2; clear hcell hb2)
    | fail)
  have HB12 := Lib.hid (HB1.out.trans (HB2.out.mono hz1))
  go_loopw [5, 16] (fun ov iv wr => ∃ k : Nat, iv = .int .i64 k ∧ k ≤ ss.length ∧ Owns wr w.heap.size ov ((ss.take k).map fun p => lower (trim p)) ∧ ov.ownBlock ≠ some w1.heap.size ∧ wr.heap[w1.heap.size]? = w2.heap[w1.heap.size]? ∧ w1.heap.size < wr.heap.size ∧ Below w.heap.size w wr) (fun _ iv _ => ss.length - (intOf iv).toNat)
  case atStart => exact ⟨0, rfl, Nat.zero_le _, Owns.nil _ _, by simp [Value.ownBlock], rfl, hlt2, HB12.out⟩
  case round =>
    obtain ⟨k, rfl, hk, hown, hne, hblk, hlt, hB⟩ := hrel
    have HO := Lib.hid hown
    have HNE := Lib.hid hne
    have HBK := Lib.hid hblk
    have HB := Lib.hid hB
    have hz := hB.size
    clear hown hne hblk hB
    by_cases hkl : k < ss.length
    · have e1 := (World.cell?_of_block (a := ⟨w1.heap.size, k, none⟩) HBK.out).trans (HC.out k hkl)
      have hpl := HL.out _ (List.getElem_mem hkl)
      have htk : (ss.take (k + 1)).map (fun p => lower (trim p)) = (ss.take k).map (fun p => lower (trim p)) ++ [lower (trim ss[k])] := by
        rw [List.take_succ_eq_append_getElem hkl, List.map_append]; rfl
      have hpre : ((ss.take k).map fun p => lower (trim p)).length ≤ 1000001 := by rw [List.length_map, List.length_take]; omega
      obtain ⟨out, hout⟩ : ∃ x, (ss.take k).map (fun p => lower (trim p)) = x := ⟨_, rfl⟩
      rw [hout] at HO htk hpre
      obtain ⟨p, hp⟩ : ∃ p, ss[k] = p := ⟨_, rfl⟩
      rw [hp] at e1 hpl htk
      have T := TT.out p (by omega)
      have hlt2 := trim_le p
      obtain ⟨tp, htp⟩ : ∃ x, trim p = x := ⟨_, rfl⟩
      rw [htp] at T htk hlt2
      have T2 := TL.out tp (by omega)
      obtain ⟨lp, hlp⟩ : ∃ x, lower tp = x := ⟨_, rfl⟩
      rw [hlp] at T2 htk
      have T := Lib.hid T
      have T2 := Lib.hid T2
      have HT := Lib.hid htk
      clear htk hp hout htp hlp
      go_wp2_with (first
        | (go_at_call 44; refine Calls.mono (T.out _) ?_; rintro e w3 ⟨rfl, hb3⟩; have hz3 := hb3.size)
        | (go_at_call 34; refine Calls.mono (T2.out _) ?_; rintro e w4 ⟨rfl, hb4⟩; have hbw4 := hb3.trans (hb4.mono hz3); have hz4 := hbw4.size)
        | (at_builtin; refine wp_append_text_at rfl _ _ rfl _ w.heap.size _ out lp (HO.out.below hbw4) rfl _ rfl rfl (by omega) (by omega) ?_; intro v6 w6 hown6 hb6 hk6; have HO6 := Lib.hid hown6; have HB6 := Lib.hid hb6; obtain ⟨hk61, hk62⟩ := hk6 w1.heap.size (by omega) HNE.out; have HK61 := Lib.hid hk61; have HK62 := Lib.hid hk62; clear hown6 hb6 hk6 hk61 hk62)
        | fail)
      have hz6 := HB6.out.size
      have hbg : w4.heap[w1.heap.size]? = wr.heap[w1.heap.size]? := hbw4.block _ hlt
      have hg6 : w1.heap.size < w6.heap.size := by
        have h1 := HK61.out
        rcases Nat.lt_or_ge w1.heap.size w6.heap.size with h | h
        · exact h
        · rw [Array.getElem?_eq_none h, Array.getElem?_eq_getElem (show w1.heap.size < w4.heap.size by omega)] at h1; cases h1
      go_roundw
      case rel => exact ⟨k + 1, by go_num, by omega, by rw [HT.out]; exact HO6.out, HK62.out, HK61.out.trans (hbg.trans HBK.out), hg6, HB.out.trans ((hbw4.mono hz).trans HB6.out)⟩
      case measure => simp [intOf]; omega
    · obtain rfl : k = ss.length := by omega
      have hf := HO.out
      rw [List.take_length] at hf
      have HF := Lib.hid hf
      obtain ⟨ao, cap', h1, _⟩ := hf.shape
      subst h1
      go_wp2
      go_ret
      exact ⟨_, rfl, HF.out, HB.out⟩
end Go.Proofs.YtcfihoniocamaaaGreatDoor
namespace Go.Proofs.YtcfihoniocamaaaGreatDoor
open Go.RowKit
set_option linter.unusedVariables false

/-- 'out = append(out, l...)', l texts in a block. -/
theorem wp_append_texts {ops : Array Oper} {rest : List Oper} {o : Oper} {a : Act} {Q : Exit → Act → World → Prop} (hgd : o.guard = none) (s x : Operand)
    (ho : o.op = .call { callee := .builtin .append, args := #[s, x], argTypes := #[28, 28] })
    (W : World) (B : Nat) (v : Value) (L : List (List UInt8)) (M : List (List UInt8)) (hown : Owns W B v L) (hs : a.eval s = v) (g cap : Nat) (hx : a.eval x = .slice (some ⟨g, 0, none⟩) M.length cap)
    (hc : ∀ j (h : j < M.length), W.cell? ⟨g, j, none⟩ = some (.string (S M[j])))
    (hn : L.length + M.length ≤ 1099511627776) (hB : B ≤ W.heap.size)
    (h : ∀ v' w', Owns w' B v' (L ++ M) → Below B W w' → W.grownBy w' v.ownBlock → wpList Tryz.prog ops Q rest (a.put o.dst v') w') : wpList Tryz.prog ops Q (o :: rest) a W := by
  obtain ⟨i0, hi, hz0, hz1, hz2⟩ := info_parts infoStr
  have hown' : W.ownsRow B 9 1 v L.length (L.map fun x => .string (S x)) := hown
  refine wpList_append_own _ hgd s x 28 ho B 9 i0 (.string ⟨#[]⟩) 1 16 Tryz.underlying28 hi hz0 hz1 hz2 rfl (by decide) v L.length _ hs hown' ⟨g, 0, none⟩ M.length cap (M.map fun x => .string (S x)) hx (by simp) ?_ ?_ ?_ ?_ ?_ ?_
  · intro j u hj
    have hjl : j < M.length := by
      rcases Nat.lt_or_ge j M.length with h' | h'
      · exact h'
      · rw [List.getElem?_eq_none (by rw [List.length_map]; exact h')] at hj; cases hj
    rw [List.getElem?_map, List.getElem?_eq_getElem hjl] at hj
    simp only [Option.map_some, Option.some.injEq] at hj
    subst hj
    have hadd : ((⟨g, 0, none⟩ : Addr).add j) = ⟨g, j, none⟩ := by
      unfold Addr.add; split
      · rename_i e; subst e; rfl
      · simp
    rw [hadd]
    exact hc j hjl
  · intro u hu
    obtain ⟨x, _, rfl⟩ := List.mem_map.1 hu
    rfl
  · unfold maxLen; omega
  · omega
  · exact hB
  · intro v' w' h1 h2 h3
    exact h v' w' (by unfold Owns; simpa using h1) (Below.grown (Below.refl _ _) h2 hB (fun k hk => (World.ownsRow.lt hown' k hk).1)) h2
end Go.Proofs.YtcfihoniocamaaaGreatDoor
