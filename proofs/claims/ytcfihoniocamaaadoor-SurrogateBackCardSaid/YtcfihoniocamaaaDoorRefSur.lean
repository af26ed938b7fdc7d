/- The document's part and Read: the walks. -/
import Derived.Test.YtcfihoniocamaaaDoorRefPart3
import Derived.Test.YtcfihoniocamaaaDoorWordRow
namespace Go.Proofs.YtcfihoniocamaaaDoor
open Go.RowKit Go.Sort Go.Shelf
set_option linter.unusedVariables false

theorem parts_bound {b : UInt8} (s : List UInt8) : ∀ (n : Nat) (q : Bool) (part : List UInt8) (xs : List (List UInt8)), s.length = n → parts b q part s = some xs → (∀ x ∈ xs, x.length ≤ part.length + s.length) ∧ xs.length ≤ s.length + 1 := by
  intro n
  induction n using Nat.strongRecOn generalizing s with
  | ind n ih =>
    intro q part xs hn h
    match q, s with
    | false, [] =>
      simp only [parts, Option.some.injEq] at h
      subst h
      simp
    | true, [] => simp [parts] at h
    | false, c :: s =>
      simp only [List.length_cons] at hn
      rw [parts_f] at h
      split at h
      · obtain ⟨h1, h2⟩ := ih s.length (by omega) s _ _ _ rfl h
        refine ⟨fun x hx => ?_, by simp only [List.length_cons]; omega⟩
        have := h1 x hx
        simp only [List.length_append, List.length_cons, List.length_nil] at this ⊢; omega
      · split at h
        · obtain ⟨ys, hy, rfl⟩ := Option.map_eq_some_iff.1 h
          obtain ⟨h1, h2⟩ := ih s.length (by omega) s _ _ _ rfl hy
          refine ⟨fun x hx => ?_, by simp only [List.length_cons]; omega⟩
          rcases List.mem_cons.1 hx with rfl | hx
          · simp only [List.length_cons]; omega
          · have := h1 x hx
            simp only [List.length_cons, List.length_nil] at this ⊢; omega
        · obtain ⟨h1, h2⟩ := ih s.length (by omega) s _ _ _ rfl h
          refine ⟨fun x hx => ?_, by simp only [List.length_cons]; omega⟩
          have := h1 x hx
          simp only [List.length_append, List.length_cons, List.length_nil] at this ⊢; omega
    | true, [c] =>
      simp only [parts] at h
      split at h
      · injection h with h; subst h; simp
      · cases h
    | true, c :: d :: s =>
      simp only [List.length_cons] at hn
      rw [parts_t2] at h
      split at h
      · obtain ⟨h1, h2⟩ := ih (d :: s).length (by simp; omega) (d :: s) _ _ _ rfl h
        refine ⟨fun x hx => ?_, by simp only [List.length_cons] at h2 ⊢; omega⟩
        have := h1 x hx
        simp only [List.length_append, List.length_cons, List.length_nil] at this ⊢; omega
      · split at h
        · obtain ⟨h1, h2⟩ := ih s.length (by omega) s _ _ _ rfl h
          refine ⟨fun x hx => ?_, by simp only [List.length_cons]; omega⟩
          have := h1 x hx
          simp only [List.length_append, List.length_cons, List.length_nil] at this ⊢; omega
        · obtain ⟨h1, h2⟩ := ih (d :: s).length (by simp; omega) (d :: s) _ _ _ rfl h
          refine ⟨fun x hx => ?_, by simp only [List.length_cons] at h2 ⊢; omega⟩
          have := h1 x hx
          simp only [List.length_append, List.length_cons, List.length_nil] at this ⊢; omega
theorem trim_short (l : List UInt8) : (trim l).length ≤ l.length := by
  unfold trim trimL trimR
  refine Nat.le_trans (List.dropWhile_sublist _).length_le ?_
  rw [List.length_reverse]
  refine Nat.le_trans (List.dropWhile_sublist _).length_le ?_
  rw [List.length_reverse]
  exact Nat.le_refl _
theorem split_bound {b : UInt8} {s : List UInt8} {L : List (List UInt8)} (h : splitL b s = some L) : (∀ x ∈ L, x.length ≤ s.length) ∧ L.length ≤ s.length + 1 ∧ L ≠ [] := by
  unfold splitL at h
  split at h
  · cases h
  · obtain ⟨ps, hp, rfl⟩ := Option.map_eq_some_iff.1 h
    obtain ⟨h1, h2⟩ := parts_bound s _ false [] ps rfl hp
    refine ⟨fun x hx => ?_, by simpa using h2, by simpa using parts_ne s _ false [] ps rfl hp⟩
    obtain ⟨y, hy, rfl⟩ := List.mem_map.1 hx
    have := h1 y hy
    have := trim_short y
    simp only [List.length_nil] at *
    omega

theorem refPart_any (p : List UInt8) (hp : p.length ≤ 100000) (w : World) : Calls Tryd.prog 37 #[.string (S p)] w fun e w' => PartTo w p e w' := by
  cases h59 : splitL 59 p with
  | none => exact refPart_none p (by omega) h59 w
  | some L =>
    obtain ⟨b1, b2, b3⟩ := split_bound h59
    match L, b1, b2, b3, h59 with
    | [], _, _, b3, _ => exact absurd rfl b3
    | a :: b :: c :: r, b1, b2, _, h59 => exact refPart_many p (by omega) _ h59 (by simp) (by omega) w
    | [x], b1, _, _, h59 =>
      have hx := b1 x (by simp)
      cases h61 : splitL 61 x with
      | none => exact refPart_one_none p (by omega) x h59 (by omega) h61 w
      | some m =>
        obtain ⟨c1, c2, c3⟩ := split_bound h61
        match m, c1, c2, c3, h61 with
        | [], _, _, c3, _ => exact absurd rfl c3
        | a :: b :: c :: r, c1, c2, _, h61 => exact refPart_one_many p (by omega) x h59 (by omega) _ h61 (by simp) (by omega) w
        | [n], c1, _, _, h61 =>
          have hn := c1 n (by simp)
          cases htn : tokenL n with
          | true => exact refPart_one_name p (by omega) x h59 (by omega) n h61 (by omega) htn w
          | false => exact refPart_one_bad1 p (by omega) x h59 (by omega) n h61 (by omega) htn w
        | [n, v], c1, _, _, h61 =>
          have hn := c1 n (by simp)
          have hv := c1 v (by simp)
          cases htn : tokenL n with
          | true =>
            rcases unqE_two v with hu | hu
            · exact refPart_one_unq p (by omega) x h59 (by omega) n v h61 (by omega) htn (by omega) hu w
            · cases htv : tokenL v with
              | true => exact refPart_one_tok p (by omega) x h59 (by omega) n v h61 (by omega) htn (by omega) hu htv w
              | false => exact refPart_one_bad3 p (by omega) x h59 (by omega) n v h61 (by omega) htn (by omega) hu htv w
          | false => exact refPart_one_bad2 p (by omega) x h59 (by omega) n v h61 (by omega) htn w
    | [x, d], b1, _, _, h59 =>
      have hx := b1 x (by simp)
      have hd := b1 d (by simp)
      cases htd : tokenL d with
      | false => exact refPart_dev p (by omega) x d h59 (by omega) htd w
      | true =>
        cases h61 : splitL 61 x with
        | none => exact refPart_two_none p (by omega) x d h59 (by omega) (by omega) htd h61 w
        | some m =>
          obtain ⟨c1, c2, c3⟩ := split_bound h61
          match m, c1, c2, c3, h61 with
          | [], _, _, c3, _ => exact absurd rfl c3
          | a :: b :: c :: r, c1, c2, _, h61 => exact refPart_two_many p (by omega) x d h59 (by omega) (by omega) htd _ h61 (by simp) (by omega) w
          | [n], c1, _, _, h61 =>
            have hn := c1 n (by simp)
            cases htn : tokenL n with
            | true => exact refPart_two_name p (by omega) x d h59 (by omega) (by omega) htd n h61 (by omega) htn w
            | false => exact refPart_two_bad1 p (by omega) x d h59 (by omega) (by omega) htd n h61 (by omega) htn w
          | [n, v], c1, _, _, h61 =>
            have hn := c1 n (by simp)
            have hv := c1 v (by simp)
            cases htn : tokenL n with
            | true =>
              rcases unqE_two v with hu | hu
              · exact refPart_two_unq p (by omega) x d h59 (by omega) (by omega) htd n v h61 (by omega) htn (by omega) hu w
              · cases htv : tokenL v with
                | true => exact refPart_two_tok p (by omega) x d h59 (by omega) (by omega) htd n v h61 (by omega) htn (by omega) hu htv w
                | false => exact refPart_two_bad3 p (by omega) x d h59 (by omega) (by omega) htd n v h61 (by omega) htn (by omega) hu htv w
            | false => exact refPart_two_bad2 p (by omega) x d h59 (by omega) (by omega) htd n v h61 (by omega) htn w

theorem read_snoc (L : List (List UInt8)) (p : List UInt8) {out : List Wrd} (h : readParts L = some out) : readParts (L ++ [p]) = if p.isEmpty = true then some out else match wordW p with
    | none => none
    | some w => some (out ++ [w]) := by
  rw [readParts_append, h]
  simp only
  rw [readParts_cons]
  cases p.isEmpty with
  | true => simp [readParts]
  | false => cases wordW p <;> simp [readParts]
theorem read_stop (L M : List (List UInt8)) (h : readParts L = none) : readParts (L ++ M) = none := by
  rw [readParts_append, h]
theorem read_len (L : List (List UInt8)) : ∀ out, readParts L = some out → out.length ≤ L.length := by
  induction L with
  | nil => intro out h; simp [readParts] at h; subst h; simp
  | cons p r ih =>
    intro out h
    rw [readParts_cons] at h
    split at h
    · have := ih out h; simp only [List.length_cons]; omega
    · split at h
      · cases h
      · obtain ⟨o, ho, rfl⟩ := Option.map_eq_some_iff.1 h
        have := ih o ho
        simp only [List.length_cons]; omega
def errW : Option (List Wrd) → Int
  | none => 11
  | some _ => 0
def readE (s : List UInt8) : Int := errW (readL s)
def readV (s : List UInt8) : List Wrd := (readL s).getD []

set_option maxHeartbeats 3200000 in
set_option maxRecDepth 100000 in
theorem refRead (s : List UInt8) (hs : s.length ≤ 100000) (w : World) :
    Calls Tryd.prog 18 #[.string (S s)] w fun e w' => ∃ v, e = .returned (.tuple #[v, .int .i64 (readE s)]) ∧ OwnsW w' w.heap.size v (readV s) ∧ Below w.heap.size w w' := by
  unfold readE readV
  cases h44 : splitL 44 s with
  | none =>
    have hR : readL s = none := by unfold readL; rw [h44]
    rw [hR]
    have SP := Lib.hid (fun W => refSplit_none (by omega) h44 W)
    clear h44 hR
    go_enter Tryd.func18, Tryd.ntmps18
    go_wp2_with (go_at_call 36; refine Calls.mono (SP.out _) ?_; rintro e w1 ⟨v1, rfl, ho1, hb1⟩; have HB1 := Lib.hid hb1; clear ho1 hb1)
    go_ret2
    exact ⟨_, rfl, OwnsW.nil _ _, HB1.out⟩
  | some ps =>
    obtain ⟨b1, b2, b3⟩ := split_bound h44
    have hR : readL s = readParts ps := by unfold readL; rw [h44]
    rw [hR]
    have SP := Lib.hid (fun W => refSplit_some (by omega) h44 W)
    have HB1' := Lib.hid b1
    have hps : (ps.length : Int) ≤ 100001 := by omega
    have hpos : 0 < ps.length := List.length_pos_iff.2 b3
    have PA := Lib.hid (fun p hp W => refPart_any p hp W)
    obtain ⟨R, hRR⟩ : ∃ R, readParts ps = R := ⟨_, rfl⟩
    have HR := Lib.hid hRR
    have hEV : (∀ o, R = some o → errW R = 0 ∧ R.getD [] = o) ∧ (R = none → errW R = 11 ∧ R.getD [] = []) := by
      refine ⟨fun o h => ?_, fun h => ?_⟩
      · subst h; exact ⟨rfl, rfl⟩
      · subst h; exact ⟨rfl, rfl⟩
    rw [hRR]
    obtain ⟨E, hE⟩ : ∃ E, errW R = E := ⟨_, rfl⟩
    obtain ⟨V, hV⟩ : ∃ V : List Wrd, R.getD [] = V := ⟨_, rfl⟩
    rw [hE, hV] at hEV ⊢
    have HEV := Lib.hid hEV
    clear h44 hR b1 b3 hRR hE hV hEV
    have h0 : OwnsW (w.alloc (.cells #[] 46)) w.heap.size (.slice (some ⟨w.heap.size, 0, none⟩) 0 0) [] := OwnsW.made w _ (Nat.le_refl _)
    go_enter Tryd.func18, Tryd.ntmps18
    go_wp2_with (go_at_call 36; refine Calls.mono (SP.out _) ?_; rintro e w1 ⟨v1, rfl, ho1, hb1⟩; obtain ⟨g, cap, h1, hc1, hc2, hg, hcells⟩ := ho1.at 0 hpos; subst h1; have HC := Lib.hid hcells; have HB1 := Lib.hid hb1; have hz1 := hb1.size; clear ho1 hb1 hcells)
    have hmx : maxLen = 9223372036854775807 := rfl
    rw [hmx] at hc2
    go_loopw [6, 22] (fun ov iv wr => ∃ (k : Nat) (out : List Wrd), iv = .int .i64 k ∧ k ≤ ps.length ∧ readParts (ps.take k) = some out ∧ OwnsW wr w.heap.size ov out ∧ ov.ownBlock ≠ some g ∧ wr.heap[g]? = w1.heap[g]? ∧ g < wr.heap.size ∧ Below w.heap.size w wr) (fun _ iv _ => ps.length - (intOf iv).toNat)
    case atStart => exact ⟨0, [], rfl, Nat.zero_le _, rfl, OwnsW.made w1 w.heap.size hz1, by simp [Value.ownBlock]; omega, by show (w1.heap.push _)[g]? = _; rw [Array.getElem?_push_lt hg, Array.getElem?_eq_getElem hg], by simp; omega, by have := HB1.out; (repeat (first | (with_reducible exact Below.refl _ _) | (with_reducible assumption) | (with_reducible refine Below.drew ?_) | (focus ((with_reducible refine Below.setCell ?_ ?_ _); rotate_left; (first | omega | (simp <;> omega)))) | (focus ((with_reducible refine Below.alloc ?_ ?_ _); rotate_left; (first | omega | (simp <;> omega)))) | exact Below.refl _ _ | assumption | refine Below.drew ?_ | refine Below.alloc ?_ (by first | omega | (simp <;> omega)) _ | refine Below.setCell ?_ (by first | omega | (simp <;> omega)) _))⟩
    case round =>
      obtain ⟨k, out, rfl, hk, hread, hown, hne, hblk, hlt, hB⟩ := hrel
      have HO := Lib.hid hown
      have HNE := Lib.hid hne
      have HBK := Lib.hid hblk
      have HB := Lib.hid hB
      have HRD := Lib.hid hread
      have hz := hB.size
      have hol := read_len _ _ hread
      rw [List.length_take] at hol
      clear hown hne hblk hB hread
      by_cases hkl : k < ps.length
      · have e1 := (World.cell?_of_block (a := ⟨g, k, none⟩) HBK.out).trans (HC.out k hkl)
        have hpl := HB1'.out _ (List.getElem_mem hkl)
        have htk : ps.take (k + 1) = ps.take k ++ [ps[k]] := List.take_succ_eq_append_getElem hkl
        have hwhole : ps = (ps.take k ++ [ps[k]]) ++ ps.drop (k + 1) := by rw [← htk, List.take_append_drop]
        have hsn := read_snoc (ps.take k) ps[k] HRD.out
        obtain ⟨p, hp⟩ : ∃ p, ps[k] = p := ⟨_, rfl⟩
        rw [hp] at e1 hpl htk hsn hwhole
        have C := Lib.hid (PA.out p (by omega))
        have HT := Lib.hid (htk ▸ hsn)
        have HW := Lib.hid (fun (h : readParts (ps.take k ++ [p]) = none) => (show R = none from (HR.out.symm.trans (congrArg readParts hwhole)).trans (read_stop _ _ h)))
        have HSN := Lib.hid hsn
        unfold PartTo at C
        obtain ⟨X, hX⟩ : ∃ X, wordW p = X := ⟨_, rfl⟩
        rw [hX] at C HT HSN
        clear hp htk hsn hwhole hX
        cases he : p.isEmpty with
        | true =>
          rw [he, if_pos rfl] at HT
          obtain ⟨I, hI⟩ : ∃ I, X.isSome = I := ⟨_, rfl⟩
          rw [hI] at C
          clear hI
          go_wp2_with (go_at_call 37; refine Calls.mono (C.out _) ?_; rintro e w2 ⟨a, b, c, rfl, hx, hb2⟩; have hz2 := hb2.size; have HB2 := Lib.hid hb2; clear hx hb2)
          have hb3 : Below wr.heap.size wr _ := Below.alloc HB2.out hz2 (.cells #[.string (S a), .string (S b), .string (S c)] 46)
          go_roundw
          case rel => exact ⟨k + 1, out, by go_num, by omega, HT.out, HO.out.below hb3, HNE.out, (hb3.block g hlt).trans HBK.out, by simp; omega, HB.out.trans (hb3.mono hz)⟩
          case measure => simp [intOf]; omega
        | false =>
          rw [he, if_neg (by simp)] at HT HSN
          cases X with
          | none =>
            have hr := HW.out HSN.out
            obtain ⟨hE, hV⟩ := HEV.out.2 hr
            subst hE hV
            have C := Lib.hid (show ∀ W, Calls Tryd.prog 37 #[.string (S p)] W fun e w' => ∃ a b c : List UInt8, e = .returned (.tuple #[.agg #[.string (S a), .string (S b), .string (S c)], .bool false]) ∧ Below W.heap.size W w' from fun W => (C.out W).mono (by rintro e w' ⟨a, b, c, h1, _, h2⟩; exact ⟨a, b, c, h1, h2⟩))
            clear hr
            go_wp2_with (go_at_call 37; refine Calls.mono (C.out _) ?_; rintro e w2 ⟨a, b, c, rfl, hb2⟩; have hz2 := hb2.size; have HB2 := Lib.hid (HB.out.trans (hb2.mono hz)); clear hb2)
            go_ret2
            exact ⟨_, rfl, OwnsW.nil _ _, by have := HB2.out; (repeat (first | (with_reducible exact Below.refl _ _) | (with_reducible assumption) | (with_reducible refine Below.drew ?_) | (focus ((with_reducible refine Below.setCell ?_ ?_ _); rotate_left; (first | omega | (simp <;> omega)))) | (focus ((with_reducible refine Below.alloc ?_ ?_ _); rotate_left; (first | omega | (simp <;> omega)))) | exact Below.refl _ _ | assumption | refine Below.drew ?_ | refine Below.alloc ?_ (by first | omega | (simp <;> omega)) _ | refine Below.setCell ?_ (by first | omega | (simp <;> omega)) _))⟩
          | some y =>
            obtain ⟨ya, yb, yc⟩ := y
            have C := Lib.hid (show ∀ W, Calls Tryd.prog 37 #[.string (S p)] W fun e w' => e = .returned (.tuple #[.agg #[.string (S ya), .string (S yb), .string (S yc)], .bool true]) ∧ Below W.heap.size W w' from fun W => (C.out W).mono (by
              rintro e w' ⟨a, b, c, h1, h3, h2⟩
              have := h3 _ rfl
              injection this with i1 i2
              injection i2 with i2 i3
              subst i1 i2 i3
              exact ⟨h1, h2⟩))
            go_wp2_with (first
              | (go_at_call 37; refine Calls.mono (C.out _) ?_; rintro e w2 ⟨rfl, hb2⟩; have hz2 := hb2.size; have HB2 := Lib.hid hb2; have hbw := Below.alloc hb2 hz2 (.cells #[.string (S ya), .string (S yb), .string (S yc)] 46); clear hb2)
              | (at_builtin; refine wp_append_wrd rfl _ _ rfl _ w.heap.size _ out (ya, yb, yc) (HO.out.below hbw) rfl _ rfl (by simp) (by omega) (by (first | omega | (simp <;> omega))) ?_; intro v6 w6 hown6 hb6 hk6; have HO6 := Lib.hid hown6; have HB6 := Lib.hid hb6; obtain ⟨hk61, hk62⟩ := hk6 g (by (first | omega | (simp <;> omega))) HNE.out; have HK61 := Lib.hid hk61; have HK62 := Lib.hid hk62; clear hown6 hb6 hk6 hk61 hk62)
              | fail)
            have hz6 := HB6.out.size
            have hbg := hbw.block g hlt
            have hg6 : g < w6.heap.size := by
              have h1 := HK61.out.trans hbg
              rcases Nat.lt_or_ge g w6.heap.size with h | h
              · exact h
              · rw [Array.getElem?_eq_none h, Array.getElem?_eq_getElem hlt] at h1; cases h1
            go_roundw
            case rel => exact ⟨k + 1, out ++ [(ya, yb, yc)], by go_num, by omega, HT.out, HO6.out, HK62.out, HK61.out.trans (hbg.trans HBK.out), hg6, HB.out.trans ((hbw.mono hz).trans HB6.out)⟩
            case measure => simp [intOf]; omega
      · obtain rfl : k = ps.length := by omega
        have hrd := HRD.out
        rw [List.take_length, HR.out] at hrd
        obtain ⟨hE, hV⟩ := HEV.out.1 _ hrd
        subst hE hV
        have HF := Lib.hid HO.out
        obtain ⟨ao', cap', h1, _⟩ := HO.out.reads
        subst h1
        clear hrd
        go_wp2
        go_ret2
        exact ⟨_, rfl, HF.out, HB.out⟩
end Go.Proofs.YtcfihoniocamaaaDoor
