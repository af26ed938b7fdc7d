/- surrogate.word: the walk, all kinds joined. surrogate.Read: the walk. slices.Backward over words: the iterator's contract. surrogate.Asks: the walk. Two rows of words compared: the walk. The laws on what is asked of those between: what they share. -/
import Derived.Test.YtcfihoniocamaaaGreatDoorSurWOneOne
import Derived.Test.YtcfihoniocamaaaGreatDoorSurWOneTwo
import Derived.Test.YtcfihoniocamaaaGreatDoorSurWOneMore
import Derived.Test.YtcfihoniocamaaaGreatDoorSurWTwoOne
import Derived.Test.YtcfihoniocamaaaGreatDoorSurWTwoTwo
import Derived.Test.YtcfihoniocamaaaGreatDoorSurWTwoMore
import Derived.Test.YtcfihoniocamaaaGreatDoorSurWMoreOne
import Derived.Test.YtcfihoniocamaaaGreatDoorSurWMoreTwo
import Derived.Test.YtcfihoniocamaaaGreatDoorSurWMoreMore
import Derived.Test.YtcfihoniocamaaaGreatDoorAskMath
import Derived.Test.YtcfihoniocamaaaGreatDoorRound
import Derived.Test.YtcfihoniocamaaaGreatDoorBoxes
import Derived.Test.YtcfihoniocamaaaGreatDoorSplitGen
import Derived.Test.YtcfihoniocamaaaGreatDoorWordRow
import Derived.Test.YtcfihoniocamaaaGreatDoorTail
import Derived.Shelf.RegionOpen
import Derived.WalkKit
import Derived.TacticsInMore
import Derived.LoopNIn
import Derived.LoopIn
import Derived.Deep.RegionLaw
import Derived.Deep.DeepCutAuto
/-! SurWordAll -/
namespace Go.Proofs.YtcfihoniocamaaaGreatDoor
open Go.RowKit Go.Sort Go.Shelf
set_option linter.unusedVariables false

/-- The part behind the device: name and value. -/
def restW (x : List UInt8) : Option (List UInt8 × List UInt8) :=
  match splitL 61 x with
  | none => none
  | some m =>
    if 2 < m.length ∨ tokenL (m.getD 0 []) = false then none else
    if m.length = 2 then (valueW (m.getD 1 [])).map fun v => (lower (m.getD 0 []), v)
    else some (lower (m.getD 0 []), [])
theorem wordW_rest (p : List UInt8) : wordW p = match splitL 59 p with
  | none => none
  | some l =>
    if 2 < l.length ∨ (l.length = 2 ∧ tokenL (l.getD 1 []) = false) then none else
    (restW (l.getD 0 [])).map fun y => (y.1, y.2, if l.length = 2 then l.getD 1 [] else []) := by
  unfold wordW restW
  cases splitL 59 p with
  | none => rfl
  | some l =>
    simp only
    split
    · rfl
    · cases splitL 61 (l.getD 0 []) with
      | none => rfl
      | some m =>
        simp only
        split
        · rfl
        · split
          · rw [Option.map_map]; rfl
          · rfl
theorem valV_of {s v : List UInt8} (h : valueW s = some v) : valV s = v := by
  unfold valV
  rw [h]; rfl
def WordTo (w : World) (X : Option Wrd) (e : Ending) (w' : World) : Prop :=
  ∃ a b c : List UInt8, e = .returned (.tuple #[.agg #[.string (S a), .string (S b), .string (S c)], .bool X.isSome]) ∧ (∀ x, X = some x → x = (a, b, c)) ∧ Below w.heap.size w w'
/-- What a kind's walk gives. -/
def KindTo (w : World) (c : List UInt8) (pre : Bool) (Y : Option (List UInt8 × List UInt8)) (e : Ending) (w' : World) : Prop :=
  ∃ (a b : List UInt8) (R : Bool), e = .returned (.tuple #[.agg #[.string (S a), .string (S b), .string (S c)], .bool R]) ∧ R = (pre && Y.isSome) ∧ (pre = true → ∀ y, Y = some y → y = (a, b)) ∧ Below w.heap.size w w'
theorem kind_of {w : World} {a b c : List UInt8} {R pre : Bool} {Y : Option (List UInt8 × List UInt8)} (hR : R = (pre && Y.isSome)) (hY : pre = true → ∀ y, Y = some y → y = (a, b)) {P : Program} {f : FuncId} {args : Array Value}
    (h : Calls P f args w fun e w' => e = .returned (.tuple #[.agg #[.string (S a), .string (S b), .string (S c)], .bool R]) ∧ Below w.heap.size w w') : Calls P f args w fun e w' => KindTo w c pre Y e w' :=
  h.mono fun _ _ ⟨he, hb⟩ => ⟨a, b, R, he, hR, hY, hb⟩
theorem restW_none {x : List UInt8} (h : splitL 61 x = none) : restW x = none := by unfold restW; rw [h]
theorem restW_one {x n : List UInt8} (h : splitL 61 x = some [n]) : restW x = if tokenL n = true then some (lower n, []) else none := by
  unfold restW; rw [h]; cases h2 : tokenL n <;> simp [h2]
theorem restW_two {x n v : List UInt8} (h : splitL 61 x = some [n, v]) : restW x = if tokenL n = true then (valueW v).map (fun v => (lower n, v)) else none := by
  unfold restW; rw [h]; cases h2 : tokenL n <;> simp [h2]
theorem restW_more {x a b c : List UInt8} {r : List (List UInt8)} (h : splitL 61 x = some (a :: b :: c :: r)) : restW x = none := by
  unfold restW; rw [h]; simp

theorem rest_name {x : List UInt8} {i2 tn : Bool} {n : List UInt8} (h61 : (splitL 61 x).getD [[]] = [n]) (hi2 : (splitL 61 x).isSome = i2) (htn : tokenL n = tn) : (restW x).isSome = (i2 && tn) ∧ ∀ y, restW x = some y → y = (lower n, []) := by
  cases hs : splitL 61 x with
  | none =>
    rw [hs] at hi2
    subst hi2
    rw [restW_none hs]
    exact ⟨rfl, fun y h => by cases h⟩
  | some m =>
    rw [hs] at h61 hi2
    simp only [Option.getD_some] at h61
    subst h61 hi2 htn
    rw [restW_one hs]
    cases h2 : tokenL n <;> simp
theorem rest_val {x : List UInt8} {i2 tn : Bool} {n v : List UInt8} (h61 : (splitL 61 x).getD [[]] = [n, v]) (hi2 : (splitL 61 x).isSome = i2) (htn : tokenL n = tn) : (restW x).isSome = (i2 && tn && (valueW v).isSome) ∧ ∀ y, restW x = some y → y = (lower n, valV v) := by
  cases hs : splitL 61 x with
  | none => rw [hs] at h61; cases h61
  | some m =>
    rw [hs] at h61 hi2
    simp only [Option.getD_some] at h61
    subst h61 hi2 htn
    rw [restW_two hs]
    cases h2 : tokenL n with
    | false => simp
    | true =>
      cases hv : valueW v with
      | none => simp
      | some q => 
        have := valV_of hv
        subst this
        simp
theorem rest_more {x : List UInt8} {a b c : List UInt8} {r : List (List UInt8)} (h61 : (splitL 61 x).getD [[]] = a :: b :: c :: r) : restW x = none := by
  cases hs : splitL 61 x with
  | none => exact restW_none hs
  | some m =>
    rw [hs] at h61
    simp only [Option.getD_some] at h61
    subst h61
    exact restW_more hs
theorem getD_split_bound {b : UInt8} {s : List UInt8} : (∀ x ∈ (splitL b s).getD [[]], x.length ≤ s.length) ∧ (splitL b s).getD [[]] ≠ [] ∧ ((splitL b s).getD [[]]).length ≤ s.length + 1 := by
  cases h : splitL b s with
  | none => simp
  | some L =>
    obtain ⟨b1, b2, b3⟩ := split_bound h
    exact ⟨b1, b3, b2⟩

theorem surWord_K1 (p : List UInt8) (hp : p.length ≤ 1000000) (x : List UInt8) (hx : x.length ≤ 1000000) (i1 : Bool) (h59 : (splitL 59 p).getD [[]] = [x]) (hi1 : (splitL 59 p).isSome = i1) (w : World) :
    Calls Tryz.prog 49 #[.string (S p)] w fun e w' => KindTo w [] i1 (restW x) e w' := by
  obtain ⟨b1, b2, b3⟩ := getD_split_bound (b := 61) (s := x)
  generalize hi2 : (splitL 61 x).isSome = i2
  match h61 : (splitL 61 x).getD [[]], b1, b2, b3 with
  | [], _, b2, _ => exact absurd rfl b2
  | [n], b1, _, _ =>
    have hn := b1 n (by simp)
    generalize htn : tokenL n = tn
    obtain ⟨r1, r2⟩ := rest_name h61 hi2 htn
    exact kind_of (by rw [r1, Bool.and_assoc]) (fun _ => r2) (surWord_one_one p hp x i1 hx n i2 (by omega) tn htn h59 hi1 h61 hi2 w)
  | [n, v], b1, _, _ =>
    have hn := b1 n (by simp)
    have hv := b1 v (by simp)
    generalize htn : tokenL n = tn
    obtain ⟨r1, r2⟩ := rest_val h61 hi2 htn
    exact kind_of (by rw [r1, Bool.and_assoc, Bool.and_assoc, Bool.and_assoc]) (fun _ => r2) (surWord_one_two p hp x i1 hx n i2 (by omega) tn htn v (by omega) h59 hi1 h61 hi2 w)
  | n :: b :: c :: r, b1, _, b3 =>
    have hn := b1 n (by simp)
    generalize htn : tokenL n = tn
    have r1 := rest_more h61
    exact kind_of (by rw [r1]; simp) (fun _ y h => by rw [r1] at h; cases h) (surWord_one_more p hp x i1 hx n i2 (by omega) tn htn (n :: b :: c :: r) r.length (by simp) rfl (by simp at b3 ⊢; omega) h59 hi1 h61 hi2 w)
theorem surWord_K2 (p : List UInt8) (hp : p.length ≤ 1000000) (x d : List UInt8) (hx : x.length ≤ 1000000) (hd : d.length ≤ 1000000) (i1 : Bool) (h59 : (splitL 59 p).getD [[]] = [x, d]) (hi1 : (splitL 59 p).isSome = i1) (w : World) :
    Calls Tryz.prog 49 #[.string (S p)] w fun e w' => KindTo w d (i1 && tokenL d) (restW x) e w' := by
  obtain ⟨b1, b2, b3⟩ := getD_split_bound (b := 61) (s := x)
  generalize hi2 : (splitL 61 x).isSome = i2
  generalize htd : tokenL d = td
  match h61 : (splitL 61 x).getD [[]], b1, b2, b3 with
  | [], _, b2, _ => exact absurd rfl b2
  | [n], b1, _, _ =>
    have hn := b1 n (by simp)
    generalize htn : tokenL n = tn
    obtain ⟨r1, r2⟩ := rest_name h61 hi2 htn
    exact kind_of (by rw [r1]; simp only [Bool.and_assoc]) (fun _ => r2) (surWord_two_one p hp x i1 hx n i2 (by omega) tn htn d hd td htd h59 hi1 h61 hi2 w)
  | [n, v], b1, _, _ =>
    have hn := b1 n (by simp)
    have hv := b1 v (by simp)
    generalize htn : tokenL n = tn
    obtain ⟨r1, r2⟩ := rest_val h61 hi2 htn
    exact kind_of (by rw [r1]; simp only [Bool.and_assoc]) (fun _ => r2) (surWord_two_two p hp x i1 hx n i2 (by omega) tn htn d hd td htd v (by omega) h59 hi1 h61 hi2 w)
  | n :: b :: c :: r, b1, _, b3 =>
    have hn := b1 n (by simp)
    generalize htn : tokenL n = tn
    have r1 := rest_more h61
    exact kind_of (by rw [r1]; simp) (fun _ y h => by rw [r1] at h; cases h) (surWord_two_more p hp x i1 hx n i2 (by omega) tn htn d hd td htd (n :: b :: c :: r) r.length (by simp) rfl (by simp at b3 ⊢; omega) h59 hi1 h61 hi2 w)
theorem surWord_K3 (p : List UInt8) (hp : p.length ≤ 1000000) (x d : List UInt8) (hx : x.length ≤ 1000000) (hd : d.length ≤ 1000000) (i1 : Bool) (L1 : List (List UInt8)) (k : Nat) (hk : L1.length = k + 3) (hk2 : k ≤ 1000000) (hx0 : L1[0]? = some x) (hdl : L1[k + 2]? = some d) (h59 : (splitL 59 p).getD [[]] = L1) (hi1 : (splitL 59 p).isSome = i1) (w : World) :
    Calls Tryz.prog 49 #[.string (S p)] w fun e w' => KindTo w d false none e w' := by
  obtain ⟨b1, b2, b3⟩ := getD_split_bound (b := 61) (s := x)
  generalize hi2 : (splitL 61 x).isSome = i2
  generalize htd : tokenL d = td
  match h61 : (splitL 61 x).getD [[]], b1, b2, b3 with
  | [], _, b2, _ => exact absurd rfl b2
  | [n], b1, _, _ =>
    have hn := b1 n (by simp)
    generalize htn : tokenL n = tn
    exact kind_of (by simp) (fun _ y h => by cases h) (surWord_more_one p hp x i1 hx n i2 (by omega) tn htn d hd td htd L1 k hk hk2 hx0 hdl h59 hi1 h61 hi2 w)
  | [n, v], b1, _, _ =>
    have hn := b1 n (by simp)
    have hv := b1 v (by simp)
    generalize htn : tokenL n = tn
    exact kind_of (by simp) (fun _ y h => by cases h) (surWord_more_two p hp x i1 hx n i2 (by omega) tn htn d hd td htd L1 k hk hk2 hx0 hdl v (by omega) h59 hi1 h61 hi2 w)
  | n :: b :: c :: r, b1, _, b3 =>
    have hn := b1 n (by simp)
    generalize htn : tokenL n = tn
    exact kind_of (by simp) (fun _ y h => by cases h) (surWord_more_more p hp x i1 hx n i2 (by omega) tn htn d hd td htd L1 k hk hk2 hx0 hdl (n :: b :: c :: r) r.length (by simp) rfl (by simp at b3 ⊢; omega) h59 hi1 h61 hi2 w)

/-- surrogate.word. -/
theorem surWord (p : List UInt8) (hp : p.length ≤ 1000000) (w : World) :
    Calls Tryz.prog 49 #[.string (S p)] w fun e w' => WordTo w (wordW p) e w' := by
  obtain ⟨b1, b2, b3⟩ := getD_split_bound (b := 59) (s := p)
  generalize hi1 : (splitL 59 p).isSome = i1
  match h59 : (splitL 59 p).getD [[]], b1, b2, b3 with
  | [], _, b2, _ => exact absurd rfl b2
  | [x], b1, _, _ =>
    have hx := b1 x (by simp)
    refine (surWord_K1 p hp x (by omega) i1 h59 hi1 w).mono ?_
    rintro e w' ⟨a, b, R, he, hR, hY, hb⟩
    have hw : wordW p = if i1 = true then (restW x).map (fun y => (y.1, y.2, [])) else none := by
      rw [wordW_rest]
      cases hs : splitL 59 p with
      | none => rw [hs] at hi1; subst hi1; rfl
      | some l =>
        rw [hs] at hi1 h59
        simp only [Option.getD_some] at h59
        subst h59 hi1
        simp
    refine ⟨a, b, [], ?_, ?_, hb⟩
    · rw [he, hR, hw]; cases i1 <;> simp
    · intro y hy
      rw [hw] at hy
      split at hy
      · rename_i h1
        obtain ⟨q, hq, rfl⟩ := Option.map_eq_some_iff.1 hy
        rw [hY h1 q hq]
      · cases hy
  | [x, d], b1, _, _ =>
    have hx := b1 x (by simp)
    have hd := b1 d (by simp)
    refine (surWord_K2 p hp x d (by omega) (by omega) i1 h59 hi1 w).mono ?_
    rintro e w' ⟨a, b, R, he, hR, hY, hb⟩
    have hw : wordW p = if (i1 && tokenL d) = true then (restW x).map (fun y => (y.1, y.2, d)) else none := by
      rw [wordW_rest]
      cases hs : splitL 59 p with
      | none => rw [hs] at hi1; subst hi1; rfl
      | some l =>
        rw [hs] at hi1 h59
        simp only [Option.getD_some] at h59
        subst h59 hi1
        cases h2 : tokenL d <;> simp [h2]
    refine ⟨a, b, d, ?_, ?_, hb⟩
    · rw [he, hR, hw]; cases i1 && tokenL d <;> simp
    · intro y hy
      rw [hw] at hy
      split at hy
      · rename_i h1
        obtain ⟨q, hq, rfl⟩ := Option.map_eq_some_iff.1 hy
        rw [hY h1 q hq]
      · cases hy
  | x :: y :: z :: r, b1, _, b3 =>
    have hx := b1 x (by simp)
    have hdl : ∃ d, (x :: y :: z :: r)[r.length + 2]? = some d ∧ d ∈ x :: y :: z :: r := ⟨_, List.getElem?_eq_getElem (by simp), List.getElem_mem _⟩
    obtain ⟨d, hd, hdm⟩ := hdl
    have hdl := b1 d hdm
    refine (surWord_K3 p hp x d (by omega) (by omega) i1 (x :: y :: z :: r) r.length (by simp) (by simp at b3 ⊢; omega) rfl hd h59 hi1 w).mono ?_
    rintro e w' ⟨a, b, R, he, hR, hY, hb⟩
    have hw : wordW p = none := by
      rw [wordW_rest]
      cases hs : splitL 59 p with
      | none => rfl
      | some l =>
        rw [hs] at h59
        simp only [Option.getD_some] at h59
        subst h59
        simp
    refine ⟨a, b, d, ?_, ?_, hb⟩
    · rw [he, hR, hw]; simp
    · intro y hy; rw [hw] at hy; cases hy
end Go.Proofs.YtcfihoniocamaaaGreatDoor
/-! SurRead -/
namespace Go.Proofs.YtcfihoniocamaaaGreatDoor
open Go.RowKit Go.Sort Go.Shelf
set_option linter.unusedVariables false

set_option maxHeartbeats 3200000 in
set_option maxRecDepth 100000 in
theorem surRead (s : List UInt8) (hs : s.length ≤ 100000) (w : World) :
    Calls Tryz.prog 26 #[.string (S s)] w fun e w' => ∃ v, e = .returned (.tuple #[v, .int .i64 (readE s)]) ∧ OwnsW w' w.heap.size v (readV s) ∧ Below w.heap.size w w' := by
  unfold readE readV
  cases h44 : splitL 44 s with
  | none =>
    have hR : readL s = none := by unfold readL; rw [h44]
    rw [hR]
    have SP := Lib.hid (fun W => textSplit s 44 (by omega) W)
    rw [h44] at SP
    unfold SplitTo at SP
    clear h44 hR
    go_enter Tryz.func26, Tryz.ntmps26
    go_wp2_with (go_at_call 48; refine Calls.mono (SP.out _) ?_; rintro e w1 ⟨v1, ho1, rfl, hb1⟩; have HB1 := Lib.hid hb1; clear ho1 hb1; simp only [errOf])
    go_ret2
    exact ⟨_, rfl, OwnsW.nil _ _, HB1.out⟩
  | some ps =>
    obtain ⟨b1, b2, b3⟩ := split_bound h44
    have hR : readL s = readParts ps := by unfold readL; rw [h44]
    rw [hR]
    have SP := Lib.hid (fun W => textSplit s 44 (by omega) W)
    rw [h44] at SP
    unfold SplitTo at SP
    have HB1' := Lib.hid b1
    have hps : (ps.length : Int) ≤ 100001 := by omega
    have hpos : 0 < ps.length := List.length_pos_iff.2 b3
    have PA := Lib.hid (fun p hp W => surWord p hp W)
    obtain ⟨R, hRR⟩ : ∃ R, readParts ps = R := ⟨_, rfl⟩
    have HR := Lib.hid hRR
    have hEV : (∀ o, R = some o → errW R = 0 ∧ R.getD [] = o) ∧ (R = none → errW R = 11 ∧ R.getD [] = []) := by
      refine ⟨fun o h => ?_, fun h => ?_⟩
      · subst h; exact ⟨rfl, rfl⟩
      · subst h; exact ⟨rfl, rfl⟩
    rw [hRR]
    obtain ⟨E, hE⟩ : ∃ E, errW R = E := ⟨_, rfl⟩
    obtain ⟨V, hV⟩ : ∃ V : List Wrd, R.getD [] = V := ⟨_, rfl⟩
    rw [hE, hV] at hEV ⊢
    have HEV := Lib.hid hEV
    clear h44 hR b1 b3 hRR hE hV hEV
    go_enter Tryz.func26, Tryz.ntmps26
    go_wp2_with (go_at_call 48; refine Calls.mono (SP.out _) ?_; rintro e w1 ⟨v1, ho1, rfl, hb1⟩; simp only [errOf, Option.getD_some] at ho1 ⊢; obtain ⟨g, cap, h1, hc1, hc2, hg, hcells⟩ := ho1.at 0 hpos; subst h1; have HC := Lib.hid hcells; have HB1 := Lib.hid hb1; have hz1 := hb1.size; clear ho1 hb1 hcells)
    have hmx : maxLen = 9223372036854775807 := rfl
    rw [hmx] at hc2
    go_loopw [6, 21] (fun ov iv wr => ∃ (k : Nat) (out : List Wrd), iv = .int .i64 k ∧ k ≤ ps.length ∧ readParts (ps.take k) = some out ∧ OwnsW wr w.heap.size ov out ∧ ov.ownBlock ≠ some g ∧ wr.heap[g]? = w1.heap[g]? ∧ g < wr.heap.size ∧ Below w.heap.size w wr) (fun _ iv _ => ps.length - (intOf iv).toNat)
    case atStart => exact ⟨0, [], rfl, Nat.zero_le _, rfl, OwnsW.nil w1 w.heap.size, by simp [Value.ownBlock], rfl, hg, HB1.out⟩
    case round =>
      obtain ⟨k, out, rfl, hk, hread, hown, hne, hblk, hlt, hB⟩ := hrel
      have HO := Lib.hid hown
      have HNE := Lib.hid hne
      have HBK := Lib.hid hblk
      have HB := Lib.hid hB
      have HRD := Lib.hid hread
      have hz := hB.size
      have hol := read_len _ _ hread
      rw [List.length_take] at hol
      clear hown hne hblk hB hread
      by_cases hkl : k < ps.length
      · have e1 := (World.cell?_of_block (a := ⟨g, k, none⟩) HBK.out).trans (HC.out k hkl)
        have hpl := HB1'.out _ (List.getElem_mem hkl)
        have htk : ps.take (k + 1) = ps.take k ++ [ps[k]] := List.take_succ_eq_append_getElem hkl
        have hwhole : ps = (ps.take k ++ [ps[k]]) ++ ps.drop (k + 1) := by rw [← htk, List.take_append_drop]
        have hsn := read_snoc (ps.take k) ps[k] HRD.out
        obtain ⟨p, hp⟩ : ∃ p, ps[k] = p := ⟨_, rfl⟩
        rw [hp] at e1 hpl htk hsn hwhole
        have C := Lib.hid (PA.out p (by omega))
        have HT := Lib.hid (htk ▸ hsn)
        have HW := Lib.hid (fun (h : readParts (ps.take k ++ [p]) = none) => (show R = none from (HR.out.symm.trans (congrArg readParts hwhole)).trans (read_stop _ _ h)))
        have HSN := Lib.hid hsn
        unfold WordTo at C
        obtain ⟨X, hX⟩ : ∃ X, wordW p = X := ⟨_, rfl⟩
        rw [hX] at C HT HSN
        clear hp htk hsn hwhole hX
        cases he : p.isEmpty with
        | true =>
          rw [he, if_pos rfl] at HT
          clear C
          go_wp2
          go_roundw
          case rel => exact ⟨k + 1, out, by go_num, by omega, HT.out, HO.out, HNE.out, HBK.out, hlt, HB.out⟩
          case measure => simp [intOf]; omega
        | false =>
          rw [he, if_neg (by simp)] at HT HSN
          cases X with
          | none =>
            have hr := HW.out HSN.out
            obtain ⟨hE, hV⟩ := HEV.out.2 hr
            subst hE hV
            have C := Lib.hid (show ∀ W, Calls Tryz.prog 49 #[.string (S p)] W fun e w' => ∃ a b c : List UInt8, e = .returned (.tuple #[.agg #[.string (S a), .string (S b), .string (S c)], .bool false]) ∧ Below W.heap.size W w' from fun W => (C.out W).mono (by rintro e w' ⟨a, b, c, h1, _, h2⟩; exact ⟨a, b, c, h1, h2⟩))
            clear hr
            go_wp2_with (go_at_call 49; refine Calls.mono (C.out _) ?_; rintro e w2 ⟨a, b, c, rfl, hb2⟩; have hz2 := hb2.size; have HB2 := Lib.hid (HB.out.trans (hb2.mono hz)); clear hb2)
            go_ret2
            exact ⟨_, rfl, OwnsW.nil _ _, by have := HB2.out; (repeat (first | (with_reducible exact Below.refl _ _) | (with_reducible assumption) | (with_reducible refine Below.drew ?_) | (focus ((with_reducible refine Below.setCell ?_ ?_ _); rotate_left; (first | omega | (simp <;> omega)))) | (focus ((with_reducible refine Below.alloc ?_ ?_ _); rotate_left; (first | omega | (simp <;> omega)))) | exact Below.refl _ _ | assumption | refine Below.drew ?_ | refine Below.alloc ?_ (by first | omega | (simp <;> omega)) _ | refine Below.setCell ?_ (by first | omega | (simp <;> omega)) _))⟩
          | some y =>
            obtain ⟨ya, yb, yc⟩ := y
            have C := Lib.hid (show ∀ W, Calls Tryz.prog 49 #[.string (S p)] W fun e w' => e = .returned (.tuple #[.agg #[.string (S ya), .string (S yb), .string (S yc)], .bool true]) ∧ Below W.heap.size W w' from fun W => (C.out W).mono (by
              rintro e w' ⟨a, b, c, h1, h3, h2⟩
              have := h3 _ rfl
              injection this with i1 i2
              injection i2 with i2 i3
              subst i1 i2 i3
              exact ⟨h1, h2⟩))
            go_wp2_with (first
              | (go_at_call 49; refine Calls.mono (C.out _) ?_; rintro e w2 ⟨rfl, hb2⟩; have hz2 := hb2.size; have HB2 := Lib.hid hb2; have hbw := Below.alloc hb2 hz2 (.cells #[.string (S ya), .string (S yb), .string (S yc)] 47); clear hb2)
              | (at_builtin; refine wp_append_wrd rfl _ _ rfl _ w.heap.size _ out (ya, yb, yc) (HO.out.below hbw) rfl _ rfl (by simp) (by omega) (by (first | omega | (simp <;> omega))) ?_; intro v6 w6 hown6 hb6 hk6; have HO6 := Lib.hid hown6; have HB6 := Lib.hid hb6; obtain ⟨hk61, hk62⟩ := hk6 g (by (first | omega | (simp <;> omega))) HNE.out; have HK61 := Lib.hid hk61; have HK62 := Lib.hid hk62; clear hown6 hb6 hk6 hk61 hk62)
              | fail)
            have hz6 := HB6.out.size
            have hbg := hbw.block g hlt
            have hg6 : g < w6.heap.size := by
              have h1 := HK61.out.trans hbg
              rcases Nat.lt_or_ge g w6.heap.size with h | h
              · exact h
              · rw [Array.getElem?_eq_none h, Array.getElem?_eq_getElem hlt] at h1; cases h1
            go_roundw
            case rel => exact ⟨k + 1, out ++ [(ya, yb, yc)], by go_num, by omega, HT.out, HO6.out, HK62.out, HK61.out.trans (hbg.trans HBK.out), hg6, HB.out.trans ((hbw.mono hz).trans HB6.out)⟩
            case measure => simp [intOf]; omega
      · obtain rfl : k = ps.length := by omega
        have hrd := HRD.out
        rw [List.take_length, HR.out] at hrd
        obtain ⟨hE, hV⟩ := HEV.out.1 _ hrd
        subst hE hV
        have HF := Lib.hid HO.out
        obtain ⟨ao', cap', h1, _⟩ := HO.out.reads
        subst h1
        clear hrd
        go_wp2
        go_ret2
        exact ⟨_, rfl, HF.out, HB.out⟩
end Go.Proofs.YtcfihoniocamaaaGreatDoor
/-! SurIter -/
namespace Go.Proofs.YtcfihoniocamaaaGreatDoor
open Go.RowKit Go.Shelf
set_option linter.unusedVariables false
attribute [local go_sem] Oper.semAt_some

/-- A word with its place, its value short. -/
abbrev Wd := { x : Nat × Wrd // x.2.2.1.length ≤ 1000000 }
def encWd (x : Wd) : Array Value := #[.int .i64 (x.1.1 : Int), .agg #[.string (S x.1.2.1), .string (S x.1.2.2.1), .string (S x.1.2.2.2)]]
@[go_sem] theorem encWd_eq (x : Wd) : encWd x = #[.int .i64 (x.1.1 : Int), .agg #[.string (S x.1.2.1), .string (S x.1.2.2.1), .string (S x.1.2.2.2)]] := rfl
def wvals (xs : List Wd) : List Wrd := xs.map fun x => x.1.2
theorem wvals_snoc (xs : List Wd) (x : Wd) : wvals (xs ++ [x]) = wvals xs ++ [x.1.2] := by simp [wvals]

set_option maxRecDepth 100000 in
set_option maxHeartbeats 2000000 in
theorem back1_in (l Bs n₀ : Nat) (hBn : Bs < n₀) (ao : Option Addr) (cap : Nat) (L : List Wrd) (hL : ∀ x ∈ L, x.2.1.length ≤ 1000000) (hlen : L.length ≤ 1000000) (J Jx : List Wd → World → Prop)
    (hY : ∀ pre x W, J pre W → pre.length < L.length → YieldAt Fence.wide 2 Tryz.prog l (encWd x) W fun e W' =>
      (e = .returned (.bool true) ∧ J (pre ++ [x]) W' ∧ Below n₀ W W') ∨ (e = .returned (.bool false) ∧ Jx (pre ++ [x]) W'))
    (W : World) (hBs : W.cell? ⟨Bs, 0, none⟩ = some (.slice ao L.length cap)) (hcap : L.length ≤ cap)
    (hc : 0 < L.length → ∃ b off, ao = some ⟨b, off, none⟩ ∧ b < n₀ ∧ ∀ j (h : j < L.length), W.cell? ⟨b, off + j * 3, none⟩ = some (.string (S L[j].1)) ∧ W.cell? ⟨b, off + j * 3 + 1, none⟩ = some (.string (S L[j].2.1)) ∧ W.cell? ⟨b, off + j * 3 + 2, none⟩ = some (.string (S L[j].2.2))) (h0 : J [] W) :
    CallsIn Fence.wide 3 Tryz.prog 78 #[.func (.yield l) #[] #[], .pointer (some ⟨Bs, 0, none⟩)] W fun e W' => (∃ v, e = .returned v) ∧
      ((∃ ys, wvals ys = L.reverse ∧ J ys W') ∨ (∃ pre, wvals pre <+: L.reverse ∧ Jx pre W')) := by
  have HC := Lib.hid hc
  have HL := Lib.hid hL
  have hl1 : (L.length : Int) ≤ 1000000 := by omega
  have hw1 : wrap64 ((L.length : Int) - 1) = (L.length : Int) - 1 := by unfold wrap64; omega
  clear hc hL
  refine callsIn_of_wp Tryz.func78 rfl trivial ?_ rfl
  simp only [Tryz.ntmps78, List.size_toArray, List.length_cons, List.length_nil, Nat.reduceAdd, Nat.reduceSub, Array.replicate_succ, Array.replicate_zero, List.push_toArray, List.append_toArray, List.nil_append, List.cons_append]
  gi_wp2
  gi_loopw [3] (fun av wr => ∃ (k : Nat) (z : Int) (pre : List Wd), av = .int .i64 z ∧ z = (k : Int) - 1 ∧ k ≤ L.length ∧ wvals pre ++ (L.take k).reverse = L.reverse ∧ J pre wr ∧ Below n₀ W wr)
    (fun av _ => (intOf av + 1).toNat)
  case atStart => exact ⟨L.length, _, [], rfl, by omega, Nat.le_refl _, by simp [wvals], h0, Below.refl _ _⟩
  case round =>
    obtain ⟨k, z, pre, rfl, hz, hk, hpre, hJ, hB⟩ := hrel
    have hcb := (hB.cell (p := ⟨Bs, 0, none⟩) hBn).trans hBs
    rcases k with _ | k
    · have hz1 : ¬ (0 : Int) ≤ z := by omega
      clear hz
      gi_wp2
      go_end0
      exact ⟨⟨_, rfl⟩, .inl ⟨pre, by simpa using hpre, hJ⟩⟩
    · obtain rfl : z = (k : Int) := by omega
      obtain ⟨b, off, rfl, hb, hcl⟩ := HC.out (by omega)
      obtain ⟨e1, e2, e3⟩ := hcl k hk
      rw [← hB.cell (p := ⟨b, off + k * 3, none⟩) hb] at e1
      rw [← hB.cell (p := ⟨b, off + k * 3 + 1, none⟩) hb] at e2
      rw [← hB.cell (p := ⟨b, off + k * 3 + 2, none⟩) hb] at e3
      have hv := HL.out _ (List.getElem_mem hk)
      have htk : (L.take (k + 1)).reverse = L[k] :: (L.take k).reverse := by
        rw [List.take_succ_eq_append_getElem hk, List.reverse_append]; rfl
      obtain ⟨⟨n, v, d⟩, hf⟩ : ∃ f, L[k] = f := ⟨_, rfl⟩
      rw [hf] at e1 e2 e3 hv htk
      rw [htk] at hpre
      simp only at e1 e2 e3 hv
      have hplen : pre.length < L.length := by
        have := congrArg List.length hpre
        simp [wvals] at this; omega
      obtain ⟨xx, hxx⟩ : ∃ xx : Wd, xx.1 = (k, (n, v, d)) := ⟨⟨(k, (n, v, d)), hv⟩, rfl⟩
      obtain ⟨fn, tmps, assign, body, hy, hR⟩ := hY pre xx wr hJ hplen
      simp only [encWd, hxx] at hy
      have HP := Lib.hid hpre
      have HR := Lib.hid hR
      have HX := Lib.hid hxx
      have hw2 : wrap64 ((k : Int) - 1) = (k : Int) - 1 := by unfold wrap64; omega
      clear hz hcb
      have hcb := (hB.cell (p := ⟨Bs, 0, none⟩) hBn).trans hBs
      clear hpre hR hY hxx hcl hf htk hv
      gi_wp2
      refine HR.out.mono ?_
      rintro e W3 (⟨rfl, hJ3, hk3⟩ | ⟨rfl, hJx3⟩)
      · gi_wp2
        go_roundw
        case rel => exact ⟨k, _, _, rfl, rfl, by omega, by rw [wvals_snoc, List.append_assoc, ← HP.out, HX.out]; rfl, hJ3, hB.trans hk3⟩
        case measure => simp [intOf]
      · gi_wp2
        refine bodyPost_ret (results_none rfl _ _ _) rfl ?_
        refine ⟨⟨_, rfl⟩, .inr ⟨_, ?_, hJx3⟩⟩
        rw [wvals_snoc, ← HP.out]
        exact ⟨_, by rw [List.append_assoc, HX.out]; rfl⟩

/-- The maker. -/
theorem back_c (ao : Option Addr) (len cap : Nat) (w : World) : Calls Tryz.prog 50 #[.slice ao len cap] w fun e w' => e = .returned (.func (.func 78) #[] #[.pointer (some ⟨w.heap.size, 0, none⟩)]) ∧ w' = w.alloc (.cells #[.slice ao len cap] 48) := by
  go_enter Tryz.func50, Tryz.ntmps50
  go_wp2
  go_ret
  exact ⟨rfl, rfl⟩

theorem back_stops (Bs n₀ : Nat) (hBn : Bs < n₀) (ao : Option Addr) (cap : Nat) (L : List Wrd) (hL : ∀ x ∈ L, x.2.1.length ≤ 1000000) (hlen : L.length ≤ 1000000) (w : World) (hn₀ : n₀ ≤ w.heap.size)
    (hBs : w.cell? ⟨Bs, 0, none⟩ = some (.slice ao L.length cap)) (hcap : L.length ≤ cap)
    (hc : 0 < L.length → ∃ b off, ao = some ⟨b, off, none⟩ ∧ b < n₀ ∧ ∀ j (h : j < L.length), w.cell? ⟨b, off + j * 3, none⟩ = some (.string (S L[j].1)) ∧ w.cell? ⟨b, off + j * 3 + 1, none⟩ = some (.string (S L[j].2.1)) ∧ w.cell? ⟨b, off + j * 3 + 2, none⟩ = some (.string (S L[j].2.2))) :
    SeqStopsK Fence.wide 3 Tryz.prog 78 #[.pointer (some ⟨Bs, 0, none⟩)] encWd (Below n₀) (fun ys => wvals ys = L.reverse) (fun pre => wvals pre <+: L.reverse) L.length w := fun l J Jx W hW _ _ hY h0 =>
  back1_in l Bs n₀ hBn ao cap L hL hlen J Jx hY W ((hW.cell (p := ⟨Bs, 0, none⟩) (show Bs < w.heap.size by omega)).trans hBs) hcap (fun h => by
    obtain ⟨b, off, e, hb, hcl⟩ := hc h
    refine ⟨b, off, e, hb, fun j hj => ?_⟩
    obtain ⟨e1, e2, e3⟩ := hcl j hj
    exact ⟨(hW.cell (p := ⟨b, off + j * 3, none⟩) (by show b < _; omega)).trans e1, (hW.cell (p := ⟨b, off + j * 3 + 1, none⟩) (by show b < _; omega)).trans e2, (hW.cell (p := ⟨b, off + j * 3 + 2, none⟩) (by show b < _; omega)).trans e3⟩) h0
end Go.Proofs.YtcfihoniocamaaaGreatDoor
/-! SurAsks -/
namespace Go.Proofs.YtcfihoniocamaaaGreatDoor
open Go.RowKit Go.Shelf
set_option linter.unusedVariables false
set_option linter.unusedSimpArgs false
attribute [local go_sem] Oper.semAt_some

/-- What the rounds for one name hold: the words gone through are none of its. -/
def AsI (w w1 : World) (name : List UInt8) (nb : Nat) (pre : List Wd) (W : World) : Prop :=
  ((∀ x ∈ wvals pre, isFor name x = false) ∧ Boxed W w.heap.size 4 (.bool false) ∧ Boxed W nb 9 (.string (S name))) ∧ Below w1.heap.size w1 W
def AsX (w w1 : World) (name : List UInt8) (c : Code) (pre : List Wd) (W : World) : Prop :=
  (c = .ret ∧ ∃ (p : List Wrd) (x : Wrd), wvals pre = p ++ [x] ∧ (∀ y ∈ p, isFor name y = false) ∧ isFor name x = true ∧ Boxed W w.heap.size 4 (.bool (hasEsi x.2.1))) ∧ Below w.heap.size w W ∧ KeepsFrom 0 w1 W
theorem asI_own (w w1 : World) (name : List UInt8) (nb : Nat) {B : Nat} (hB : w1.heap.size ≤ B) : OwnFrom B (AsI w w1 name nb) :=
  OwnFrom.and (Own.from (fun pre A X row hs hg hr => by
    obtain ⟨h1, h2, h3⟩ := hs
    exact ⟨h1, box_turn h2 hg hr, box_turn h3 hg hr⟩) _) (ownFrom_below (Nat.le_refl _) hB)
theorem asX_own (w w1 : World) (name : List UInt8) {B : Nat} (hB : w.heap.size ≤ B) (hB1 : w1.heap.size ≤ B) (c : Code) : OwnFrom B (AsX w w1 name c) :=
  OwnFrom.and (Own.from (fun pre A X row hs hg hr => by
    obtain ⟨h0, p, x, h1, h2, h3, h4⟩ := hs
    exact ⟨h0, p, x, h1, h2, h3, box_turn h4 hg hr⟩) _) (OwnFrom.and (ownFrom_below (Nat.le_refl _) hB) (ownFrom_keepsFrom hB1))

theorem last_found {L pre p : List Wrd} {x : Wrd} {name : List UInt8} (hpre : pre <+: L.reverse) (hp : pre = p ++ [x]) (hno : ∀ y ∈ p, isFor name y = false) (hyes : isFor name x = true) : lastOf L name = some x := by
  unfold lastOf
  obtain ⟨r, hr⟩ := hpre
  rw [← hr, hp, List.append_assoc, List.find?_append, List.find?_eq_none.2 (fun y hy => by rw [hno y hy]; simp)]
  simp [hyes]
theorem last_none {L ys : List Wrd} {name : List UInt8} (hys : ys = L.reverse) (hno : ∀ y ∈ ys, isFor name y = false) : lastOf L name = none := by
  unfold lastOf
  rw [← hys]
  exact List.find?_eq_none.2 (fun y hy => by rw [hno y hy]; simp)
theorem split_count (s : List UInt8) (c : UInt8) : (Lib.split s [c]).length ≤ s.length + 1 := by
  obtain ⟨n, hn⟩ : ∃ n, s.length = n := ⟨_, rfl⟩
  induction n using Nat.strongRecOn generalizing s with
  | ind n ih =>
    rcases first_part s c with h | ⟨a, r, h1, h2⟩
    · rw [split_none _ _ h]; simp
    · subst h2
      rw [split_at _ _ _ h1]
      simp only [List.length_append, List.length_cons] at hn ⊢
      have := ih r.length (by omega) r rfl
      omega
theorem contains_at (b : Nat) (L : List (List UInt8)) (hl : L.length ≤ 1000000000) (x : List UInt8) (W : World) (hc : ∀ j (h : j < L.length), W.cell? ⟨b, j, none⟩ = some (.string (S L[j]))) : Calls Tryz.prog 51 #[.slice (some ⟨b, 0, none⟩) L.length L.length, .string (S x)] W fun e w' => e = .returned (.bool (decide (x ∈ L))) ∧ w' = W := by
  refine (Tryz.slices_Contains_string b 0 L.length L.length (L.map S) (S x) W (by simp) (by omega) (fun j hj => ?_)).mono fun e w' ⟨h1, h2⟩ => ⟨?_, h2⟩
  · rw [Nat.zero_add, hc j (by simpa using hj)]
    simp at hj
    simp [hj]
  · rw [h1]
    congr 2
    rw [show L.length = (L.map S).length by simp, List.take_length]
    rw [Bool.eq_iff_iff, Lib.containsS_iff, decide_eq_true_eq, List.mem_map]
    exact ⟨fun ⟨y, h1, h2⟩ => by rw [← S_inj h2]; exact h1, fun h => ⟨x, h, rfl⟩⟩

set_option maxRecDepth 100000 in
set_option maxHeartbeats 4000000 in
theorem surAsks (s dev : List UInt8) (hs : s.length ≤ 100000) (hval : ∀ x ∈ readV s, x.2.1.length ≤ 1000000) (w : World) (hM : ∃ m, w.cell? ⟨0, 0, none⟩ = some (.int .i64 m)) :
    Calls Tryz.prog 27 #[.string (S s), .string (S dev)] w fun e w' => e = .returned (.bool (asksL s dev)) ∧ Below w.heap.size w w' := by
  refine (callsIn_wide (n := 4)).1 ?_
  have RD := Lib.hid (fun W => surRead s hs W)
  unfold asksL
  unfold readE readV at RD
  have hlen : ∀ L, readL s = some L → L.length ≤ 100001 := fun L h => by
    unfold readL at h
    cases h44 : splitL 44 s with
    | none => rw [h44] at h; cases h
    | some ps =>
      rw [h44] at h
      have h1 := (split_bound h44).2.1
      have h2 := read_len ps L h
      omega
  unfold readV at hval
  cases hR : readL s with
  | none =>
    rw [hR] at RD
    clear hR hlen hval
    refine callsIn_of_wp_marks Tryz.func27 rfl trivial ?_ rfl
    simp only [Tryz.ntmps27, List.size_toArray, List.length_cons, List.length_nil, Nat.reduceAdd, Nat.reduceSub, Array.replicate_succ, Array.replicate_zero, List.push_toArray, List.append_toArray, List.nil_append, List.cons_append]
    gi_wp2_with (gi_at_call 26; refine (callsIn_wide.2 (RD.out _)).mono ?_; rintro e w1 ⟨v1, rfl, ho1, hb1⟩; have HB1 := Lib.hid hb1; have hz1 := hb1.size; have c1 := hb1.cell (p := ⟨w.heap.size, 0, none⟩) (by simp); have f1 := hb1.frozen (p := ⟨w.heap.size, 0, none⟩) (by simp); clear ho1 hb1; simp only [errW]; simp at c1 f1 hz1; have HBX := Lib.hid (box_under (Boxed.new w 4 (.bool false)) HB1.out))
    have q0 := (Boxed.set (.bool false) HBX.out).cell
    refine ⟨.bool false, ?_, rfl, ?_⟩
    · simp [results, Tryz.f27, go_sem, q0]
    · exact ((((Below.refl _ w).alloc (Nat.le_refl _) _).trans (HB1.out.mono (by simp))).setCell (p := ⟨w.heap.size, 0, none⟩) (Nat.le_refl _) _)
  | some L =>
    have hl := hlen L hR
    rw [hR] at RD hval
    have HV := Lib.hid (show ∀ x ∈ L, x.2.1.length ≤ 1000000 from hval)
    clear hR hlen hval
    simp only
    have RD := Lib.hid (show ∀ W, Calls Tryz.prog 26 #[.string (S s)] W fun e w' => ∃ v, e = .returned (.tuple #[v, .int .i64 0]) ∧ OwnsW w' W.heap.size v L ∧ Below W.heap.size W w' from RD.out)
    refine callsIn_of_wp_marks Tryz.func27 rfl trivial ?_ rfl
    simp only [Tryz.ntmps27, List.size_toArray, List.length_cons, List.length_nil, Nat.reduceAdd, Nat.reduceSub, Array.replicate_succ, Array.replicate_zero, List.push_toArray, List.append_toArray, List.nil_append, List.cons_append]
    gi_wp2_with (gi_at_call 26; refine (callsIn_wide.2 (RD.out _)).mono ?_; rintro e w1 ⟨v1, rfl, ho1, hb1⟩; have HB1 := Lib.hid hb1; obtain ⟨ao, cap, h1, hc1, hc2, _, hcell⟩ := ho1.reads; subst h1; have HC := Lib.hid hcell; have hz1 := hb1.size; have c1 := hb1.cell (p := ⟨w.heap.size, 0, none⟩) (by simp); have f1 := hb1.frozen (p := ⟨w.heap.size, 0, none⟩) (by simp); clear ho1 hb1 hcell; simp at c1 f1 hz1)
    refine wpIn_loop_rounds 3 ?_
    rw [roundsIn_succ]
    have Bres := (box_under (Boxed.new w 4 (.bool false)) HB1.out).alloc (.cells #[.string (S dev), .string (S [])] 9)
    obtain ⟨W2, hW2⟩ : ∃ x, w1.alloc (.cells #[.string (S dev), .string (S [])] 9) = x := ⟨_, rfl⟩
    have hz2 : W2.heap.size = w1.heap.size + 1 := by rw [← hW2]; simp
    have n0 : W2.cell? ⟨w1.heap.size, 0, none⟩ = some (.string (S dev)) := by rw [← hW2]; simp
    have n1 : W2.cell? ⟨w1.heap.size, 1, none⟩ = some (.string (S [])) := by rw [← hW2]; simp
    have hb12 : Below w1.heap.size w1 W2 := by rw [← hW2]; exact (Below.refl _ _).alloc (Nat.le_refl _) _
    have HBW := Lib.hid (show Below w.heap.size w W2 from ((((Below.refl _ w).alloc (Nat.le_refl _) _).trans (HB1.out.mono (by simp)))).trans (hb12.mono (by omega)))
    rw [hW2] at Bres ⊢
    have BK := Lib.hid (fun W => back_c ao L.length cap W)
    gi_wp2_with (gi_at_call 50; refine (callsIn_wide.2 (BK.out _)).mono ?_; rintro e w' ⟨rfl, rfl⟩)
    have hz3 : ((W2.alloc (.cells #[.string (S dev)] 9)).alloc (.cells #[.slice ao L.length cap] 48)).heap.size = w1.heap.size + 1 + 1 + 1 := by simp [hz2]
    have Bnam1 := (Boxed.new W2 9 (.string (S dev))).alloc (.cells #[.slice ao L.length cap] 48)
    have K1 := Boxed.new (W2.alloc (.cells #[.string (S dev)] 9)) 48 (.slice ao L.length cap)
    have Bres1 := (Bres.alloc (.cells #[.string (S dev)] 9)).alloc (.cells #[.slice ao L.length cap] 48)
    have hb23 : Below W2.heap.size W2 ((W2.alloc (.cells #[.string (S dev)] 9)).alloc (.cells #[.slice ao L.length cap] 48)) := ((Below.refl _ _).alloc (Nat.le_refl _) _).alloc (by simp) _
    obtain ⟨W3, hW3⟩ : ∃ x, ((W2.alloc (.cells #[.string (S dev)] 9)).alloc (.cells #[.slice ao L.length cap] 48)) = x := ⟨_, rfl⟩
    rw [World.size_alloc] at K1
    rw [hW3] at hz3 Bnam1 K1 Bres1 hb23 ⊢
    rw [hz2] at Bnam1 K1
    have HBW1 := Lib.hid (HBW.out.trans (hb23.mono (by omega)))
    have m1 := (hb23.cell (p := ⟨w1.heap.size, 1, none⟩) (show w1.heap.size < W2.heap.size by omega)).trans n1
    have R1 := Lib.hid (show 0 < L.length → ∃ b off, ao = some ⟨b, off, none⟩ ∧ b < w1.heap.size + 1 + 1 + 1 ∧ ∀ j (h : j < L.length), W3.cell? ⟨b, off + j * 3, none⟩ = some (.string (S L[j].1)) ∧ W3.cell? ⟨b, off + j * 3 + 1, none⟩ = some (.string (S L[j].2.1)) ∧ W3.cell? ⟨b, off + j * 3 + 2, none⟩ = some (.string (S L[j].2.2)) from fun h => by
      obtain ⟨b, off, h1, h2, h3⟩ := HC.out h
      have hbb : Below w1.heap.size w1 W3 := hb12.trans (hb23.mono (by omega))
      refine ⟨b, off, h1, by omega, fun j hj => ?_⟩
      obtain ⟨q1, q2, q3⟩ := h3 j hj
      exact ⟨(hbb.cell (p := ⟨b, off + j * 3, none⟩) h2).trans q1, (hbb.cell (p := ⟨b, off + j * 3 + 1, none⟩) h2).trans q2, (hbb.cell (p := ⟨b, off + j * 3 + 2, none⟩) h2).trans q3⟩)
    refine wpIn_rangeFunc_ownH rfl (by omega) (gf := 78) (lb := #[.pointer (some ⟨w1.heap.size + 1 + 1, 0, none⟩)]) rfl trivial (enters_of Tryz.func78 (by kernel_rfl) rfl)
      (back_stops (w1.heap.size + 1 + 1) (w1.heap.size + 1 + 1 + 1) (by omega) ao cap L HV.out (by omega) W3 (by omega) K1.cell hc1 R1.out) belowK_t (belowK_b (by omega)) (Below.refl _ _) (fun _ => rfl)
      (AsI w W3 dev (w1.heap.size + 1)) (AsX w W3 dev) (asI_own w W3 dev (w1.heap.size + 1) (by omega)) (asX_own w W3 dev (by omega) (by omega)) ?h01 (fun (x : Wd) (a' : Act) (W' : World) => ∃ g : Nat, a' = (?ff1 : Wd → Nat → Act) x g ∧ W'.heap[g]? = some (Obj.cells #[.string (S x.1.2.1), .string (S x.1.2.2.1), .string (S x.1.2.2.2)] 47 (0, 0))) ?hAx1 ?assign1 ?body1 ?done1 ?stop1
    case assign1 =>
      intro l pre x W K hI hK
      have hI1 := hI.1
      have hI2 := hI.2
      have hsz := hI2.size
      gi_wp2
      refine hK _ _ ((KeepsOthers.of_below ((Below.refl _ _).alloc (Nat.le_refl _) _)).from _) ((Below.refl _ _).alloc (by omega) _) ⟨⟨hI1.1, hI1.2.1.alloc _, hI1.2.2.alloc _⟩, hI2.alloc hsz _⟩ ⟨W.heap.size, ?_, World.alloc_heap_new W _⟩
      obtain ⟨g, hg⟩ : ∃ g, W.heap.size = g := ⟨_, rfl⟩
      rw [hg]
    case hAx1 =>
      rintro x a' _ X Y row ⟨g, h1, h3⟩ hg hr
      refine ⟨g, h1, (hg.block g (Array.getElem?_eq_some_iff.1 h3).1 (fun e => ?_)).trans h3⟩
      obtain ⟨_, o, ho, hc⟩ := hr g e.symm
      rw [h3] at ho; cases ho; cases hc
    case h01 => exact ⟨⟨fun x h => (by cases h), Bres1, Bnam1⟩, Below.refl _ _⟩
    case body1 =>
      rintro l pre ⟨⟨i, n, v, d⟩, hv⟩ a' W hl ⟨r0, hr0⟩ ⟨⟨hpre, b0, b1⟩, hB⟩ ⟨g, rfl, hg2⟩ hlen
      simp only at hv hg2
      have hgl : g < W.heap.size := (Array.getElem?_eq_some_iff.1 hg2).1
      have e1 : W.cell? ⟨g, 0, none⟩ = some (.string (S n)) := by simp [World.cell?, hg2]
      have e2 : W.cell? ⟨g, 1, none⟩ = some (.string (S v)) := by simp [World.cell?, hg2]
      have e3 : W.cell? ⟨g, 2, none⟩ = some (.string (S d)) := by simp [World.cell?, hg2]
      have d0 := b0.cell
      have f0 := b0.frozen
      have d1 := b1.cell
      have hbl := b0.lt
      obtain ⟨q1, hq1⟩ : ∃ q, (n == contentL) = q := ⟨_, rfl⟩
      obtain ⟨q2, hq2⟩ : ∃ q, (d == dev) = q := ⟨_, rfl⟩
      have HF := Lib.hid (show isFor dev (n, v, d) = (q1 && q2) by unfold isFor; simp only [hq1, hq2])
      skip
      unfold contentL at hq1
      have HI := Lib.hid (show AsI w W3 dev (w1.heap.size + 1) pre W from ⟨⟨hpre, b0, b1⟩, hB⟩)
      have HMM : ∃ m, W.cell? ⟨0, 0, none⟩ = some (.int .i64 m) := by
        obtain ⟨m, hm⟩ := hM
        exact ⟨m, ((HBW1.out.trans (hB.mono (by omega))).cell (p := ⟨0, 0, none⟩) (block_lt_of_cell hm)).trans hm⟩
      have HBB := Lib.hid (show Below w.heap.size w W from HBW1.out.trans (hB.mono (by omega)))
      have hkeep : (q1 && q2) = false → AsI w W3 dev (w1.heap.size + 1) (pre ++ [⟨(i, n, v, d), hv⟩]) W := fun h => ⟨⟨fun x hx => by
        rw [wvals_snoc] at hx
        rcases List.mem_append.1 hx with hx | hx
        · exact HI.out.1.1 x hx
        · obtain rfl : x = (n, v, d) := by simpa using hx
          exact HF.out.trans h, HI.out.1.2.1, HI.out.1.2.2⟩, HI.out.2⟩
      have HK := Lib.hid hkeep
      clear hpre b0 b1 hB hkeep hg2 hr0
      cases q1 with
      | false =>
        gi_wp2
        exact ⟨KeepsFrom.refl _ _, Below.refl _ _, HK.out rfl⟩
      | true =>
        cases q2 with
        | false =>
          gi_wp2
          exact ⟨KeepsFrom.refl _ _, Below.refl _ _, HK.out rfl⟩
        | true =>
          have SP := Lib.hid (split1_S v 32 hv W HMM)
          have CT := Lib.hid (fun W' h => contains_at W.heap.size (Lib.split v [32]) (by have := split_count v 32; omega) esiL W' h)
          unfold esiL at CT
          gi_wp2_with (first
            | (gi_at_call 52; refine (calls_round SP.out).mono ?_; rintro e w5 ⟨rfl, hb5, hz5, hcell5⟩; have d5 := (hb5.cell (p := ⟨w.heap.size, 0, none⟩) hbl).trans d0; have f5 := (hb5.frozen (p := ⟨w.heap.size, 0, none⟩) hbl).trans f0; have HB5 := Lib.hid hb5; have CT5 := Lib.hid (CT.out w5 hcell5); have hbl5 : w.heap.size < w5.heap.size := (by omega); clear hb5 hcell5)
            | (gi_at_call 51; refine (calls_round CT5.out).mono ?_; rintro e w6 ⟨rfl, hw6⟩; obtain rfl := hw6.symm))
          refine ⟨((KeepsOthers.of_below HB5.out).trans (KeepsOthers.setCell _ _ _)).from _, ⟨rfl, wvals pre, (n, v, d), wvals_snoc _ _, HI.out.1.1, HF.out, ?_⟩, (HBB.out.trans (HB5.out.mono (by omega))).setCell (p := ⟨w.heap.size, 0, none⟩) (Nat.le_refl _) _, (((KeepsOthers.of_below HI.out.2).trans (KeepsOthers.of_below HB5.out)).trans (KeepsOthers.setCell _ _ _)).from 0⟩
          exact Boxed.set _ (box_under HI.out.1.2.1 HB5.out)
    case done1 =>
      rintro D1 ys W1 hD1 hS1 ⟨⟨hall1, b01, b11⟩, hB1⟩ hK1
      have HN1 := Lib.hid (last_none hS1 hall1)
      have p1 := (hB1.cell (p := ⟨w1.heap.size, 1, none⟩) (show w1.heap.size < W3.heap.size by omega)).trans m1
      have hsz1 := hB1.size
      gi_wp2
      rw [roundsIn_succ]
      gi_wp2_with (gi_at_call 50; refine (callsIn_wide.2 (BK.out _)).mono ?_; rintro e w' ⟨rfl, rfl⟩)
      have hz5 : ((W1.alloc (.cells #[.string (S [])] 9)).alloc (.cells #[.slice ao L.length cap] 48)).heap.size = W1.heap.size + 1 + 1 := by simp
      have Bnam2 := (Boxed.new W1 9 (.string (S []))).alloc (.cells #[.slice ao L.length cap] 48)
      have K2 := Boxed.new (W1.alloc (.cells #[.string (S [])] 9)) 48 (.slice ao L.length cap)
      have Bres2 := (b01.alloc (.cells #[.string (S [])] 9)).alloc (.cells #[.slice ao L.length cap] 48)
      have hb15 : Below W1.heap.size W1 ((W1.alloc (.cells #[.string (S [])] 9)).alloc (.cells #[.slice ao L.length cap] 48)) := ((Below.refl _ _).alloc (Nat.le_refl _) _).alloc (by simp) _
      obtain ⟨W5, hW5⟩ : ∃ x, ((W1.alloc (.cells #[.string (S [])] 9)).alloc (.cells #[.slice ao L.length cap] 48)) = x := ⟨_, rfl⟩
      rw [World.size_alloc] at K2
      rw [hW5] at hz5 Bnam2 K2 Bres2 hb15 ⊢
      have hb35 := hB1.trans (hb15.mono hsz1)
      have HBW2 := Lib.hid (HBW1.out.trans (hb35.mono (by omega)))
      have R2 := Lib.hid (show 0 < L.length → ∃ b off, ao = some ⟨b, off, none⟩ ∧ b < W1.heap.size + 1 + 1 ∧ ∀ j (h : j < L.length), W5.cell? ⟨b, off + j * 3, none⟩ = some (.string (S L[j].1)) ∧ W5.cell? ⟨b, off + j * 3 + 1, none⟩ = some (.string (S L[j].2.1)) ∧ W5.cell? ⟨b, off + j * 3 + 2, none⟩ = some (.string (S L[j].2.2)) from fun h => by
        obtain ⟨b, off, h1, h2, h3⟩ := R1.out h
        have h2' : b < W3.heap.size := by omega
        refine ⟨b, off, h1, by omega, fun j hj => ?_⟩
        obtain ⟨q1, q2, q3⟩ := h3 j hj
        exact ⟨(hb35.cell (p := ⟨b, off + j * 3, none⟩) h2').trans q1, (hb35.cell (p := ⟨b, off + j * 3 + 1, none⟩) h2').trans q2, (hb35.cell (p := ⟨b, off + j * 3 + 2, none⟩) h2').trans q3⟩)
      have hD1lt0 := (Array.getElem?_eq_some_iff.1 hK1).1
      have hK1' := (hb15.block D1 hD1lt0).trans hK1
      have hD1lt : D1 < W5.heap.size := by omega
      refine wpIn_rangeFunc_ownH rfl (by omega) (gf := 78) (lb := #[.pointer (some ⟨W1.heap.size + 1, 0, none⟩)]) rfl trivial (enters_of Tryz.func78 (by kernel_rfl) rfl)
        (back_stops (W1.heap.size + 1) (W1.heap.size + 1 + 1) (by omega) ao cap L HV.out (by omega) W5 (by omega) K2.cell hc1 R2.out) belowK_t (belowK_b (by omega)) (Below.refl _ _) (fun _ => rfl)
        (AsI w W5 [] (W1.heap.size)) (AsX w W5 []) (asI_own w W5 [] (W1.heap.size) (by omega)) (asX_own w W5 [] (by omega) (by omega)) ?h02 (fun (x : Wd) (a' : Act) (W' : World) => ∃ g : Nat, a' = (?ff2 : Wd → Nat → Act) x g ∧ W'.heap[g]? = some (Obj.cells #[.string (S x.1.2.1), .string (S x.1.2.2.1), .string (S x.1.2.2.2)] 47 (0, 0))) ?hAx2 ?assign2 ?body2 ?done2 ?stop2
      case assign2 =>
        intro l pre x W K hI hK
        have hI1 := hI.1
        have hI2 := hI.2
        have hsz := hI2.size
        gi_wp2
        refine hK _ _ ((KeepsOthers.of_below ((Below.refl _ _).alloc (Nat.le_refl _) _)).from _) ((Below.refl _ _).alloc (by omega) _) ⟨⟨hI1.1, hI1.2.1.alloc _, hI1.2.2.alloc _⟩, hI2.alloc hsz _⟩ ⟨W.heap.size, ?_, World.alloc_heap_new W _⟩
        obtain ⟨g, hg⟩ : ∃ g, W.heap.size = g := ⟨_, rfl⟩
        rw [hg]
      case hAx2 =>
        rintro x a' _ X Y row ⟨g, h1, h3⟩ hg hr
        refine ⟨g, h1, (hg.block g (Array.getElem?_eq_some_iff.1 h3).1 (fun e => ?_)).trans h3⟩
        obtain ⟨_, o, ho, hc⟩ := hr g e.symm
        rw [h3] at ho; cases ho; cases hc
      case h02 => exact ⟨⟨fun x h => (by cases h), Bres2, Bnam2⟩, Below.refl _ _⟩
      case body2 =>
        rintro l pre ⟨⟨i, n, v, d⟩, hv⟩ a' W hl ⟨r0, hr0⟩ ⟨⟨hpre, b0, b1⟩, hB⟩ ⟨g, rfl, hg2⟩ hlen
        simp only at hv hg2
        have hgl : g < W.heap.size := (Array.getElem?_eq_some_iff.1 hg2).1
        have e1 : W.cell? ⟨g, 0, none⟩ = some (.string (S n)) := by simp [World.cell?, hg2]
        have e2 : W.cell? ⟨g, 1, none⟩ = some (.string (S v)) := by simp [World.cell?, hg2]
        have e3 : W.cell? ⟨g, 2, none⟩ = some (.string (S d)) := by simp [World.cell?, hg2]
        have d0 := b0.cell
        have f0 := b0.frozen
        have d1 := b1.cell
        have hbl := b0.lt
        obtain ⟨q1, hq1⟩ : ∃ q, (n == contentL) = q := ⟨_, rfl⟩
        obtain ⟨q2, hq2⟩ : ∃ q, (d == []) = q := ⟨_, rfl⟩
        have HF := Lib.hid (show isFor [] (n, v, d) = (q1 && q2) by unfold isFor; simp only [hq1, hq2])
        have hq3 : d.isEmpty = q2 := by rw [← hq2]; cases d <;> rfl
        unfold contentL at hq1
        have HI := Lib.hid (show AsI w W5 [] (W1.heap.size) pre W from ⟨⟨hpre, b0, b1⟩, hB⟩)
        have HMM : ∃ m, W.cell? ⟨0, 0, none⟩ = some (.int .i64 m) := by
          obtain ⟨m, hm⟩ := hM
          exact ⟨m, ((HBW2.out.trans (hB.mono (by omega))).cell (p := ⟨0, 0, none⟩) (block_lt_of_cell hm)).trans hm⟩
        have HBB := Lib.hid (show Below w.heap.size w W from HBW2.out.trans (hB.mono (by omega)))
        have hkeep : (q1 && q2) = false → AsI w W5 [] (W1.heap.size) (pre ++ [⟨(i, n, v, d), hv⟩]) W := fun h => ⟨⟨fun x hx => by
          rw [wvals_snoc] at hx
          rcases List.mem_append.1 hx with hx | hx
          · exact HI.out.1.1 x hx
          · obtain rfl : x = (n, v, d) := by simpa using hx
            exact HF.out.trans h, HI.out.1.2.1, HI.out.1.2.2⟩, HI.out.2⟩
        have HK := Lib.hid hkeep
        clear hpre b0 b1 hB hkeep hg2 hr0
        cases q1 with
        | false =>
          gi_wp2
          exact ⟨KeepsFrom.refl _ _, Below.refl _ _, HK.out rfl⟩
        | true =>
          cases q2 with
          | false =>
            gi_wp2
            exact ⟨KeepsFrom.refl _ _, Below.refl _ _, HK.out rfl⟩
          | true =>
            have SP := Lib.hid (split1_S v 32 hv W HMM)
            have CT := Lib.hid (fun W' h => contains_at W.heap.size (Lib.split v [32]) (by have := split_count v 32; omega) esiL W' h)
            unfold esiL at CT
            gi_wp2_with (first
              | (gi_at_call 52; refine (calls_round SP.out).mono ?_; rintro e w5 ⟨rfl, hb5, hz5, hcell5⟩; have d5 := (hb5.cell (p := ⟨w.heap.size, 0, none⟩) hbl).trans d0; have f5 := (hb5.frozen (p := ⟨w.heap.size, 0, none⟩) hbl).trans f0; have HB5 := Lib.hid hb5; have CT5 := Lib.hid (CT.out w5 hcell5); have hbl5 : w.heap.size < w5.heap.size := (by omega); clear hb5 hcell5)
              | (gi_at_call 51; refine (calls_round CT5.out).mono ?_; rintro e w6 ⟨rfl, hw6⟩; obtain rfl := hw6.symm))
            refine ⟨((KeepsOthers.of_below HB5.out).trans (KeepsOthers.setCell _ _ _)).from _, ⟨rfl, wvals pre, (n, v, d), wvals_snoc _ _, HI.out.1.1, HF.out, ?_⟩, (HBB.out.trans (HB5.out.mono (by omega))).setCell (p := ⟨w.heap.size, 0, none⟩) (Nat.le_refl _) _, (((KeepsOthers.of_below HI.out.2).trans (KeepsOthers.of_below HB5.out)).trans (KeepsOthers.setCell _ _ _)).from 0⟩
            exact Boxed.set _ (box_under HI.out.1.2.1 HB5.out)
      case done2 =>
        rintro D2 ys W2 hD2 hS2 ⟨⟨hall2, b02, b12⟩, hB2⟩ hK2
        have HA := Lib.hid (show asksW L dev = false by unfold asksW; rw [HN1.out]; simp only; rw [last_none hS2 hall2])
        have d0 := b02.cell
        have f0 := b02.frozen
        gi_wp2
        rw [roundsIn_succ]
        gi_wp2
        have hsz2 := hB2.size
        have hlt0 := b02.lt
        have hK2a := (KeepsOthers.setCell W2 ⟨w.heap.size, 0, none⟩ (.bool false)).same D2 _ hK2 rfl
        have hK1b := (KeepsOthers.setCell W2 ⟨w.heap.size, 0, none⟩ (.bool false)).same D1 _ ((hB2.block D1 hD1lt).trans hK1') rfl
        refine ⟨by simp, .inl ⟨_, _, rfl, run_takeDeferred hK2a, ?_⟩⟩
        have hK1c : ((W2.setCell ⟨w.heap.size, 0, none⟩ (.bool false)).putObj D2 (.deferred none)).heap[D1]? = some (.deferred (some [])) := (World.putObj_heap_other (by omega)).trans hK1b
        refine ⟨by simp, .inl ⟨_, _, rfl, run_takeDeferred hK1c, ?_⟩⟩
        rw [HA.out]
        have q0 := cell_kept (Boxed.set (.bool false) b02).cell (grownBy_putObj' _ D2 (.deferred none)) (fun r e => by cases e; exact ⟨_, hK2a, rfl⟩)
        have q1 := cell_kept q0 (grownBy_putObj' _ D1 (.deferred none)) (fun r e => by cases e; exact ⟨_, hK1c, rfl⟩)
        have hBw : Below w.heap.size w (W2.setCell ⟨w.heap.size, 0, none⟩ (.bool false)) := (HBW2.out.trans (hB2.mono (by omega))).setCell (p := ⟨w.heap.size, 0, none⟩) (Nat.le_refl _) _
        refine ⟨.bool false, ?_, rfl, (hBw.trans (belowK_b (w := w) (Nat.le_refl _) _ D2 _ _ (by omega) hK2a rfl rfl)).trans (belowK_b (w := w) (Nat.le_refl _) _ D1 _ _ (by omega) hK1c rfl rfl)⟩
        simp [results, Tryz.f27, go_sem, q1]
      case stop2 =>
        rintro D2 c pre W hD hpre ⟨⟨rfl, p, x, hp, hno, hyes, b0⟩, hB, hB5⟩ hK
        have HA := Lib.hid (show asksW L dev = hasEsi x.2.1 by unfold asksW; rw [HN1.out]; simp only; rw [last_found hpre hp hno hyes])
        gi_wp2
        have hK1b := hB5.same D1 _ (Nat.zero_le _) hK1' rfl
        refine ⟨by simp, .inl ⟨_, _, rfl, run_takeDeferred hK, ?_⟩⟩
        have hK1c : (W.putObj D2 (.deferred none)).heap[D1]? = some (.deferred (some [])) := (World.putObj_heap_other (by omega)).trans hK1b
        refine ⟨by simp, .inl ⟨_, _, rfl, run_takeDeferred hK1c, ?_⟩⟩
        rw [HA.out]
        have q0 := cell_kept b0.cell (grownBy_putObj' _ D2 (.deferred none)) (fun r e => by cases e; exact ⟨_, hK, rfl⟩)
        have q1 := cell_kept q0 (grownBy_putObj' _ D1 (.deferred none)) (fun r e => by cases e; exact ⟨_, hK1c, rfl⟩)
        refine ⟨.bool (hasEsi x.2.1), ?_, rfl, (hB.trans (belowK_b (w := w) (Nat.le_refl _) W D2 _ _ (by omega) hK rfl rfl)).trans (belowK_b (w := w) (Nat.le_refl _) _ D1 _ _ (by omega) hK1c rfl rfl)⟩
        simp [results, Tryz.f27, go_sem, q1]
    case stop1 =>
      rintro D1 c pre W hD hpre ⟨⟨rfl, p, x, hp, hno, hyes, b0⟩, hB, hB5⟩ hK
      have HA := Lib.hid (show asksW L dev = hasEsi x.2.1 by unfold asksW; rw [last_found hpre hp hno hyes])
      gi_wp2
      refine ⟨by simp, .inl ⟨_, _, rfl, run_takeDeferred hK, ?_⟩⟩
      rw [HA.out]
      have q0 := cell_kept b0.cell (grownBy_putObj' _ D1 (.deferred none)) (fun r e => by cases e; exact ⟨_, hK, rfl⟩)
      refine ⟨.bool (hasEsi x.2.1), ?_, rfl, hB.trans (belowK_b (w := w) (Nat.le_refl _) W D1 _ _ (by omega) hK rfl rfl)⟩
      simp [results, Tryz.f27, go_sem, q0]
end Go.Proofs.YtcfihoniocamaaaGreatDoor
/-! SurSame -/
namespace Go.Proofs.YtcfihoniocamaaaGreatDoor
open Go.RowKit Go.Sort Go.Shelf
set_option linter.unusedVariables false

end Go.Proofs.YtcfihoniocamaaaGreatDoor
/-! SurLaw -/
namespace Go.Proofs.YtcfihoniocamaaaGreatDoor
open Go.RowKit Go.Sort Go.Shelf
set_option linter.unusedVariables false

theorem mlen_later {w : World} (h : ∃ m, w.cell? ⟨0, 0, none⟩ = some (.int .i64 m)) (W : World) (hb : Below w.heap.size w W) : ∃ m, W.cell? ⟨0, 0, none⟩ = some (.int .i64 m) := by
  obtain ⟨m, hm⟩ := h
  exact ⟨m, (hb.cell (p := ⟨0, 0, none⟩) (block_lt_of_cell hm)).trans hm⟩
theorem unqG_len (s : List UInt8) : ∀ (b : Bool) (o : List UInt8), unqG b s = some o → o.length ≤ s.length := by
  induction s with
  | nil => intro b o h; cases b <;> simp [unqG] at h; subst h; simp
  | cons c t ih =>
    intro b o h
    cases b with
    | true =>
      simp only [unqG] at h
      obtain ⟨o', ho, rfl⟩ := Option.map_eq_some_iff.1 h
      have := ih _ _ ho
      simp; omega
    | false =>
      simp only [unqG] at h
      split at h
      · cases h
      · split at h
        · have := ih _ _ h; simp; omega
        · obtain ⟨o', ho, rfl⟩ := Option.map_eq_some_iff.1 h
          have := ih _ _ ho
          simp; omega
theorem unqL_short (s : List UInt8) : (unqL s).length ≤ s.length := by
  unfold unqL unqR
  split
  · simp
  · cases h : unqG false ((s.take (s.length - 1)).drop 1) with
    | none => simp
    | some o =>
      have := unqG_len _ _ _ h
      simp at this ⊢
      omega
theorem valueW_len {s v : List UInt8} (h : valueW s = some v) : v.length ≤ s.length := by
  unfold valueW at h
  split at h
  · injection h with h
    rw [← h]
    exact unqL_short s
  · split at h
    · injection h with h; rw [← h]; exact Nat.le_refl _
    · cases h
theorem word_short {p : List UInt8} {x : Wrd} (h : wordW p = some x) : x.2.1.length ≤ p.length := by
  rw [wordW_rest] at h
  cases h59 : splitL 59 p with
  | none => rw [h59] at h; cases h
  | some l =>
    rw [h59] at h
    obtain ⟨b1, b2, b3⟩ := split_bound h59
    simp only at h
    split at h
    · cases h
    · obtain ⟨y, hy, rfl⟩ := Option.map_eq_some_iff.1 h
      have hl : (l.getD 0 []).length ≤ p.length := by
        cases l with
        | nil => exact absurd rfl b3
        | cons a t => exact b1 a (by simp)
      unfold restW at hy
      cases h61 : splitL 61 (l.getD 0 []) with
      | none => rw [h61] at hy; cases hy
      | some m =>
        rw [h61] at hy
        obtain ⟨c1, c2, c3⟩ := split_bound h61
        simp only at hy
        split at hy
        · cases hy
        · split at hy
          · rename_i h2
            obtain ⟨v, hv, rfl⟩ := Option.map_eq_some_iff.1 hy
            have := valueW_len hv
            match m, h2 with
            | [a, b], _ =>
              have := c1 b (by simp)
              simp only [List.getD_cons_succ, List.getD_cons_zero] at *
              omega
          · injection hy with hy; subst hy; simp
theorem readParts_short {L : List (List UInt8)} : ∀ {o : List Wrd} {n : Nat}, readParts L = some o → (∀ x ∈ L, x.length ≤ n) → ∀ x ∈ o, x.2.1.length ≤ n := by
  induction L with
  | nil => intro o n h _ x hx; simp [readParts] at h; subst h; cases hx
  | cons p r ih =>
    intro o n h hn x hx
    rw [readParts_cons] at h
    split at h
    · exact ih h (fun y hy => hn y (by simp [hy])) x hx
    · split at h
      · cases h
      · rename_i w hw
        obtain ⟨o', ho, rfl⟩ := Option.map_eq_some_iff.1 h
        rcases List.mem_cons.1 hx with rfl | hx
        · exact Nat.le_trans (word_short hw) (hn p (by simp))
        · exact ih ho (fun y hy => hn y (by simp [hy])) x hx
theorem readV_short (s : List UInt8) : ∀ x ∈ readV s, x.2.1.length ≤ s.length := by
  unfold readV readL
  cases h : splitL 44 s with
  | none => intro x hx; cases hx
  | some ps =>
    simp only
    cases hr : readParts ps with
    | none => intro x hx; cases hx
    | some o => exact readParts_short hr (split_bound h).1

theorem alive_a : asksL [109, 97, 120, 45, 97, 103, 101, 61, 54, 48, 44, 32, 99, 111, 110, 116, 101, 110, 116, 61, 34, 69, 83, 73, 47, 49, 46, 48, 34] [97] = true := by decide +kernel
theorem alive_b : asksL [99, 111, 110, 116, 101, 110, 116, 61, 120] [97] = false := by decide +kernel
set_option maxHeartbeats 800000 in
theorem sur_alive (w : World) (hM : ∃ m, w.cell? ⟨0, 0, none⟩ = some (.int .i64 m)) : Calls Tryz.prog 23 #[] w fun e w' => e = .returned (.bool true) ∧ Below w.heap.size w w' := by
  have C1 := Lib.hid (fun W h => surAsks [109, 97, 120, 45, 97, 103, 101, 61, 54, 48, 44, 32, 99, 111, 110, 116, 101, 110, 116, 61, 34, 69, 83, 73, 47, 49, 46, 48, 34] [97] (by decide) (fun x hx => Nat.le_trans (readV_short _ x hx) (by decide)) W h)
  have C2 := Lib.hid (fun W h => surAsks [99, 111, 110, 116, 101, 110, 116, 61, 120] [97] (by decide) (fun x hx => Nat.le_trans (readV_short _ x hx) (by decide)) W h)
  rw [alive_a] at C1
  rw [alive_b] at C2
  have HM := Lib.hid (mlen_later hM)
  clear hM
  go_enter Tryz.func23, Tryz.ntmps23
  go_wp2_with (first
    | (go_at_call 27; (with_reducible refine Calls.mono (C1.out _ (HM.out _ (Below.refl _ _))) ?_); rintro e w1 ⟨rfl, hb1⟩; have HB1 := Lib.hid hb1; clear hb1)
    | (go_at_call 27; (with_reducible refine Calls.mono (C2.out _ (HM.out _ HB1.out)) ?_); rintro e w2 ⟨rfl, hb2⟩; have HB2 := Lib.hid (HB1.out.trans (hb2.mono HB1.out.size)); clear hb2)
    | fail)
  go_ret
  exact ⟨ret_bool (by simp), HB2.out⟩

theorem sur_short (l : List UInt8) (hl : l.length ≤ 9223372036854775807) (w : World) : Calls Tryz.prog 20 #[.string (S l)] w fun e w' => e = .returned (.string (S (l.take 400))) ∧ w' = w := by
  obtain ⟨m, hm, hml⟩ : ∃ m : Nat, min (l.length : Int) 400 = m ∧ m ≤ l.length := ⟨min l.length 400, by omega, by omega⟩
  have e : l.take 400 = l.take m := by
    by_cases h : 400 ≤ l.length
    · obtain rfl : m = 400 := by omega
      rfl
    · obtain rfl : m = l.length := by omega
      rw [List.take_length, List.take_of_length_le (by omega)]
  rw [e]
  clear e
  go_enter Tryz.func20, Tryz.ntmps20
  go_wp2
  go_ret
  exact ⟨by simp, rfl⟩
end Go.Proofs.YtcfihoniocamaaaGreatDoor
