/- strings.IndexAny at the two bytes "/?", on any bytes. What any text is as an address: in plain words. -/
import Derived.Test.YtgjemgilanhdiaaDoorRt14
import Derived.Test.YtgjemgilanhdiaaDoorRt2
import Derived.Lib.IndexAny
import Derived.Test.YtgjemgilanhdiaaDoorRt9
import Derived.Test.YtgjemgilanhdiaaDoorRt13
namespace Go.Proofs.YtgjemgilanhdiaaDoor
open Go.RowKit
set_option linter.unusedVariables false

/-- One of the two bytes? -/
def slashAsk (c : UInt8) : Bool := ([47, 63] : List UInt8).contains c
theorem rune_idx (c : UInt8) : (slashAsk c = true → 0 ≤ Lib.indexByte [47, 63] c) ∧ (slashAsk c = false → Lib.indexByte [47, 63] c = -1) := by
  have h := all_bytes (p := fun c => (slashAsk c = true → 0 ≤ Lib.indexByte [47, 63] c) ∧ (slashAsk c = false → Lib.indexByte [47, 63] c = -1)) (by decide +kernel)
  exact h c
theorem decode_low (l : List UInt8) (i : Nat) (h : i < l.length) (hb : (l[i]).toNat < 128) : Utf8.decode (S l) i = ((l[i]).toNat, 1) := by
  have hs : i < (S l).size := by rw [S_size]; exact h
  have e : ((S l)[i]'hs).toNat = (l[i]).toNat := rfl
  rw [decode_ascii (S l) i hs (by rw [e]; exact hb)]
  rfl
theorem noAny_high {l : List UInt8} {i wd : Nat} (h : Lib.NoAny l [47, 63] i) (hh : ∀ k (hk : i + k < l.length), k < wd → 128 ≤ (l[i + k]).toNat) : Lib.NoAny l [47, 63] (i + wd) := by
  intro j b hj hb
  rcases Nat.lt_or_ge j i with h1 | h1
  · exact h j b h1 hb
  · obtain ⟨hjl, hjb⟩ := List.getElem?_eq_some_iff.1 hb
    obtain ⟨k, rfl⟩ : ∃ k, j = i + k := ⟨j - i, by omega⟩
    have := hh k hjl (by omega)
    rw [hjb] at this
    cases hc : ([47, 63] : List UInt8).contains b with
    | false => rfl
    | true =>
      simp at hc
      rcases hc with rfl | rfl
      · exact absurd this (by decide)
      · exact absurd this (by decide)

set_option maxHeartbeats 3200000 in
set_option maxRecDepth 1000000 in
theorem indexAny_short (l : List UInt8) (h8 : l.length ≤ 8) (w : World) : Calls Tryd.prog 34 #[.string (S l), .string (S [47, 63])] w fun e w' => e = .returned (.int .i64 (Lib.indexAny l [47, 63])) ∧ Below w.heap.size w w' := by
  have hs0 : (w.iter (S l) 0).heap[w.heap.size]? = some (.stringIter (S l) 0) := World.iter_heap _ _ _
  have SU := Lib.hid (fun W => show Calls Tryd.prog 40 #[.int .i64 l.length] W fun e w' => e = .returned (.bool false) ∧ w' = W from (Tryd.strings_shouldUseASCIISet (l.length : Int) W).mono fun e w' ⟨h1, h2⟩ => ⟨h1.trans (by rw [decide_eq_false (by omega)]), h2⟩)
  obtain ⟨r, hr⟩ : ∃ r, Lib.indexAny l [47, 63] = r := ⟨_, rfl⟩
  rw [hr]
  have HR := Lib.hid hr
  clear hr
  go_enter Tryd.func34, Tryd.ntmps34
  go_wp2_with (go_at_call 40; refine (SU.out _).mono ?_; rintro e w' ⟨rfl, rfl⟩)
  try simp only [mk_S]
  go_loopw [] (fun wr => ∃ pos : Nat, pos ≤ l.length ∧ wr.heap[w'.heap.size]? = some (.stringIter (S l) pos) ∧ Lib.NoAny l [47, 63] pos ∧ Below w'.heap.size w' wr) (fun wr => l.length - iterPos wr w'.heap.size)
  case atStart => exact ⟨0, by omega, hs0, Lib.NoAny.zero _ _, iter_below _ _ (Below.refl _ _) (Nat.le_refl _)⟩
  case round =>
    obtain ⟨pos, hp, hW, hno, hB⟩ := hrel
    have HNO := Lib.hid hno
    clear hno
    have hip := iterPos_at hW
    by_cases h2 : pos < l.length
    · by_cases hb : (l[pos]).toNat < 128
      · have hd := decode_low l pos h2 hb
        obtain ⟨c, hc⟩ : ∃ c, l[pos] = c := ⟨_, rfl⟩
        rw [hc] at hb hd
        have HC := Lib.hid hc
        clear hc
        have hn := fun ty => run_next_at (P := Tryd.prog) wr w'.heap.size (S l) pos c.toNat 1 ty hW (by rw [S_size]; exact h2) hd
        have IR := Lib.hid (fun W => show Calls Tryd.prog 39 #[.string (S [47, 63]), .int .i32 (c.toNat : Int)] W fun e w' => e = .returned (.int .i64 (Lib.indexByte [47, 63] c)) ∧ w' = W from (Tryd.strings_IndexRune_ascii (S [47, 63]) (c.toNat : Int) W (by omega) (by omega)).mono fun e w' ⟨h1, h2⟩ => ⟨h1.trans (by rw [S_data]; congr; simp), h2⟩)
        obtain ⟨i, hi⟩ : ∃ i, Lib.indexByte [47, 63] c = i := ⟨_, rfl⟩
        have HI := Lib.hid (rune_idx c)
        rw [hi] at IR HI
        clear hi hd
        by_cases hit : slashAsk c = true
        · have hi0 := HI.out.1 hit
          have HE := Lib.hid (Lib.indexAny_hit HNO.out (show l[pos]? = some c by rw [List.getElem?_eq_getElem h2, HC.out]) hit)
          go_wp2_with (go_at_call 39; refine (IR.out _).mono ?_; rintro e w2 ⟨rfl, rfl⟩)
          go_ret
          exact ⟨ret_int (by rw [← HR.out, HE.out]), setIter_below _ _ hB (Nat.le_refl _)⟩
        · have hit2 : slashAsk c = false := by simpa using hit
          have hi0 := HI.out.2 hit2
          subst hi0
          go_wp2_with (go_at_call 39; refine (IR.out _).mono ?_; rintro e w2 ⟨rfl, rfl⟩)
          go_round
          case rel => exact ⟨pos + 1, by omega, setIter_at hW, HNO.out.succ (show l[pos]? = some c by rw [List.getElem?_eq_getElem h2, HC.out]) hit2, setIter_below _ _ hB (Nat.le_refl _)⟩
          case measure => rw [hip, iterPos_at (setIter_at hW)]; omega
      · obtain ⟨c, wd, hd, hc1, hc2, hc3, hc4, hc5⟩ := decode_high l pos h2 (by omega)
        have hn := fun ty => run_next_at (P := Tryd.prog) wr w'.heap.size (S l) pos c wd ty hW (by rw [S_size]; exact h2) hd
        have IR := Lib.hid (fun W => indexRune_high c hc1 hc2 W)
        have HN2 := Lib.hid (noAny_high HNO.out hc5)
        clear hd hc1 hc2 hc5 hb
        go_wp2_with fail
        refine Calls.mono (IR.out _) ?_
        rintro e w3 ⟨rfl, hb3⟩
        have hz3 := hb3.size
        have hW3 : w3.heap[w'.heap.size]? = some (.stringIter (S l) (pos + wd)) := by
          rw [hb3.block _ (by have := (Array.getElem?_eq_some_iff.1 (setIter_at hW (pos' := pos + wd))).1; exact this)]
          exact setIter_at hW
        have hB3 : Below w'.heap.size w' w3 := (setIter_below (S l) (pos + wd) hB (Nat.le_refl _)).trans (hb3.mono (by have := hB.size; simp [World.setIter]; omega))
        go_wp2
        go_round
        case rel => exact ⟨pos + wd, hc4, hW3, HN2.out, hB3⟩
        case measure => rw [hip, iterPos_at hW3]; omega
    · obtain rfl : pos = l.length := by omega
      have hn := fun ty => run_next_over (P := Tryd.prog) wr w'.heap.size (S l) l.length ty hW (by rw [S_size]; omega)
      have HE := Lib.hid (Lib.indexAny_none HNO.out)
      go_wp2
      go_ret
      exact ⟨ret_int (by rw [← HR.out, HE.out]), hB⟩

theorem indexAny2 (l : List UInt8) (hl : l.length ≤ 1000000) (w : World) : Calls Tryd.prog 34 #[.string (S l), .string (S [47, 63])] w fun e w' => e = .returned (.int .i64 (Lib.indexAny l [47, 63])) ∧ Below w.heap.size w w' := by
  by_cases h8 : l.length ≤ 8
  · exact indexAny_short l h8 w
  · refine (Tryd.strings_IndexAny_long (fun W => by kernel_rfl) (S l) (S [47, 63]) w (by rw [S_size]; decide) (by rw [S_size]; omega) (by rw [S_size]; omega) (by rw [S_size]; decide) (fun j b hb => by
      rw [S_data] at hb
      have := List.mem_of_getElem? hb
      simp at this
      rcases this with rfl | rfl <;> decide)).mono fun e w' ⟨h1, h2⟩ => ⟨h1.trans (by rw [S_data, S_data]), ?_⟩
    subst h2
    exact ((Below.refl _ _).alloc (Nat.le_refl _) _).alloc (by simp) _
end Go.Proofs.YtgjemgilanhdiaaDoor
namespace Go.Proofs.YtgjemgilanhdiaaDoor
open Go.RowKit
set_option linter.unusedVariables false

theorem indexAny_lt (l chars : List UInt8) : Lib.indexAny l chars < (l.length : Int) := by
  induction l with
  | nil => show (-1 : Int) < _; simp
  | cons b l ih =>
    unfold Lib.indexAny
    split
    · simp
    · split
      · simp; omega
      · simp; omega
theorem cut1_len (l : List UInt8) (c : UInt8) : (cut1 l c).1.length ≤ l.length ∧ (cut1 l c).2.1.length ≤ l.length := by
  unfold cut1
  split
  · simp; omega
  · simp
theorem lower_http : lower httpL = httpL := by decide

/-- It begins as an address with its host. -/
def httpB (s : List UInt8) : Bool := decide (7 ≤ s.length) && (lower (s.take 7) == httpL)
/-- Where the host with its port ends. -/
def endOf (t : List UInt8) : Nat := if Lib.indexAny t [47, 63] < 0 then t.length else (Lib.indexAny t [47, 63]).toNat
/-- What stands behind it; a slash, if no path is there. -/
def tailOf (t : List UInt8) : List UInt8 := if t.drop (endOf t) = [] ∨ bAt (t.drop (endOf t)) 0 = 63 then 47 :: t.drop (endOf t) else t.drop (endOf t)
def absOf (t : List UInt8) : UU := ⟨true, placeH (t.take (endOf t)), placeN (t.take (endOf t)), (cut1 (tailOf t) 63).1, (cut1 (tailOf t) 63).2.2, (cut1 (tailOf t) 63).2.1⟩
def relOf (s : List UInt8) : UU := ⟨false, [], 0, (cut1 s 63).1, (cut1 s 63).2.2, (cut1 s 63).2.1⟩
def parseL (s : List UInt8) : UU × Int :=
  if 500 < s.length then (UU.nil, 2)
  else if httpB s then (if placeB ((s.drop 7).take (endOf (s.drop 7))) && (absOf (s.drop 7)).ok then (absOf (s.drop 7), 0) else (UU.nil, 20))
  else if (relOf s).ok then (relOf s, 0) else (UU.nil, 20)

theorem endOf_le (t : List UInt8) : endOf t ≤ t.length := by
  unfold endOf
  have := indexAny_lt t [47, 63]
  split <;> omega
theorem tailOf_len (t : List UInt8) : (tailOf t).length ≤ t.length + 1 := by
  unfold tailOf
  split <;> simp <;> omega
theorem placeH_len (s : List UInt8) : (placeH s).length ≤ s.length := by
  unfold placeH
  have := lower_len s
  split
  · omega
  · rw [List.length_take]; omega
theorem absOf_mid (t : List UInt8) (h : t.length ≤ 500) : (absOf t).mid := by
  have h1 := tailOf_len t
  obtain ⟨h2, h3⟩ := cut1_len (tailOf t) 63
  have h4 := placeH_len (t.take (endOf t))
  rw [List.length_take] at h4
  exact ⟨by show (placeH _).length ≤ _; omega, by show (cut1 _ _).1.length ≤ _; omega, by show (cut1 _ _).2.1.length ≤ _; omega⟩
theorem relOf_mid (s : List UInt8) (h : s.length ≤ 500) : (relOf s).mid := by
  obtain ⟨h2, h3⟩ := cut1_len s 63
  exact ⟨by show (0 : Nat) ≤ _; omega, by show (cut1 _ _).1.length ≤ _; omega, by show (cut1 _ _).2.1.length ≤ _; omega⟩
end Go.Proofs.YtgjemgilanhdiaaDoor
