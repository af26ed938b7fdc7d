/- The document's answer for numbers: the walks of its functions, and that they say the same. A host with its port, read: the walks of place and the document's place. -/
import Derived.Test.YtgjemgilanhdiaaGreatDoorRf10
import Derived.Test.YtgjemgilanhdiaaGreatDoorRf7
import Derived.Test.YtgjemgilanhdiaaGreatDoorRf5
namespace Go.Proofs.YtgjemgilanhdiaaGreatDoor
open Go.RowKit Go.Sort Go.Shelf
set_option linter.unusedVariables false

theorem valN_congr {v v' : Nat → Nat} {b : Nat} (h : ∀ n, n < 256 → (b ≤ v n ↔ b ≤ v' n) ∧ (v n < b → v n = v' n)) (l : List UInt8) (hb : badN v b l = false) : valN v b l = valN v' b l := by
  unfold valN
  suffices H : ∀ (l : List UInt8) (a : Nat), badN v b l = false → l.foldl (fun n c => n * b + v c.toNat) a = l.foldl (fun n c => n * b + v' c.toNat) a from H l 0 hb
  intro l
  induction l with
  | nil => intro a _; rfl
  | cons c t ih =>
    intro a hb
    have hb' : decide (b ≤ v c.toNat) = false ∧ badN v b t = false := by simpa [badN] using hb
    have hc : v c.toNat < b := by have := hb'.1; simp at this; exact this
    simp only [List.foldl_cons]
    rw [(h c.toNat c.toNat_lt).2 hc]
    exact ih _ hb'.2
theorem badN_congr {v v' : Nat → Nat} {b : Nat} (h : ∀ n, n < 256 → (b ≤ v n ↔ b ≤ v' n) ∧ (v n < b → v n = v' n)) (l : List UInt8) : badN v b l = badN v' b l := by
  unfold badN
  induction l with
  | nil => rfl
  | cons c t ih =>
    simp only [List.any_cons]
    rw [ih, decide_eq_decide.mpr (h c.toNat c.toNat_lt).1]
theorem readN_congr {v v' : Nat → Nat} {b : Nat} (h : ∀ n, n < 256 → (b ≤ v n ↔ b ≤ v' n) ∧ (v n < b → v n = v' n)) (l : List UInt8) : readN v b l = readN v' b l := by
  unfold readN
  rw [badN_congr h l]
  by_cases h0 : l = [] ∨ badN v' b l = true
  · rw [if_pos h0, if_pos h0]
  · rw [if_neg h0, if_neg h0, valN_congr h l (by rw [badN_congr h l]; cases hx : badN v' b l <;> simp_all)]
theorem read_dec (l : List UInt8) : readN refV 10 l = readN decV 10 l := readN_congr (fun n hn => by unfold refV decV; (repeat' split) <;> omega) l
theorem read_hex (l : List UInt8) : readN refV 16 l = readN hexV 16 l := readN_congr (fun n hn => by unfold refV hexV; (repeat' split) <;> omega) l
theorem refV_lt (n : Nat) (h : n < 256) : refV n < 256 := by unfold refV; split <;> (try split) <;> (try split) <;> omega

theorem value_call (W : World) (n : Nat) (hn : n < 256) : Calls Tryz.prog 100 #[.int .u8 n] W fun e w' => e = .returned (.int .u64 (refV n)) ∧ w' = W := by
  by_cases h1 : 48 ≤ n
  · by_cases h2 : n ≤ 57
    · have e1 : refV n = n - 48 := by unfold refV; rw [if_pos ⟨h1, h2⟩]
      have e2 : ((n - 48 : Nat) : Int) = (n : Int) - 48 := by omega
      rw [e1, e2]
      go_enter Tryz.func100, Tryz.ntmps100
      go_wp2
      go_ret
      exact ⟨rfl, rfl⟩
    · by_cases h3 : 65 ≤ n
      · by_cases h4 : n ≤ 70
        · have e1 : refV n = n - 55 := by unfold refV; rw [if_neg (by omega), if_pos ⟨h3, h4⟩]
          have e2 : ((n - 55 : Nat) : Int) = (n : Int) - 65 + 10 := by omega
          rw [e1, e2]
          go_enter Tryz.func100, Tryz.ntmps100
          go_wp2
          go_ret
          exact ⟨rfl, rfl⟩
        · by_cases h5 : 97 ≤ n
          · by_cases h6 : n ≤ 102
            · have e1 : refV n = n - 87 := by unfold refV; rw [if_neg (by omega), if_neg (by omega), if_pos ⟨h5, h6⟩]
              have e2 : ((n - 87 : Nat) : Int) = (n : Int) - 97 + 10 := by omega
              rw [e1, e2]
              go_enter Tryz.func100, Tryz.ntmps100
              go_wp2
              go_ret
              exact ⟨rfl, rfl⟩
            · have e1 : refV n = 99 := by unfold refV; rw [if_neg (by omega), if_neg (by omega), if_neg (by omega)]
              rw [e1]
              go_enter Tryz.func100, Tryz.ntmps100
              go_wp2
              go_ret
              exact ⟨rfl, rfl⟩
          · have e1 : refV n = 99 := by unfold refV; rw [if_neg (by omega), if_neg (by omega), if_neg (by omega)]
            rw [e1]
            go_enter Tryz.func100, Tryz.ntmps100
            go_wp2
            go_ret
            exact ⟨rfl, rfl⟩
      · have e1 : refV n = 99 := by unfold refV; rw [if_neg (by omega), if_neg (by omega), if_neg (by omega)]
        rw [e1]
        go_enter Tryz.func100, Tryz.ntmps100
        go_wp2
        go_ret
        exact ⟨rfl, rfl⟩
  · have e1 : refV n = 99 := by unfold refV; rw [if_neg (by omega), if_neg (by omega), if_neg (by omega)]
    rw [e1]
    go_enter Tryz.func100, Tryz.ntmps100
    go_wp2
    go_ret
    exact ⟨rfl, rfl⟩

theorem valN_mono (v : Nat → Nat) (b : Nat) (hb : 1 ≤ b) (l : List UInt8) (k : Nat) : valN v b (l.take k) ≤ valN v b l := by
  have H : ∀ (t : List UInt8) (a : Nat), a ≤ t.foldl (fun n c => n * b + v c.toNat) a := by
    intro t
    induction t with
    | nil => intro a; exact Nat.le_refl _
    | cons c t ih =>
      intro a
      simp only [List.foldl_cons]
      exact Nat.le_trans (Nat.le_trans (Nat.le_mul_of_pos_right a hb) (Nat.le_add_right _ _)) (ih _)
  have e : valN v b l = (l.drop k).foldl (fun n c => n * b + v c.toNat) (valN v b (l.take k)) := by
    unfold valN
    rw [← List.foldl_append, List.take_append_drop]
  rw [e]
  exact H _ _

set_option maxHeartbeats 800000 in
set_option maxRecDepth 100000 in
theorem refRead (b : Nat) (hb1 : 1 ≤ b) (hb2 : b ≤ 16) (l : List UInt8) (hl : l.length ≤ 4611686018427387903) (w : World) :
    Calls Tryz.prog 80 #[.string (S l), .int .u64 b] w fun e w' =>
      e = .returned (.tuple #[.int .u64 (readN refV b l).1, .int .i64 (readN refV b l).2]) ∧ w' = w := by
  by_cases h0 : l = []
  · subst h0
    have e1 : readN refV b [] = (0, 10) := by simp [readN]
    go_enter Tryz.func80, Tryz.ntmps80
    go_wp2
    go_ret2
    rw [e1]
    exact ⟨rfl, rfl⟩
  have hne : l.isEmpty = false := by
    cases l with
    | nil => exact absurd rfl h0
    | cons a t => rfl
  have HN := Lib.hid h0
  clear h0
  go_enter Tryz.func80, Tryz.ntmps80
  go_wp2
  go_loop [6] (fun iv => ∃ k : Nat, k ≤ l.length ∧ iv = .int .i64 k ∧ badN refV b (l.take k) = false) (fun iv => l.length - (intOf iv).toNat)
  case atStart => exact ⟨0, Nat.zero_le _, rfl, rfl⟩
  case round =>
    obtain ⟨k, hk, rfl, hbad⟩ := hrel
    by_cases hlt : k < l.length
    · have hbk : bAt l k = (l[k].toNat : Int) := bAt_eq hlt
      obtain ⟨m, hm⟩ : ∃ m, l[k].toNat = m := ⟨_, rfl⟩
      have hm256 : m < 256 := by rw [← hm]; exact l[k].toNat_lt
      have hvm := refV_lt m hm256
      rw [hm] at hbk
      have hcall := value_call w m hm256
      have htb : badN refV b (l.take (k + 1)) = (badN refV b (l.take k) || decide (b ≤ refV m)) := by
        rw [List.take_succ_eq_append_getElem hlt, badN_snoc, hm]
      have hbd : b ≤ refV m → badN refV b l = true := fun h => badN_at hlt (by rw [hm]; exact h)
      obtain ⟨d, hd⟩ : ∃ d, refV m = d := ⟨_, rfl⟩
      rw [hd] at hcall hvm htb hbd
      have HTB := Lib.hid htb
      have HB := Lib.hid hbad
      have HBD := Lib.hid hbd
      clear htb hbad hm hd hbd
      by_cases hge : b ≤ d
      · go_wp2_with (go_at_call 100; refine hcall.mono ?_; rintro e w' ⟨rfl, rfl⟩)
        go_ret2
        rw [readN_bad (HBD.out hge)]
        exact ⟨rfl, rfl⟩
      · go_wp2_with (go_at_call 100; refine hcall.mono ?_; rintro e w' ⟨rfl, rfl⟩)
        go_round
        case rel => exact ⟨k + 1, by omega, by go_num, by rw [HTB.out, HB.out]; simp; omega⟩
        case measure => simp [intOf]; omega
    · have hkl : k = l.length := by omega
      subst hkl
      rw [List.take_length] at hbad
      have HB := Lib.hid hbad
      clear hbad
      go_wp2
      go_loop [7, 8] (fun nv iv => ∃ k n : Nat, k ≤ l.length ∧ nv = .int .u64 n ∧ iv = .int .i64 k ∧ n = valN refV b (l.take k) ∧ n ≤ 1099511627776) (fun _ iv => l.length - (intOf iv).toNat)
      case atStart => exact ⟨0, 0, Nat.zero_le _, rfl, rfl, rfl, by omega⟩
      case round =>
        obtain ⟨k, n, hk, rfl, rfl, hval, hn⟩ := hrel
        by_cases hlt : k < l.length
        · have hbk : bAt l k = (l[k].toNat : Int) := bAt_eq hlt
          obtain ⟨m, hm⟩ : ∃ m, l[k].toNat = m := ⟨_, rfl⟩
          have hm256 : m < 256 := by rw [← hm]; exact l[k].toNat_lt
          have hvm := refV_lt m hm256
          rw [hm] at hbk
          have hcall := value_call w m hm256
          have htk : valN refV b (l.take (k + 1)) = valN refV b (l.take k) * b + refV m := by
            rw [List.take_succ_eq_append_getElem hlt, valN_snoc, hm]
          obtain ⟨d, hd⟩ : ∃ d, refV m = d := ⟨_, rfl⟩
          rw [hd] at hcall hvm htk
          have hmul : n * b ≤ 1099511627776 * 16 := Nat.mul_le_mul hn hb2
          obtain ⟨q, hq⟩ : ∃ q, n * b = q := ⟨_, rfl⟩
          have hqi : (b : Int) * (n : Int) = (q : Int) := by rw [← hq, Int.mul_comm]; simp
          rw [hq] at hmul
          rw [← hval, hq] at htk
          have HT := Lib.hid htk
          have HV := Lib.hid hval
          clear htk hval hm hd
          by_cases hgt : 1099511627776 < q + d
          · go_wp2_with (go_at_call 100; refine hcall.mono ?_; rintro e w' ⟨rfl, rfl⟩)
            go_ret2
            rw [readN_long HN.out HB.out (Nat.lt_of_lt_of_le (by rw [HT.out]; exact hgt) (valN_mono refV b hb1 l (k + 1)))]
            exact ⟨rfl, rfl⟩
          · go_wp2_with (go_at_call 100; refine hcall.mono ?_; rintro e w' ⟨rfl, rfl⟩)
            go_round
            case rel => exact ⟨k + 1, q + d, by omega, by go_num, by go_num, HT.out.symm, by omega⟩
            case measure => simp [intOf]; omega
        · have hkl : k = l.length := by omega
          subst hkl
          rw [List.take_length] at hval
          have e1 : readN refV b l = (n, 0) := by rw [hval]; exact readN_ok HN.out HB.out (by omega)
          clear hval
          go_wp2
          go_ret2
          exact ⟨rfl, rfl⟩
end Go.Proofs.YtgjemgilanhdiaaGreatDoor
namespace Go.Proofs.YtgjemgilanhdiaaGreatDoor
open Go.RowKit Go.Shelf
set_option linter.unusedVariables false

def placeH (s : List UInt8) : List UInt8 := if lastL s 58 < 0 then lower s else (lower s).take (lastL s 58).toNat
def placeR (s : List UInt8) : Nat × Nat := readN decV 10 (s.drop ((lastL s 58).toNat + 1))
def placeN (s : List UInt8) : Int := if lastL s 58 < 0 then 0 else (placeR s).1
def placeB (s : List UInt8) : Bool := decide (lastL s 58 < 0) || (decide ((placeR s).2 = 0) && decide ((s.length : Int) - lastL s 58 - 1 ≤ 5) && decide (0 < (placeR s).1))

set_option maxHeartbeats 3200000 in
set_option maxRecDepth 100000 in
theorem uriPlace (s : List UInt8) (hs : s.length ≤ 1000000) (w : World) :
    Calls Tryz.prog 41 #[.string (S s), uv false [] 0 [] false []] w fun e w' => e = .returned (.tuple #[uv true (placeH s) (placeN s) [] false [], .bool (placeB s)]) ∧ Below w.heap.size w w' := by
  have C1 := Lib.hid (fun W => textLower s (by omega) W)
  have C2 := Lib.hid (fun W => lastIndex_S (l := s) (c := 58) (ci := 58) rfl (by omega) rfl W)
  have C3 := Lib.hid (fun W => readDec (s.drop ((lastL s 58).toNat + 1)) (by rw [List.length_drop]; omega) W)
  have HN := readN_le decV 10 (s.drop ((lastL s 58).toNat + 1))
  unfold placeH placeN placeB placeR
  have hlo := lastL_lo s 58
  have hhi := lastL_hi s 58
  obtain ⟨i, hi⟩ : ∃ i, lastL s 58 = i := ⟨_, rfl⟩
  rw [hi] at C2 C3 hlo hhi HN ⊢
  clear hi
  have hlen := lower_len s
  obtain ⟨ls, hls⟩ : ∃ x, lower s = x := ⟨_, rfl⟩
  rw [hls] at C1 hlen ⊢
  clear hls
  by_cases h0 : i < 0
  · go_enter Tryz.func41, Tryz.ntmps41
    go_wp2_with fail
    refine Calls.mono (C1.out _) ?_
    rintro e w1 ⟨rfl, hb_w1⟩
    have hz_w1 := hb_w1.size
    try simp at hz_w1
    obtain ⟨c1__0, f1__0⟩ := bk hb_w1 (w.heap.size) (by first | omega | (simp <;> omega))
    have c1__0_0 := c1__0 0; conv at c1__0_0 => rhs; simp [go_sem, *]
    have f1__0_0 := f1__0 0; conv at f1__0_0 => rhs; simp [go_sem, *]
    have c1__0_1 := c1__0 1; conv at c1__0_1 => rhs; simp [go_sem, *]
    have f1__0_1 := f1__0 1; conv at f1__0_1 => rhs; simp [go_sem, *]
    have c1__0_2 := c1__0 2; conv at c1__0_2 => rhs; simp [go_sem, *]
    have f1__0_2 := f1__0 2; conv at f1__0_2 => rhs; simp [go_sem, *]
    have c1__0_3 := c1__0 3; conv at c1__0_3 => rhs; simp [go_sem, *]
    have f1__0_3 := f1__0 3; conv at f1__0_3 => rhs; simp [go_sem, *]
    have c1__0_4 := c1__0 4; conv at c1__0_4 => rhs; simp [go_sem, *]
    have f1__0_4 := f1__0 4; conv at f1__0_4 => rhs; simp [go_sem, *]
    have c1__0_5 := c1__0 5; conv at c1__0_5 => rhs; simp [go_sem, *]
    have f1__0_5 := f1__0 5; conv at f1__0_5 => rhs; simp [go_sem, *]
    obtain ⟨c1__1, f1__1⟩ := bk hb_w1 (w.heap.size + 1) (by first | omega | (simp <;> omega))
    have c1__1_0 := c1__1 0; conv at c1__1_0 => rhs; simp [go_sem, *]
    have f1__1_0 := f1__1 0; conv at f1__1_0 => rhs; simp [go_sem, *]
    have c1__1_1 := c1__1 1; conv at c1__1_1 => rhs; simp [go_sem, *]
    have f1__1_1 := f1__1 1; conv at f1__1_1 => rhs; simp [go_sem, *]
    have c1__1_2 := c1__1 2; conv at c1__1_2 => rhs; simp [go_sem, *]
    have f1__1_2 := f1__1 2; conv at f1__1_2 => rhs; simp [go_sem, *]
    have c1__1_3 := c1__1 3; conv at c1__1_3 => rhs; simp [go_sem, *]
    have f1__1_3 := f1__1 3; conv at f1__1_3 => rhs; simp [go_sem, *]
    have c1__1_4 := c1__1 4; conv at c1__1_4 => rhs; simp [go_sem, *]
    have f1__1_4 := f1__1 4; conv at f1__1_4 => rhs; simp [go_sem, *]
    have c1__1_5 := c1__1 5; conv at c1__1_5 => rhs; simp [go_sem, *]
    have f1__1_5 := f1__1 5; conv at f1__1_5 => rhs; simp [go_sem, *]
    have HH_w1 := Lib.hid hb_w1
    have hB_w1 : Below w.heap.size w w1 := Below.trans (by (repeat (first | with_reducible exact Below.refl _ _ | with_reducible assumption | with_reducible refine Below.drew ?_ | (with_reducible refine Below.setCell ?_ ?_ _; rotate_left; (first | omega | (simp <;> omega))) | (with_reducible refine Below.alloc ?_ ?_ _; rotate_left; (first | omega | (simp <;> omega))) | exact Below.refl _ _ | assumption))) (hb_w1.mono (by first | omega | (simp <;> omega)))
    clear hb_w1 c1__0 f1__0 c1__1 f1__1
    have far_w1_w_0 := far (show w.heap.size < w1.heap.size by omega)
    have far_w1_w_1 := far (show w.heap.size + 1 < w1.heap.size by omega)
    go_wp2_with fail
    refine Calls.mono (same_below (C2.out _)) ?_
    rintro e w2 ⟨rfl, hb_w2⟩
    have hz_w2 := hb_w2.size
    try simp at hz_w2
    obtain ⟨c2__0, f2__0⟩ := bk hb_w2 (w.heap.size) (by first | omega | (simp <;> omega))
    have c2__0_0 := c2__0 0; conv at c2__0_0 => rhs; simp [go_sem, *]
    have f2__0_0 := f2__0 0; conv at f2__0_0 => rhs; simp [go_sem, *]
    have c2__0_1 := c2__0 1; conv at c2__0_1 => rhs; simp [go_sem, *]
    have f2__0_1 := f2__0 1; conv at f2__0_1 => rhs; simp [go_sem, *]
    have c2__0_2 := c2__0 2; conv at c2__0_2 => rhs; simp [go_sem, *]
    have f2__0_2 := f2__0 2; conv at f2__0_2 => rhs; simp [go_sem, *]
    have c2__0_3 := c2__0 3; conv at c2__0_3 => rhs; simp [go_sem, *]
    have f2__0_3 := f2__0 3; conv at f2__0_3 => rhs; simp [go_sem, *]
    have c2__0_4 := c2__0 4; conv at c2__0_4 => rhs; simp [go_sem, *]
    have f2__0_4 := f2__0 4; conv at f2__0_4 => rhs; simp [go_sem, *]
    have c2__0_5 := c2__0 5; conv at c2__0_5 => rhs; simp [go_sem, *]
    have f2__0_5 := f2__0 5; conv at f2__0_5 => rhs; simp [go_sem, *]
    obtain ⟨c2__1, f2__1⟩ := bk hb_w2 (w.heap.size + 1) (by first | omega | (simp <;> omega))
    have c2__1_0 := c2__1 0; conv at c2__1_0 => rhs; simp [go_sem, *]
    have f2__1_0 := f2__1 0; conv at f2__1_0 => rhs; simp [go_sem, *]
    have c2__1_1 := c2__1 1; conv at c2__1_1 => rhs; simp [go_sem, *]
    have f2__1_1 := f2__1 1; conv at f2__1_1 => rhs; simp [go_sem, *]
    have c2__1_2 := c2__1 2; conv at c2__1_2 => rhs; simp [go_sem, *]
    have f2__1_2 := f2__1 2; conv at f2__1_2 => rhs; simp [go_sem, *]
    have c2__1_3 := c2__1 3; conv at c2__1_3 => rhs; simp [go_sem, *]
    have f2__1_3 := f2__1 3; conv at f2__1_3 => rhs; simp [go_sem, *]
    have c2__1_4 := c2__1 4; conv at c2__1_4 => rhs; simp [go_sem, *]
    have f2__1_4 := f2__1 4; conv at f2__1_4 => rhs; simp [go_sem, *]
    have c2__1_5 := c2__1 5; conv at c2__1_5 => rhs; simp [go_sem, *]
    have f2__1_5 := f2__1 5; conv at f2__1_5 => rhs; simp [go_sem, *]
    have HH_w2 := Lib.hid hb_w2
    have hB_w2 : Below w.heap.size w w2 := Below.trans (by (repeat (first | with_reducible exact Below.refl _ _ | with_reducible assumption | with_reducible refine Below.drew ?_ | (with_reducible refine Below.setCell ?_ ?_ _; rotate_left; (first | omega | (simp <;> omega))) | (with_reducible refine Below.alloc ?_ ?_ _; rotate_left; (first | omega | (simp <;> omega))) | exact Below.refl _ _ | assumption))) (hb_w2.mono (by first | omega | (simp <;> omega)))
    clear hb_w2 c2__0 f2__0 c2__1 f2__1
    try clear c1__0_0 f1__0_0 c1__0_1 f1__0_1 c1__0_2 f1__0_2 c1__0_3 f1__0_3 c1__0_4 f1__0_4 c1__0_5 f1__0_5 c1__1_0 f1__1_0 c1__1_1 f1__1_1 c1__1_2 f1__1_2 c1__1_3 f1__1_3 c1__1_4 f1__1_4 c1__1_5 f1__1_5 far_w1_w_0 far_w1_w_1 hB_w1
    have far_w2_w_0 := far (show w.heap.size < w2.heap.size by omega)
    have far_w2_w_1 := far (show w.heap.size + 1 < w2.heap.size by omega)
    go_wp2
    exact bodyPost_ret (v := .tuple #[uv true ls 0 [] false [], .bool true]) (by simp [results, Tryz.results41, go_sem, *]) rfl ⟨by simp, by (repeat (first | with_reducible exact Below.refl _ _ | with_reducible assumption | with_reducible refine Below.drew ?_ | (with_reducible refine Below.setCell ?_ ?_ _; rotate_left; (first | omega | (simp <;> omega))) | (with_reducible refine Below.alloc ?_ ?_ _; rotate_left; (first | omega | (simp <;> omega))) | exact Below.refl _ _ | assumption))⟩
  · obtain ⟨k, rfl⟩ : ∃ k : Nat, i = k := ⟨i.toNat, by omega⟩
    simp only [Int.toNat_natCast] at C3 HN ⊢
    rw [if_neg h0, if_neg h0]
    obtain ⟨⟨rv, re⟩, hr⟩ : ∃ x, readN decV 10 (s.drop (k + 1)) = x := ⟨_, rfl⟩
    rw [hr] at C3 HN
    simp only [hr]
    simp only at C3 HN
    clear hr
    have hk : k < s.length := by omega
    have hkl : k < ls.length := by omega
    have hw1 : IntKind.i64.wrap (rv : Int) = rv := by rw [IntKind.wrap_i64]; omega
    by_cases h1 : re = 0
    · subst h1
      by_cases h2 : (s.length : Int) - k - 1 ≤ 5
      · by_cases h3 : 0 < rv
        · have HB := Lib.hid (show (decide ((k : Int) < 0) || (decide (0 = 0) && decide ((s.length : Int) - k - 1 ≤ 5) && decide (0 < rv))) = true by simp [h2, h3])
          go_enter Tryz.func41, Tryz.ntmps41
          go_wp2_with fail
          refine Calls.mono (C1.out _) ?_
          rintro e w1 ⟨rfl, hb_w1⟩
          have hz_w1 := hb_w1.size
          try simp at hz_w1
          obtain ⟨c1__0, f1__0⟩ := bk hb_w1 (w.heap.size) (by first | omega | (simp <;> omega))
          have c1__0_0 := c1__0 0; conv at c1__0_0 => rhs; simp [go_sem, *]
          have f1__0_0 := f1__0 0; conv at f1__0_0 => rhs; simp [go_sem, *]
          have c1__0_1 := c1__0 1; conv at c1__0_1 => rhs; simp [go_sem, *]
          have f1__0_1 := f1__0 1; conv at f1__0_1 => rhs; simp [go_sem, *]
          have c1__0_2 := c1__0 2; conv at c1__0_2 => rhs; simp [go_sem, *]
          have f1__0_2 := f1__0 2; conv at f1__0_2 => rhs; simp [go_sem, *]
          have c1__0_3 := c1__0 3; conv at c1__0_3 => rhs; simp [go_sem, *]
          have f1__0_3 := f1__0 3; conv at f1__0_3 => rhs; simp [go_sem, *]
          have c1__0_4 := c1__0 4; conv at c1__0_4 => rhs; simp [go_sem, *]
          have f1__0_4 := f1__0 4; conv at f1__0_4 => rhs; simp [go_sem, *]
          have c1__0_5 := c1__0 5; conv at c1__0_5 => rhs; simp [go_sem, *]
          have f1__0_5 := f1__0 5; conv at f1__0_5 => rhs; simp [go_sem, *]
          obtain ⟨c1__1, f1__1⟩ := bk hb_w1 (w.heap.size + 1) (by first | omega | (simp <;> omega))
          have c1__1_0 := c1__1 0; conv at c1__1_0 => rhs; simp [go_sem, *]
          have f1__1_0 := f1__1 0; conv at f1__1_0 => rhs; simp [go_sem, *]
          have c1__1_1 := c1__1 1; conv at c1__1_1 => rhs; simp [go_sem, *]
          have f1__1_1 := f1__1 1; conv at f1__1_1 => rhs; simp [go_sem, *]
          have c1__1_2 := c1__1 2; conv at c1__1_2 => rhs; simp [go_sem, *]
          have f1__1_2 := f1__1 2; conv at f1__1_2 => rhs; simp [go_sem, *]
          have c1__1_3 := c1__1 3; conv at c1__1_3 => rhs; simp [go_sem, *]
          have f1__1_3 := f1__1 3; conv at f1__1_3 => rhs; simp [go_sem, *]
          have c1__1_4 := c1__1 4; conv at c1__1_4 => rhs; simp [go_sem, *]
          have f1__1_4 := f1__1 4; conv at f1__1_4 => rhs; simp [go_sem, *]
          have c1__1_5 := c1__1 5; conv at c1__1_5 => rhs; simp [go_sem, *]
          have f1__1_5 := f1__1 5; conv at f1__1_5 => rhs; simp [go_sem, *]
          have HH_w1 := Lib.hid hb_w1
          have hB_w1 : Below w.heap.size w w1 := Below.trans (by (repeat (first | with_reducible exact Below.refl _ _ | with_reducible assumption | with_reducible refine Below.drew ?_ | (with_reducible refine Below.setCell ?_ ?_ _; rotate_left; (first | omega | (simp <;> omega))) | (with_reducible refine Below.alloc ?_ ?_ _; rotate_left; (first | omega | (simp <;> omega))) | exact Below.refl _ _ | assumption))) (hb_w1.mono (by first | omega | (simp <;> omega)))
          clear hb_w1 c1__0 f1__0 c1__1 f1__1
          try clear c2__0_0 f2__0_0 c2__0_1 f2__0_1 c2__0_2 f2__0_2 c2__0_3 f2__0_3 c2__0_4 f2__0_4 c2__0_5 f2__0_5 c2__1_0 f2__1_0 c2__1_1 f2__1_1 c2__1_2 f2__1_2 c2__1_3 f2__1_3 c2__1_4 f2__1_4 c2__1_5 f2__1_5 far_w2_w_0 far_w2_w_1 hB_w2
          have far_w1_w_0 := far (show w.heap.size < w1.heap.size by omega)
          have far_w1_w_1 := far (show w.heap.size + 1 < w1.heap.size by omega)
          go_wp2_with fail
          refine Calls.mono (same_below (C2.out _)) ?_
          rintro e w2 ⟨rfl, hb_w2⟩
          have hz_w2 := hb_w2.size
          try simp at hz_w2
          obtain ⟨c2__0, f2__0⟩ := bk hb_w2 (w.heap.size) (by first | omega | (simp <;> omega))
          have c2__0_0 := c2__0 0; conv at c2__0_0 => rhs; simp [go_sem, *]
          have f2__0_0 := f2__0 0; conv at f2__0_0 => rhs; simp [go_sem, *]
          have c2__0_1 := c2__0 1; conv at c2__0_1 => rhs; simp [go_sem, *]
          have f2__0_1 := f2__0 1; conv at f2__0_1 => rhs; simp [go_sem, *]
          have c2__0_2 := c2__0 2; conv at c2__0_2 => rhs; simp [go_sem, *]
          have f2__0_2 := f2__0 2; conv at f2__0_2 => rhs; simp [go_sem, *]
          have c2__0_3 := c2__0 3; conv at c2__0_3 => rhs; simp [go_sem, *]
          have f2__0_3 := f2__0 3; conv at f2__0_3 => rhs; simp [go_sem, *]
          have c2__0_4 := c2__0 4; conv at c2__0_4 => rhs; simp [go_sem, *]
          have f2__0_4 := f2__0 4; conv at f2__0_4 => rhs; simp [go_sem, *]
          have c2__0_5 := c2__0 5; conv at c2__0_5 => rhs; simp [go_sem, *]
          have f2__0_5 := f2__0 5; conv at f2__0_5 => rhs; simp [go_sem, *]
          obtain ⟨c2__1, f2__1⟩ := bk hb_w2 (w.heap.size + 1) (by first | omega | (simp <;> omega))
          have c2__1_0 := c2__1 0; conv at c2__1_0 => rhs; simp [go_sem, *]
          have f2__1_0 := f2__1 0; conv at f2__1_0 => rhs; simp [go_sem, *]
          have c2__1_1 := c2__1 1; conv at c2__1_1 => rhs; simp [go_sem, *]
          have f2__1_1 := f2__1 1; conv at f2__1_1 => rhs; simp [go_sem, *]
          have c2__1_2 := c2__1 2; conv at c2__1_2 => rhs; simp [go_sem, *]
          have f2__1_2 := f2__1 2; conv at f2__1_2 => rhs; simp [go_sem, *]
          have c2__1_3 := c2__1 3; conv at c2__1_3 => rhs; simp [go_sem, *]
          have f2__1_3 := f2__1 3; conv at f2__1_3 => rhs; simp [go_sem, *]
          have c2__1_4 := c2__1 4; conv at c2__1_4 => rhs; simp [go_sem, *]
          have f2__1_4 := f2__1 4; conv at f2__1_4 => rhs; simp [go_sem, *]
          have c2__1_5 := c2__1 5; conv at c2__1_5 => rhs; simp [go_sem, *]
          have f2__1_5 := f2__1 5; conv at f2__1_5 => rhs; simp [go_sem, *]
          have HH_w2 := Lib.hid hb_w2
          have hB_w2 : Below w.heap.size w w2 := Below.trans (by (repeat (first | with_reducible exact Below.refl _ _ | with_reducible assumption | with_reducible refine Below.drew ?_ | (with_reducible refine Below.setCell ?_ ?_ _; rotate_left; (first | omega | (simp <;> omega))) | (with_reducible refine Below.alloc ?_ ?_ _; rotate_left; (first | omega | (simp <;> omega))) | exact Below.refl _ _ | assumption))) (hb_w2.mono (by first | omega | (simp <;> omega)))
          clear hb_w2 c2__0 f2__0 c2__1 f2__1
          try clear c1__0_0 f1__0_0 c1__0_1 f1__0_1 c1__0_2 f1__0_2 c1__0_3 f1__0_3 c1__0_4 f1__0_4 c1__0_5 f1__0_5 c1__1_0 f1__1_0 c1__1_1 f1__1_1 c1__1_2 f1__1_2 c1__1_3 f1__1_3 c1__1_4 f1__1_4 c1__1_5 f1__1_5 far_w1_w_0 far_w1_w_1 hB_w1
          have far_w2_w_0 := far (show w.heap.size < w2.heap.size by omega)
          have far_w2_w_1 := far (show w.heap.size + 1 < w2.heap.size by omega)
          go_wp2_with fail
          refine Calls.mono (same_below (C3.out _)) ?_
          rintro e w3 ⟨rfl, hb_w3⟩
          have hz_w3 := hb_w3.size
          try simp at hz_w3
          obtain ⟨c3__0, f3__0⟩ := bk hb_w3 (w.heap.size) (by first | omega | (simp <;> omega))
          have c3__0_0 := c3__0 0; conv at c3__0_0 => rhs; simp [go_sem, *]
          have f3__0_0 := f3__0 0; conv at f3__0_0 => rhs; simp [go_sem, *]
          have c3__0_1 := c3__0 1; conv at c3__0_1 => rhs; simp [go_sem, *]
          have f3__0_1 := f3__0 1; conv at f3__0_1 => rhs; simp [go_sem, *]
          have c3__0_2 := c3__0 2; conv at c3__0_2 => rhs; simp [go_sem, *]
          have f3__0_2 := f3__0 2; conv at f3__0_2 => rhs; simp [go_sem, *]
          have c3__0_3 := c3__0 3; conv at c3__0_3 => rhs; simp [go_sem, *]
          have f3__0_3 := f3__0 3; conv at f3__0_3 => rhs; simp [go_sem, *]
          have c3__0_4 := c3__0 4; conv at c3__0_4 => rhs; simp [go_sem, *]
          have f3__0_4 := f3__0 4; conv at f3__0_4 => rhs; simp [go_sem, *]
          have c3__0_5 := c3__0 5; conv at c3__0_5 => rhs; simp [go_sem, *]
          have f3__0_5 := f3__0 5; conv at f3__0_5 => rhs; simp [go_sem, *]
          obtain ⟨c3__1, f3__1⟩ := bk hb_w3 (w.heap.size + 1) (by first | omega | (simp <;> omega))
          have c3__1_0 := c3__1 0; conv at c3__1_0 => rhs; simp [go_sem, *]
          have f3__1_0 := f3__1 0; conv at f3__1_0 => rhs; simp [go_sem, *]
          have c3__1_1 := c3__1 1; conv at c3__1_1 => rhs; simp [go_sem, *]
          have f3__1_1 := f3__1 1; conv at f3__1_1 => rhs; simp [go_sem, *]
          have c3__1_2 := c3__1 2; conv at c3__1_2 => rhs; simp [go_sem, *]
          have f3__1_2 := f3__1 2; conv at f3__1_2 => rhs; simp [go_sem, *]
          have c3__1_3 := c3__1 3; conv at c3__1_3 => rhs; simp [go_sem, *]
          have f3__1_3 := f3__1 3; conv at f3__1_3 => rhs; simp [go_sem, *]
          have c3__1_4 := c3__1 4; conv at c3__1_4 => rhs; simp [go_sem, *]
          have f3__1_4 := f3__1 4; conv at f3__1_4 => rhs; simp [go_sem, *]
          have c3__1_5 := c3__1 5; conv at c3__1_5 => rhs; simp [go_sem, *]
          have f3__1_5 := f3__1 5; conv at f3__1_5 => rhs; simp [go_sem, *]
          have HH_w3 := Lib.hid hb_w3
          have hB_w3 : Below w.heap.size w w3 := Below.trans (by (repeat (first | with_reducible exact Below.refl _ _ | with_reducible assumption | with_reducible refine Below.drew ?_ | (with_reducible refine Below.setCell ?_ ?_ _; rotate_left; (first | omega | (simp <;> omega))) | (with_reducible refine Below.alloc ?_ ?_ _; rotate_left; (first | omega | (simp <;> omega))) | exact Below.refl _ _ | assumption))) (hb_w3.mono (by first | omega | (simp <;> omega)))
          clear hb_w3 c3__0 f3__0 c3__1 f3__1
          try clear c2__0_0 f2__0_0 c2__0_1 f2__0_1 c2__0_2 f2__0_2 c2__0_3 f2__0_3 c2__0_4 f2__0_4 c2__0_5 f2__0_5 c2__1_0 f2__1_0 c2__1_1 f2__1_1 c2__1_2 f2__1_2 c2__1_3 f2__1_3 c2__1_4 f2__1_4 c2__1_5 f2__1_5 far_w2_w_0 far_w2_w_1 hB_w2
          have far_w3_w_0 := far (show w.heap.size < w3.heap.size by omega)
          have far_w3_w_1 := far (show w.heap.size + 1 < w3.heap.size by omega)
          go_wp2
          refine bodyPost_ret (v := .tuple #[uv true (ls.take k) rv [] false [], .bool true]) (by simp [results, Tryz.results41, go_sem, *]) rfl ⟨by rw [HB.out], ?_⟩
          (repeat (first | with_reducible exact Below.refl _ _ | with_reducible assumption | with_reducible refine Below.drew ?_ | (with_reducible refine Below.setCell ?_ ?_ _; rotate_left; (first | omega | (simp <;> omega))) | (with_reducible refine Below.alloc ?_ ?_ _; rotate_left; (first | omega | (simp <;> omega))) | exact Below.refl _ _ | assumption))
        · obtain rfl : rv = 0 := by omega
          have HB := Lib.hid (show (decide ((k : Int) < 0) || (decide (0 = 0) && decide ((s.length : Int) - k - 1 ≤ 5) && decide (0 < 0))) = false by simp)
          go_enter Tryz.func41, Tryz.ntmps41
          go_wp2_with fail
          refine Calls.mono (C1.out _) ?_
          rintro e w1 ⟨rfl, hb_w1⟩
          have hz_w1 := hb_w1.size
          try simp at hz_w1
          obtain ⟨c1__0, f1__0⟩ := bk hb_w1 (w.heap.size) (by first | omega | (simp <;> omega))
          have c1__0_0 := c1__0 0; conv at c1__0_0 => rhs; simp [go_sem, *]
          have f1__0_0 := f1__0 0; conv at f1__0_0 => rhs; simp [go_sem, *]
          have c1__0_1 := c1__0 1; conv at c1__0_1 => rhs; simp [go_sem, *]
          have f1__0_1 := f1__0 1; conv at f1__0_1 => rhs; simp [go_sem, *]
          have c1__0_2 := c1__0 2; conv at c1__0_2 => rhs; simp [go_sem, *]
          have f1__0_2 := f1__0 2; conv at f1__0_2 => rhs; simp [go_sem, *]
          have c1__0_3 := c1__0 3; conv at c1__0_3 => rhs; simp [go_sem, *]
          have f1__0_3 := f1__0 3; conv at f1__0_3 => rhs; simp [go_sem, *]
          have c1__0_4 := c1__0 4; conv at c1__0_4 => rhs; simp [go_sem, *]
          have f1__0_4 := f1__0 4; conv at f1__0_4 => rhs; simp [go_sem, *]
          have c1__0_5 := c1__0 5; conv at c1__0_5 => rhs; simp [go_sem, *]
          have f1__0_5 := f1__0 5; conv at f1__0_5 => rhs; simp [go_sem, *]
          obtain ⟨c1__1, f1__1⟩ := bk hb_w1 (w.heap.size + 1) (by first | omega | (simp <;> omega))
          have c1__1_0 := c1__1 0; conv at c1__1_0 => rhs; simp [go_sem, *]
          have f1__1_0 := f1__1 0; conv at f1__1_0 => rhs; simp [go_sem, *]
          have c1__1_1 := c1__1 1; conv at c1__1_1 => rhs; simp [go_sem, *]
          have f1__1_1 := f1__1 1; conv at f1__1_1 => rhs; simp [go_sem, *]
          have c1__1_2 := c1__1 2; conv at c1__1_2 => rhs; simp [go_sem, *]
          have f1__1_2 := f1__1 2; conv at f1__1_2 => rhs; simp [go_sem, *]
          have c1__1_3 := c1__1 3; conv at c1__1_3 => rhs; simp [go_sem, *]
          have f1__1_3 := f1__1 3; conv at f1__1_3 => rhs; simp [go_sem, *]
          have c1__1_4 := c1__1 4; conv at c1__1_4 => rhs; simp [go_sem, *]
          have f1__1_4 := f1__1 4; conv at f1__1_4 => rhs; simp [go_sem, *]
          have c1__1_5 := c1__1 5; conv at c1__1_5 => rhs; simp [go_sem, *]
          have f1__1_5 := f1__1 5; conv at f1__1_5 => rhs; simp [go_sem, *]
          have HH_w1 := Lib.hid hb_w1
          have hB_w1 : Below w.heap.size w w1 := Below.trans (by (repeat (first | with_reducible exact Below.refl _ _ | with_reducible assumption | with_reducible refine Below.drew ?_ | (with_reducible refine Below.setCell ?_ ?_ _; rotate_left; (first | omega | (simp <;> omega))) | (with_reducible refine Below.alloc ?_ ?_ _; rotate_left; (first | omega | (simp <;> omega))) | exact Below.refl _ _ | assumption))) (hb_w1.mono (by first | omega | (simp <;> omega)))
          clear hb_w1 c1__0 f1__0 c1__1 f1__1
          try clear c3__0_0 f3__0_0 c3__0_1 f3__0_1 c3__0_2 f3__0_2 c3__0_3 f3__0_3 c3__0_4 f3__0_4 c3__0_5 f3__0_5 c3__1_0 f3__1_0 c3__1_1 f3__1_1 c3__1_2 f3__1_2 c3__1_3 f3__1_3 c3__1_4 f3__1_4 c3__1_5 f3__1_5 far_w3_w_0 far_w3_w_1 hB_w3
          have far_w1_w_0 := far (show w.heap.size < w1.heap.size by omega)
          have far_w1_w_1 := far (show w.heap.size + 1 < w1.heap.size by omega)
          go_wp2_with fail
          refine Calls.mono (same_below (C2.out _)) ?_
          rintro e w2 ⟨rfl, hb_w2⟩
          have hz_w2 := hb_w2.size
          try simp at hz_w2
          obtain ⟨c2__0, f2__0⟩ := bk hb_w2 (w.heap.size) (by first | omega | (simp <;> omega))
          have c2__0_0 := c2__0 0; conv at c2__0_0 => rhs; simp [go_sem, *]
          have f2__0_0 := f2__0 0; conv at f2__0_0 => rhs; simp [go_sem, *]
          have c2__0_1 := c2__0 1; conv at c2__0_1 => rhs; simp [go_sem, *]
          have f2__0_1 := f2__0 1; conv at f2__0_1 => rhs; simp [go_sem, *]
          have c2__0_2 := c2__0 2; conv at c2__0_2 => rhs; simp [go_sem, *]
          have f2__0_2 := f2__0 2; conv at f2__0_2 => rhs; simp [go_sem, *]
          have c2__0_3 := c2__0 3; conv at c2__0_3 => rhs; simp [go_sem, *]
          have f2__0_3 := f2__0 3; conv at f2__0_3 => rhs; simp [go_sem, *]
          have c2__0_4 := c2__0 4; conv at c2__0_4 => rhs; simp [go_sem, *]
          have f2__0_4 := f2__0 4; conv at f2__0_4 => rhs; simp [go_sem, *]
          have c2__0_5 := c2__0 5; conv at c2__0_5 => rhs; simp [go_sem, *]
          have f2__0_5 := f2__0 5; conv at f2__0_5 => rhs; simp [go_sem, *]
          obtain ⟨c2__1, f2__1⟩ := bk hb_w2 (w.heap.size + 1) (by first | omega | (simp <;> omega))
          have c2__1_0 := c2__1 0; conv at c2__1_0 => rhs; simp [go_sem, *]
          have f2__1_0 := f2__1 0; conv at f2__1_0 => rhs; simp [go_sem, *]
          have c2__1_1 := c2__1 1; conv at c2__1_1 => rhs; simp [go_sem, *]
          have f2__1_1 := f2__1 1; conv at f2__1_1 => rhs; simp [go_sem, *]
          have c2__1_2 := c2__1 2; conv at c2__1_2 => rhs; simp [go_sem, *]
          have f2__1_2 := f2__1 2; conv at f2__1_2 => rhs; simp [go_sem, *]
          have c2__1_3 := c2__1 3; conv at c2__1_3 => rhs; simp [go_sem, *]
          have f2__1_3 := f2__1 3; conv at f2__1_3 => rhs; simp [go_sem, *]
          have c2__1_4 := c2__1 4; conv at c2__1_4 => rhs; simp [go_sem, *]
          have f2__1_4 := f2__1 4; conv at f2__1_4 => rhs; simp [go_sem, *]
          have c2__1_5 := c2__1 5; conv at c2__1_5 => rhs; simp [go_sem, *]
          have f2__1_5 := f2__1 5; conv at f2__1_5 => rhs; simp [go_sem, *]
          have HH_w2 := Lib.hid hb_w2
          have hB_w2 : Below w.heap.size w w2 := Below.trans (by (repeat (first | with_reducible exact Below.refl _ _ | with_reducible assumption | with_reducible refine Below.drew ?_ | (with_reducible refine Below.setCell ?_ ?_ _; rotate_left; (first | omega | (simp <;> omega))) | (with_reducible refine Below.alloc ?_ ?_ _; rotate_left; (first | omega | (simp <;> omega))) | exact Below.refl _ _ | assumption))) (hb_w2.mono (by first | omega | (simp <;> omega)))
          clear hb_w2 c2__0 f2__0 c2__1 f2__1
          try clear c1__0_0 f1__0_0 c1__0_1 f1__0_1 c1__0_2 f1__0_2 c1__0_3 f1__0_3 c1__0_4 f1__0_4 c1__0_5 f1__0_5 c1__1_0 f1__1_0 c1__1_1 f1__1_1 c1__1_2 f1__1_2 c1__1_3 f1__1_3 c1__1_4 f1__1_4 c1__1_5 f1__1_5 far_w1_w_0 far_w1_w_1 hB_w1
          have far_w2_w_0 := far (show w.heap.size < w2.heap.size by omega)
          have far_w2_w_1 := far (show w.heap.size + 1 < w2.heap.size by omega)
          go_wp2_with fail
          refine Calls.mono (same_below (C3.out _)) ?_
          rintro e w3 ⟨rfl, hb_w3⟩
          have hz_w3 := hb_w3.size
          try simp at hz_w3
          obtain ⟨c3__0, f3__0⟩ := bk hb_w3 (w.heap.size) (by first | omega | (simp <;> omega))
          have c3__0_0 := c3__0 0; conv at c3__0_0 => rhs; simp [go_sem, *]
          have f3__0_0 := f3__0 0; conv at f3__0_0 => rhs; simp [go_sem, *]
          have c3__0_1 := c3__0 1; conv at c3__0_1 => rhs; simp [go_sem, *]
          have f3__0_1 := f3__0 1; conv at f3__0_1 => rhs; simp [go_sem, *]
          have c3__0_2 := c3__0 2; conv at c3__0_2 => rhs; simp [go_sem, *]
          have f3__0_2 := f3__0 2; conv at f3__0_2 => rhs; simp [go_sem, *]
          have c3__0_3 := c3__0 3; conv at c3__0_3 => rhs; simp [go_sem, *]
          have f3__0_3 := f3__0 3; conv at f3__0_3 => rhs; simp [go_sem, *]
          have c3__0_4 := c3__0 4; conv at c3__0_4 => rhs; simp [go_sem, *]
          have f3__0_4 := f3__0 4; conv at f3__0_4 => rhs; simp [go_sem, *]
          have c3__0_5 := c3__0 5; conv at c3__0_5 => rhs; simp [go_sem, *]
          have f3__0_5 := f3__0 5; conv at f3__0_5 => rhs; simp [go_sem, *]
          obtain ⟨c3__1, f3__1⟩ := bk hb_w3 (w.heap.size + 1) (by first | omega | (simp <;> omega))
          have c3__1_0 := c3__1 0; conv at c3__1_0 => rhs; simp [go_sem, *]
          have f3__1_0 := f3__1 0; conv at f3__1_0 => rhs; simp [go_sem, *]
          have c3__1_1 := c3__1 1; conv at c3__1_1 => rhs; simp [go_sem, *]
          have f3__1_1 := f3__1 1; conv at f3__1_1 => rhs; simp [go_sem, *]
          have c3__1_2 := c3__1 2; conv at c3__1_2 => rhs; simp [go_sem, *]
          have f3__1_2 := f3__1 2; conv at f3__1_2 => rhs; simp [go_sem, *]
          have c3__1_3 := c3__1 3; conv at c3__1_3 => rhs; simp [go_sem, *]
          have f3__1_3 := f3__1 3; conv at f3__1_3 => rhs; simp [go_sem, *]
          have c3__1_4 := c3__1 4; conv at c3__1_4 => rhs; simp [go_sem, *]
          have f3__1_4 := f3__1 4; conv at f3__1_4 => rhs; simp [go_sem, *]
          have c3__1_5 := c3__1 5; conv at c3__1_5 => rhs; simp [go_sem, *]
          have f3__1_5 := f3__1 5; conv at f3__1_5 => rhs; simp [go_sem, *]
          have HH_w3 := Lib.hid hb_w3
          have hB_w3 : Below w.heap.size w w3 := Below.trans (by (repeat (first | with_reducible exact Below.refl _ _ | with_reducible assumption | with_reducible refine Below.drew ?_ | (with_reducible refine Below.setCell ?_ ?_ _; rotate_left; (first | omega | (simp <;> omega))) | (with_reducible refine Below.alloc ?_ ?_ _; rotate_left; (first | omega | (simp <;> omega))) | exact Below.refl _ _ | assumption))) (hb_w3.mono (by first | omega | (simp <;> omega)))
          clear hb_w3 c3__0 f3__0 c3__1 f3__1
          try clear c2__0_0 f2__0_0 c2__0_1 f2__0_1 c2__0_2 f2__0_2 c2__0_3 f2__0_3 c2__0_4 f2__0_4 c2__0_5 f2__0_5 c2__1_0 f2__1_0 c2__1_1 f2__1_1 c2__1_2 f2__1_2 c2__1_3 f2__1_3 c2__1_4 f2__1_4 c2__1_5 f2__1_5 far_w2_w_0 far_w2_w_1 hB_w2
          have far_w3_w_0 := far (show w.heap.size < w3.heap.size by omega)
          have far_w3_w_1 := far (show w.heap.size + 1 < w3.heap.size by omega)
          go_wp2
          refine bodyPost_ret (v := .tuple #[uv true (ls.take k) 0 [] false [], .bool false]) (by simp [results, Tryz.results41, go_sem, *]) rfl ⟨by rw [HB.out]; rfl, ?_⟩
          (repeat (first | with_reducible exact Below.refl _ _ | with_reducible assumption | with_reducible refine Below.drew ?_ | (with_reducible refine Below.setCell ?_ ?_ _; rotate_left; (first | omega | (simp <;> omega))) | (with_reducible refine Below.alloc ?_ ?_ _; rotate_left; (first | omega | (simp <;> omega))) | exact Below.refl _ _ | assumption))
      · have HB := Lib.hid (show (decide ((k : Int) < 0) || (decide (0 = 0) && decide ((s.length : Int) - k - 1 ≤ 5) && decide (0 < rv))) = false by simp [h2])
        go_enter Tryz.func41, Tryz.ntmps41
        go_wp2_with fail
        refine Calls.mono (C1.out _) ?_
        rintro e w1 ⟨rfl, hb_w1⟩
        have hz_w1 := hb_w1.size
        try simp at hz_w1
        obtain ⟨c1__0, f1__0⟩ := bk hb_w1 (w.heap.size) (by first | omega | (simp <;> omega))
        have c1__0_0 := c1__0 0; conv at c1__0_0 => rhs; simp [go_sem, *]
        have f1__0_0 := f1__0 0; conv at f1__0_0 => rhs; simp [go_sem, *]
        have c1__0_1 := c1__0 1; conv at c1__0_1 => rhs; simp [go_sem, *]
        have f1__0_1 := f1__0 1; conv at f1__0_1 => rhs; simp [go_sem, *]
        have c1__0_2 := c1__0 2; conv at c1__0_2 => rhs; simp [go_sem, *]
        have f1__0_2 := f1__0 2; conv at f1__0_2 => rhs; simp [go_sem, *]
        have c1__0_3 := c1__0 3; conv at c1__0_3 => rhs; simp [go_sem, *]
        have f1__0_3 := f1__0 3; conv at f1__0_3 => rhs; simp [go_sem, *]
        have c1__0_4 := c1__0 4; conv at c1__0_4 => rhs; simp [go_sem, *]
        have f1__0_4 := f1__0 4; conv at f1__0_4 => rhs; simp [go_sem, *]
        have c1__0_5 := c1__0 5; conv at c1__0_5 => rhs; simp [go_sem, *]
        have f1__0_5 := f1__0 5; conv at f1__0_5 => rhs; simp [go_sem, *]
        obtain ⟨c1__1, f1__1⟩ := bk hb_w1 (w.heap.size + 1) (by first | omega | (simp <;> omega))
        have c1__1_0 := c1__1 0; conv at c1__1_0 => rhs; simp [go_sem, *]
        have f1__1_0 := f1__1 0; conv at f1__1_0 => rhs; simp [go_sem, *]
        have c1__1_1 := c1__1 1; conv at c1__1_1 => rhs; simp [go_sem, *]
        have f1__1_1 := f1__1 1; conv at f1__1_1 => rhs; simp [go_sem, *]
        have c1__1_2 := c1__1 2; conv at c1__1_2 => rhs; simp [go_sem, *]
        have f1__1_2 := f1__1 2; conv at f1__1_2 => rhs; simp [go_sem, *]
        have c1__1_3 := c1__1 3; conv at c1__1_3 => rhs; simp [go_sem, *]
        have f1__1_3 := f1__1 3; conv at f1__1_3 => rhs; simp [go_sem, *]
        have c1__1_4 := c1__1 4; conv at c1__1_4 => rhs; simp [go_sem, *]
        have f1__1_4 := f1__1 4; conv at f1__1_4 => rhs; simp [go_sem, *]
        have c1__1_5 := c1__1 5; conv at c1__1_5 => rhs; simp [go_sem, *]
        have f1__1_5 := f1__1 5; conv at f1__1_5 => rhs; simp [go_sem, *]
        have HH_w1 := Lib.hid hb_w1
        have hB_w1 : Below w.heap.size w w1 := Below.trans (by (repeat (first | with_reducible exact Below.refl _ _ | with_reducible assumption | with_reducible refine Below.drew ?_ | (with_reducible refine Below.setCell ?_ ?_ _; rotate_left; (first | omega | (simp <;> omega))) | (with_reducible refine Below.alloc ?_ ?_ _; rotate_left; (first | omega | (simp <;> omega))) | exact Below.refl _ _ | assumption))) (hb_w1.mono (by first | omega | (simp <;> omega)))
        clear hb_w1 c1__0 f1__0 c1__1 f1__1
        try clear c3__0_0 f3__0_0 c3__0_1 f3__0_1 c3__0_2 f3__0_2 c3__0_3 f3__0_3 c3__0_4 f3__0_4 c3__0_5 f3__0_5 c3__1_0 f3__1_0 c3__1_1 f3__1_1 c3__1_2 f3__1_2 c3__1_3 f3__1_3 c3__1_4 f3__1_4 c3__1_5 f3__1_5 far_w3_w_0 far_w3_w_1 hB_w3
        have far_w1_w_0 := far (show w.heap.size < w1.heap.size by omega)
        have far_w1_w_1 := far (show w.heap.size + 1 < w1.heap.size by omega)
        go_wp2_with fail
        refine Calls.mono (same_below (C2.out _)) ?_
        rintro e w2 ⟨rfl, hb_w2⟩
        have hz_w2 := hb_w2.size
        try simp at hz_w2
        obtain ⟨c2__0, f2__0⟩ := bk hb_w2 (w.heap.size) (by first | omega | (simp <;> omega))
        have c2__0_0 := c2__0 0; conv at c2__0_0 => rhs; simp [go_sem, *]
        have f2__0_0 := f2__0 0; conv at f2__0_0 => rhs; simp [go_sem, *]
        have c2__0_1 := c2__0 1; conv at c2__0_1 => rhs; simp [go_sem, *]
        have f2__0_1 := f2__0 1; conv at f2__0_1 => rhs; simp [go_sem, *]
        have c2__0_2 := c2__0 2; conv at c2__0_2 => rhs; simp [go_sem, *]
        have f2__0_2 := f2__0 2; conv at f2__0_2 => rhs; simp [go_sem, *]
        have c2__0_3 := c2__0 3; conv at c2__0_3 => rhs; simp [go_sem, *]
        have f2__0_3 := f2__0 3; conv at f2__0_3 => rhs; simp [go_sem, *]
        have c2__0_4 := c2__0 4; conv at c2__0_4 => rhs; simp [go_sem, *]
        have f2__0_4 := f2__0 4; conv at f2__0_4 => rhs; simp [go_sem, *]
        have c2__0_5 := c2__0 5; conv at c2__0_5 => rhs; simp [go_sem, *]
        have f2__0_5 := f2__0 5; conv at f2__0_5 => rhs; simp [go_sem, *]
        obtain ⟨c2__1, f2__1⟩ := bk hb_w2 (w.heap.size + 1) (by first | omega | (simp <;> omega))
        have c2__1_0 := c2__1 0; conv at c2__1_0 => rhs; simp [go_sem, *]
        have f2__1_0 := f2__1 0; conv at f2__1_0 => rhs; simp [go_sem, *]
        have c2__1_1 := c2__1 1; conv at c2__1_1 => rhs; simp [go_sem, *]
        have f2__1_1 := f2__1 1; conv at f2__1_1 => rhs; simp [go_sem, *]
        have c2__1_2 := c2__1 2; conv at c2__1_2 => rhs; simp [go_sem, *]
        have f2__1_2 := f2__1 2; conv at f2__1_2 => rhs; simp [go_sem, *]
        have c2__1_3 := c2__1 3; conv at c2__1_3 => rhs; simp [go_sem, *]
        have f2__1_3 := f2__1 3; conv at f2__1_3 => rhs; simp [go_sem, *]
        have c2__1_4 := c2__1 4; conv at c2__1_4 => rhs; simp [go_sem, *]
        have f2__1_4 := f2__1 4; conv at f2__1_4 => rhs; simp [go_sem, *]
        have c2__1_5 := c2__1 5; conv at c2__1_5 => rhs; simp [go_sem, *]
        have f2__1_5 := f2__1 5; conv at f2__1_5 => rhs; simp [go_sem, *]
        have HH_w2 := Lib.hid hb_w2
        have hB_w2 : Below w.heap.size w w2 := Below.trans (by (repeat (first | with_reducible exact Below.refl _ _ | with_reducible assumption | with_reducible refine Below.drew ?_ | (with_reducible refine Below.setCell ?_ ?_ _; rotate_left; (first | omega | (simp <;> omega))) | (with_reducible refine Below.alloc ?_ ?_ _; rotate_left; (first | omega | (simp <;> omega))) | exact Below.refl _ _ | assumption))) (hb_w2.mono (by first | omega | (simp <;> omega)))
        clear hb_w2 c2__0 f2__0 c2__1 f2__1
        try clear c1__0_0 f1__0_0 c1__0_1 f1__0_1 c1__0_2 f1__0_2 c1__0_3 f1__0_3 c1__0_4 f1__0_4 c1__0_5 f1__0_5 c1__1_0 f1__1_0 c1__1_1 f1__1_1 c1__1_2 f1__1_2 c1__1_3 f1__1_3 c1__1_4 f1__1_4 c1__1_5 f1__1_5 far_w1_w_0 far_w1_w_1 hB_w1
        have far_w2_w_0 := far (show w.heap.size < w2.heap.size by omega)
        have far_w2_w_1 := far (show w.heap.size + 1 < w2.heap.size by omega)
        go_wp2_with fail
        refine Calls.mono (same_below (C3.out _)) ?_
        rintro e w3 ⟨rfl, hb_w3⟩
        have hz_w3 := hb_w3.size
        try simp at hz_w3
        obtain ⟨c3__0, f3__0⟩ := bk hb_w3 (w.heap.size) (by first | omega | (simp <;> omega))
        have c3__0_0 := c3__0 0; conv at c3__0_0 => rhs; simp [go_sem, *]
        have f3__0_0 := f3__0 0; conv at f3__0_0 => rhs; simp [go_sem, *]
        have c3__0_1 := c3__0 1; conv at c3__0_1 => rhs; simp [go_sem, *]
        have f3__0_1 := f3__0 1; conv at f3__0_1 => rhs; simp [go_sem, *]
        have c3__0_2 := c3__0 2; conv at c3__0_2 => rhs; simp [go_sem, *]
        have f3__0_2 := f3__0 2; conv at f3__0_2 => rhs; simp [go_sem, *]
        have c3__0_3 := c3__0 3; conv at c3__0_3 => rhs; simp [go_sem, *]
        have f3__0_3 := f3__0 3; conv at f3__0_3 => rhs; simp [go_sem, *]
        have c3__0_4 := c3__0 4; conv at c3__0_4 => rhs; simp [go_sem, *]
        have f3__0_4 := f3__0 4; conv at f3__0_4 => rhs; simp [go_sem, *]
        have c3__0_5 := c3__0 5; conv at c3__0_5 => rhs; simp [go_sem, *]
        have f3__0_5 := f3__0 5; conv at f3__0_5 => rhs; simp [go_sem, *]
        obtain ⟨c3__1, f3__1⟩ := bk hb_w3 (w.heap.size + 1) (by first | omega | (simp <;> omega))
        have c3__1_0 := c3__1 0; conv at c3__1_0 => rhs; simp [go_sem, *]
        have f3__1_0 := f3__1 0; conv at f3__1_0 => rhs; simp [go_sem, *]
        have c3__1_1 := c3__1 1; conv at c3__1_1 => rhs; simp [go_sem, *]
        have f3__1_1 := f3__1 1; conv at f3__1_1 => rhs; simp [go_sem, *]
        have c3__1_2 := c3__1 2; conv at c3__1_2 => rhs; simp [go_sem, *]
        have f3__1_2 := f3__1 2; conv at f3__1_2 => rhs; simp [go_sem, *]
        have c3__1_3 := c3__1 3; conv at c3__1_3 => rhs; simp [go_sem, *]
        have f3__1_3 := f3__1 3; conv at f3__1_3 => rhs; simp [go_sem, *]
        have c3__1_4 := c3__1 4; conv at c3__1_4 => rhs; simp [go_sem, *]
        have f3__1_4 := f3__1 4; conv at f3__1_4 => rhs; simp [go_sem, *]
        have c3__1_5 := c3__1 5; conv at c3__1_5 => rhs; simp [go_sem, *]
        have f3__1_5 := f3__1 5; conv at f3__1_5 => rhs; simp [go_sem, *]
        have HH_w3 := Lib.hid hb_w3
        have hB_w3 : Below w.heap.size w w3 := Below.trans (by (repeat (first | with_reducible exact Below.refl _ _ | with_reducible assumption | with_reducible refine Below.drew ?_ | (with_reducible refine Below.setCell ?_ ?_ _; rotate_left; (first | omega | (simp <;> omega))) | (with_reducible refine Below.alloc ?_ ?_ _; rotate_left; (first | omega | (simp <;> omega))) | exact Below.refl _ _ | assumption))) (hb_w3.mono (by first | omega | (simp <;> omega)))
        clear hb_w3 c3__0 f3__0 c3__1 f3__1
        try clear c2__0_0 f2__0_0 c2__0_1 f2__0_1 c2__0_2 f2__0_2 c2__0_3 f2__0_3 c2__0_4 f2__0_4 c2__0_5 f2__0_5 c2__1_0 f2__1_0 c2__1_1 f2__1_1 c2__1_2 f2__1_2 c2__1_3 f2__1_3 c2__1_4 f2__1_4 c2__1_5 f2__1_5 far_w2_w_0 far_w2_w_1 hB_w2
        have far_w3_w_0 := far (show w.heap.size < w3.heap.size by omega)
        have far_w3_w_1 := far (show w.heap.size + 1 < w3.heap.size by omega)
        go_wp2
        refine bodyPost_ret (v := .tuple #[uv true (ls.take k) rv [] false [], .bool false]) (by simp [results, Tryz.results41, go_sem, *]) rfl ⟨by simp; omega, ?_⟩
        (repeat (first | with_reducible exact Below.refl _ _ | with_reducible assumption | with_reducible refine Below.drew ?_ | (with_reducible refine Below.setCell ?_ ?_ _; rotate_left; (first | omega | (simp <;> omega))) | (with_reducible refine Below.alloc ?_ ?_ _; rotate_left; (first | omega | (simp <;> omega))) | exact Below.refl _ _ | assumption))
    · have HB := Lib.hid (show (decide ((k : Int) < 0) || (decide (re = 0) && decide ((s.length : Int) - k - 1 ≤ 5) && decide (0 < rv))) = false by simp [h1])
      have h1' : ¬ (re : Int) = 0 := by omega
      have h1a : ((re : Int) != 0) = true := by simpa using h1
      have h1b : ((re : Int) == 0) = false := by simpa using h1
      go_enter Tryz.func41, Tryz.ntmps41
      go_wp2_with fail
      refine Calls.mono (C1.out _) ?_
      rintro e w1 ⟨rfl, hb_w1⟩
      have hz_w1 := hb_w1.size
      try simp at hz_w1
      obtain ⟨c1__0, f1__0⟩ := bk hb_w1 (w.heap.size) (by first | omega | (simp <;> omega))
      have c1__0_0 := c1__0 0; conv at c1__0_0 => rhs; simp [go_sem, *]
      have f1__0_0 := f1__0 0; conv at f1__0_0 => rhs; simp [go_sem, *]
      have c1__0_1 := c1__0 1; conv at c1__0_1 => rhs; simp [go_sem, *]
      have f1__0_1 := f1__0 1; conv at f1__0_1 => rhs; simp [go_sem, *]
      have c1__0_2 := c1__0 2; conv at c1__0_2 => rhs; simp [go_sem, *]
      have f1__0_2 := f1__0 2; conv at f1__0_2 => rhs; simp [go_sem, *]
      have c1__0_3 := c1__0 3; conv at c1__0_3 => rhs; simp [go_sem, *]
      have f1__0_3 := f1__0 3; conv at f1__0_3 => rhs; simp [go_sem, *]
      have c1__0_4 := c1__0 4; conv at c1__0_4 => rhs; simp [go_sem, *]
      have f1__0_4 := f1__0 4; conv at f1__0_4 => rhs; simp [go_sem, *]
      have c1__0_5 := c1__0 5; conv at c1__0_5 => rhs; simp [go_sem, *]
      have f1__0_5 := f1__0 5; conv at f1__0_5 => rhs; simp [go_sem, *]
      obtain ⟨c1__1, f1__1⟩ := bk hb_w1 (w.heap.size + 1) (by first | omega | (simp <;> omega))
      have c1__1_0 := c1__1 0; conv at c1__1_0 => rhs; simp [go_sem, *]
      have f1__1_0 := f1__1 0; conv at f1__1_0 => rhs; simp [go_sem, *]
      have c1__1_1 := c1__1 1; conv at c1__1_1 => rhs; simp [go_sem, *]
      have f1__1_1 := f1__1 1; conv at f1__1_1 => rhs; simp [go_sem, *]
      have c1__1_2 := c1__1 2; conv at c1__1_2 => rhs; simp [go_sem, *]
      have f1__1_2 := f1__1 2; conv at f1__1_2 => rhs; simp [go_sem, *]
      have c1__1_3 := c1__1 3; conv at c1__1_3 => rhs; simp [go_sem, *]
      have f1__1_3 := f1__1 3; conv at f1__1_3 => rhs; simp [go_sem, *]
      have c1__1_4 := c1__1 4; conv at c1__1_4 => rhs; simp [go_sem, *]
      have f1__1_4 := f1__1 4; conv at f1__1_4 => rhs; simp [go_sem, *]
      have c1__1_5 := c1__1 5; conv at c1__1_5 => rhs; simp [go_sem, *]
      have f1__1_5 := f1__1 5; conv at f1__1_5 => rhs; simp [go_sem, *]
      have HH_w1 := Lib.hid hb_w1
      have hB_w1 : Below w.heap.size w w1 := Below.trans (by (repeat (first | with_reducible exact Below.refl _ _ | with_reducible assumption | with_reducible refine Below.drew ?_ | (with_reducible refine Below.setCell ?_ ?_ _; rotate_left; (first | omega | (simp <;> omega))) | (with_reducible refine Below.alloc ?_ ?_ _; rotate_left; (first | omega | (simp <;> omega))) | exact Below.refl _ _ | assumption))) (hb_w1.mono (by first | omega | (simp <;> omega)))
      clear hb_w1 c1__0 f1__0 c1__1 f1__1
      try clear c3__0_0 f3__0_0 c3__0_1 f3__0_1 c3__0_2 f3__0_2 c3__0_3 f3__0_3 c3__0_4 f3__0_4 c3__0_5 f3__0_5 c3__1_0 f3__1_0 c3__1_1 f3__1_1 c3__1_2 f3__1_2 c3__1_3 f3__1_3 c3__1_4 f3__1_4 c3__1_5 f3__1_5 far_w3_w_0 far_w3_w_1 hB_w3
      have far_w1_w_0 := far (show w.heap.size < w1.heap.size by omega)
      have far_w1_w_1 := far (show w.heap.size + 1 < w1.heap.size by omega)
      go_wp2_with fail
      refine Calls.mono (same_below (C2.out _)) ?_
      rintro e w2 ⟨rfl, hb_w2⟩
      have hz_w2 := hb_w2.size
      try simp at hz_w2
      obtain ⟨c2__0, f2__0⟩ := bk hb_w2 (w.heap.size) (by first | omega | (simp <;> omega))
      have c2__0_0 := c2__0 0; conv at c2__0_0 => rhs; simp [go_sem, *]
      have f2__0_0 := f2__0 0; conv at f2__0_0 => rhs; simp [go_sem, *]
      have c2__0_1 := c2__0 1; conv at c2__0_1 => rhs; simp [go_sem, *]
      have f2__0_1 := f2__0 1; conv at f2__0_1 => rhs; simp [go_sem, *]
      have c2__0_2 := c2__0 2; conv at c2__0_2 => rhs; simp [go_sem, *]
      have f2__0_2 := f2__0 2; conv at f2__0_2 => rhs; simp [go_sem, *]
      have c2__0_3 := c2__0 3; conv at c2__0_3 => rhs; simp [go_sem, *]
      have f2__0_3 := f2__0 3; conv at f2__0_3 => rhs; simp [go_sem, *]
      have c2__0_4 := c2__0 4; conv at c2__0_4 => rhs; simp [go_sem, *]
      have f2__0_4 := f2__0 4; conv at f2__0_4 => rhs; simp [go_sem, *]
      have c2__0_5 := c2__0 5; conv at c2__0_5 => rhs; simp [go_sem, *]
      have f2__0_5 := f2__0 5; conv at f2__0_5 => rhs; simp [go_sem, *]
      obtain ⟨c2__1, f2__1⟩ := bk hb_w2 (w.heap.size + 1) (by first | omega | (simp <;> omega))
      have c2__1_0 := c2__1 0; conv at c2__1_0 => rhs; simp [go_sem, *]
      have f2__1_0 := f2__1 0; conv at f2__1_0 => rhs; simp [go_sem, *]
      have c2__1_1 := c2__1 1; conv at c2__1_1 => rhs; simp [go_sem, *]
      have f2__1_1 := f2__1 1; conv at f2__1_1 => rhs; simp [go_sem, *]
      have c2__1_2 := c2__1 2; conv at c2__1_2 => rhs; simp [go_sem, *]
      have f2__1_2 := f2__1 2; conv at f2__1_2 => rhs; simp [go_sem, *]
      have c2__1_3 := c2__1 3; conv at c2__1_3 => rhs; simp [go_sem, *]
      have f2__1_3 := f2__1 3; conv at f2__1_3 => rhs; simp [go_sem, *]
      have c2__1_4 := c2__1 4; conv at c2__1_4 => rhs; simp [go_sem, *]
      have f2__1_4 := f2__1 4; conv at f2__1_4 => rhs; simp [go_sem, *]
      have c2__1_5 := c2__1 5; conv at c2__1_5 => rhs; simp [go_sem, *]
      have f2__1_5 := f2__1 5; conv at f2__1_5 => rhs; simp [go_sem, *]
      have HH_w2 := Lib.hid hb_w2
      have hB_w2 : Below w.heap.size w w2 := Below.trans (by (repeat (first | with_reducible exact Below.refl _ _ | with_reducible assumption | with_reducible refine Below.drew ?_ | (with_reducible refine Below.setCell ?_ ?_ _; rotate_left; (first | omega | (simp <;> omega))) | (with_reducible refine Below.alloc ?_ ?_ _; rotate_left; (first | omega | (simp <;> omega))) | exact Below.refl _ _ | assumption))) (hb_w2.mono (by first | omega | (simp <;> omega)))
      clear hb_w2 c2__0 f2__0 c2__1 f2__1
      try clear c1__0_0 f1__0_0 c1__0_1 f1__0_1 c1__0_2 f1__0_2 c1__0_3 f1__0_3 c1__0_4 f1__0_4 c1__0_5 f1__0_5 c1__1_0 f1__1_0 c1__1_1 f1__1_1 c1__1_2 f1__1_2 c1__1_3 f1__1_3 c1__1_4 f1__1_4 c1__1_5 f1__1_5 far_w1_w_0 far_w1_w_1 hB_w1
      have far_w2_w_0 := far (show w.heap.size < w2.heap.size by omega)
      have far_w2_w_1 := far (show w.heap.size + 1 < w2.heap.size by omega)
      go_wp2_with fail
      refine Calls.mono (same_below (C3.out _)) ?_
      rintro e w3 ⟨rfl, hb_w3⟩
      have hz_w3 := hb_w3.size
      try simp at hz_w3
      obtain ⟨c3__0, f3__0⟩ := bk hb_w3 (w.heap.size) (by first | omega | (simp <;> omega))
      have c3__0_0 := c3__0 0; conv at c3__0_0 => rhs; simp [go_sem, *]
      have f3__0_0 := f3__0 0; conv at f3__0_0 => rhs; simp [go_sem, *]
      have c3__0_1 := c3__0 1; conv at c3__0_1 => rhs; simp [go_sem, *]
      have f3__0_1 := f3__0 1; conv at f3__0_1 => rhs; simp [go_sem, *]
      have c3__0_2 := c3__0 2; conv at c3__0_2 => rhs; simp [go_sem, *]
      have f3__0_2 := f3__0 2; conv at f3__0_2 => rhs; simp [go_sem, *]
      have c3__0_3 := c3__0 3; conv at c3__0_3 => rhs; simp [go_sem, *]
      have f3__0_3 := f3__0 3; conv at f3__0_3 => rhs; simp [go_sem, *]
      have c3__0_4 := c3__0 4; conv at c3__0_4 => rhs; simp [go_sem, *]
      have f3__0_4 := f3__0 4; conv at f3__0_4 => rhs; simp [go_sem, *]
      have c3__0_5 := c3__0 5; conv at c3__0_5 => rhs; simp [go_sem, *]
      have f3__0_5 := f3__0 5; conv at f3__0_5 => rhs; simp [go_sem, *]
      obtain ⟨c3__1, f3__1⟩ := bk hb_w3 (w.heap.size + 1) (by first | omega | (simp <;> omega))
      have c3__1_0 := c3__1 0; conv at c3__1_0 => rhs; simp [go_sem, *]
      have f3__1_0 := f3__1 0; conv at f3__1_0 => rhs; simp [go_sem, *]
      have c3__1_1 := c3__1 1; conv at c3__1_1 => rhs; simp [go_sem, *]
      have f3__1_1 := f3__1 1; conv at f3__1_1 => rhs; simp [go_sem, *]
      have c3__1_2 := c3__1 2; conv at c3__1_2 => rhs; simp [go_sem, *]
      have f3__1_2 := f3__1 2; conv at f3__1_2 => rhs; simp [go_sem, *]
      have c3__1_3 := c3__1 3; conv at c3__1_3 => rhs; simp [go_sem, *]
      have f3__1_3 := f3__1 3; conv at f3__1_3 => rhs; simp [go_sem, *]
      have c3__1_4 := c3__1 4; conv at c3__1_4 => rhs; simp [go_sem, *]
      have f3__1_4 := f3__1 4; conv at f3__1_4 => rhs; simp [go_sem, *]
      have c3__1_5 := c3__1 5; conv at c3__1_5 => rhs; simp [go_sem, *]
      have f3__1_5 := f3__1 5; conv at f3__1_5 => rhs; simp [go_sem, *]
      have HH_w3 := Lib.hid hb_w3
      have hB_w3 : Below w.heap.size w w3 := Below.trans (by (repeat (first | with_reducible exact Below.refl _ _ | with_reducible assumption | with_reducible refine Below.drew ?_ | (with_reducible refine Below.setCell ?_ ?_ _; rotate_left; (first | omega | (simp <;> omega))) | (with_reducible refine Below.alloc ?_ ?_ _; rotate_left; (first | omega | (simp <;> omega))) | exact Below.refl _ _ | assumption))) (hb_w3.mono (by first | omega | (simp <;> omega)))
      clear hb_w3 c3__0 f3__0 c3__1 f3__1
      try clear c2__0_0 f2__0_0 c2__0_1 f2__0_1 c2__0_2 f2__0_2 c2__0_3 f2__0_3 c2__0_4 f2__0_4 c2__0_5 f2__0_5 c2__1_0 f2__1_0 c2__1_1 f2__1_1 c2__1_2 f2__1_2 c2__1_3 f2__1_3 c2__1_4 f2__1_4 c2__1_5 f2__1_5 far_w2_w_0 far_w2_w_1 hB_w2
      have far_w3_w_0 := far (show w.heap.size < w3.heap.size by omega)
      have far_w3_w_1 := far (show w.heap.size + 1 < w3.heap.size by omega)
      go_wp2
      refine bodyPost_ret (v := .tuple #[uv true (ls.take k) rv [] false [], .bool false]) (by simp [results, Tryz.results41, go_sem, *]) rfl ⟨by rw [HB.out], ?_⟩
      (repeat (first | with_reducible exact Below.refl _ _ | with_reducible assumption | with_reducible refine Below.drew ?_ | (with_reducible refine Below.setCell ?_ ?_ _; rotate_left; (first | omega | (simp <;> omega))) | (with_reducible refine Below.alloc ?_ ?_ _; rotate_left; (first | omega | (simp <;> omega))) | exact Below.refl _ _ | assumption))

theorem lower_take (s : List UInt8) (k : Nat) : lower (s.take k) = (lower s).take k := by unfold lower; rw [List.map_take]

set_option maxHeartbeats 3200000 in
set_option maxRecDepth 100000 in
theorem refPlace (s : List UInt8) (hs : s.length ≤ 1000000) (w : World) :
    Calls Tryz.prog 51 #[.string (S s)] w fun e w' => e = .returned (uv true (placeH s) (if placeB s then placeN s else -1) [] false []) ∧ Below w.heap.size w w' := by
  have C1 := Lib.hid (fun W => refLower s (by omega) W)
  have C2 := Lib.hid (fun W => last_S (l := s) (c := 58) (ci := 58) rfl (by omega) rfl W)
  have C3 := Lib.hid (fun W => refRead 10 (by omega) (by omega) (s.drop ((lastL s 58).toNat + 1)) (by rw [List.length_drop]; omega) W)
  have C4 := Lib.hid (fun W => show Calls Tryz.prog 50 #[.string (S (s.take (lastL s 58).toNat))] W fun e w' => e = .returned (.string (S ((lower s).take (lastL s 58).toNat))) ∧ Below W.heap.size W w' from lower_take s _ ▸ refLower (s.take (lastL s 58).toNat) (by rw [List.length_take]; omega) W)
  rw [read_dec] at C3
  have HN := readN_le decV 10 (s.drop ((lastL s 58).toNat + 1))
  unfold placeH placeN placeB placeR
  have hlo := lastL_lo s 58
  have hhi := lastL_hi s 58
  obtain ⟨i, hi⟩ : ∃ i, lastL s 58 = i := ⟨_, rfl⟩
  rw [hi] at C2 C3 C4 hlo hhi HN ⊢
  clear hi
  have hlen := lower_len s
  obtain ⟨ls, hls⟩ : ∃ x, lower s = x := ⟨_, rfl⟩
  rw [hls] at C1 C4 hlen ⊢
  clear hls
  by_cases h0 : i < 0
  · go_enter Tryz.func51, Tryz.ntmps51
    go_wp2_with fail
    refine Calls.mono (same_below (C2.out _)) ?_
    rintro e w1 ⟨rfl, hb_w1⟩
    have hz_w1 := hb_w1.size
    try simp at hz_w1
    obtain ⟨c1__0, f1__0⟩ := bk hb_w1 (w.heap.size) (by first | omega | (simp <;> omega))
    have c1__0_0 := c1__0 0; conv at c1__0_0 => rhs; simp [go_sem, *]
    have f1__0_0 := f1__0 0; conv at f1__0_0 => rhs; simp [go_sem, *]
    have c1__0_1 := c1__0 1; conv at c1__0_1 => rhs; simp [go_sem, *]
    have f1__0_1 := f1__0 1; conv at f1__0_1 => rhs; simp [go_sem, *]
    have c1__0_2 := c1__0 2; conv at c1__0_2 => rhs; simp [go_sem, *]
    have f1__0_2 := f1__0 2; conv at f1__0_2 => rhs; simp [go_sem, *]
    have c1__0_3 := c1__0 3; conv at c1__0_3 => rhs; simp [go_sem, *]
    have f1__0_3 := f1__0 3; conv at f1__0_3 => rhs; simp [go_sem, *]
    have c1__0_4 := c1__0 4; conv at c1__0_4 => rhs; simp [go_sem, *]
    have f1__0_4 := f1__0 4; conv at f1__0_4 => rhs; simp [go_sem, *]
    have c1__0_5 := c1__0 5; conv at c1__0_5 => rhs; simp [go_sem, *]
    have f1__0_5 := f1__0 5; conv at f1__0_5 => rhs; simp [go_sem, *]
    have HH_w1 := Lib.hid hb_w1
    have hB_w1 : Below w.heap.size w w1 := Below.trans (by (repeat (first | with_reducible exact Below.refl _ _ | with_reducible assumption | with_reducible refine Below.drew ?_ | (with_reducible refine Below.setCell ?_ ?_ _; rotate_left; (first | omega | (simp <;> omega))) | (with_reducible refine Below.alloc ?_ ?_ _; rotate_left; (first | omega | (simp <;> omega))) | exact Below.refl _ _ | assumption))) (hb_w1.mono (by first | omega | (simp <;> omega)))
    clear hb_w1 c1__0 f1__0
    have far_w1_w_0 := far (show w.heap.size < w1.heap.size by omega)
    go_wp2_with fail
    refine Calls.mono (C1.out _) ?_
    rintro e w2 ⟨rfl, hb_w2⟩
    have hz_w2 := hb_w2.size
    try simp at hz_w2
    obtain ⟨c2__0, f2__0⟩ := bk hb_w2 (w.heap.size) (by first | omega | (simp <;> omega))
    have c2__0_0 := c2__0 0; conv at c2__0_0 => rhs; simp [go_sem, *]
    have f2__0_0 := f2__0 0; conv at f2__0_0 => rhs; simp [go_sem, *]
    have c2__0_1 := c2__0 1; conv at c2__0_1 => rhs; simp [go_sem, *]
    have f2__0_1 := f2__0 1; conv at f2__0_1 => rhs; simp [go_sem, *]
    have c2__0_2 := c2__0 2; conv at c2__0_2 => rhs; simp [go_sem, *]
    have f2__0_2 := f2__0 2; conv at f2__0_2 => rhs; simp [go_sem, *]
    have c2__0_3 := c2__0 3; conv at c2__0_3 => rhs; simp [go_sem, *]
    have f2__0_3 := f2__0 3; conv at f2__0_3 => rhs; simp [go_sem, *]
    have c2__0_4 := c2__0 4; conv at c2__0_4 => rhs; simp [go_sem, *]
    have f2__0_4 := f2__0 4; conv at f2__0_4 => rhs; simp [go_sem, *]
    have c2__0_5 := c2__0 5; conv at c2__0_5 => rhs; simp [go_sem, *]
    have f2__0_5 := f2__0 5; conv at f2__0_5 => rhs; simp [go_sem, *]
    have HH_w2 := Lib.hid hb_w2
    have hB_w2 : Below w.heap.size w w2 := Below.trans (by (repeat (first | with_reducible exact Below.refl _ _ | with_reducible assumption | with_reducible refine Below.drew ?_ | (with_reducible refine Below.setCell ?_ ?_ _; rotate_left; (first | omega | (simp <;> omega))) | (with_reducible refine Below.alloc ?_ ?_ _; rotate_left; (first | omega | (simp <;> omega))) | exact Below.refl _ _ | assumption))) (hb_w2.mono (by first | omega | (simp <;> omega)))
    clear hb_w2 c2__0 f2__0
    try clear c1__0_0 f1__0_0 c1__0_1 f1__0_1 c1__0_2 f1__0_2 c1__0_3 f1__0_3 c1__0_4 f1__0_4 c1__0_5 f1__0_5 far_w1_w_0 hB_w1
    have far_w2_w_0 := far (show w.heap.size < w2.heap.size by omega)
    go_wp2
    all_goals (refine bodyPost_ret (v := uv true ls 0 [] false []) (by simp [results, Tryz.results51, go_sem, *]) rfl ⟨by simp <;> omega, ?_⟩)
    all_goals (repeat (first | with_reducible exact Below.refl _ _ | with_reducible assumption | with_reducible refine Below.drew ?_ | (with_reducible refine Below.setCell ?_ ?_ _; rotate_left; (first | omega | (simp <;> omega))) | (with_reducible refine Below.alloc ?_ ?_ _; rotate_left; (first | omega | (simp <;> omega))) | exact Below.refl _ _ | assumption))
  · obtain ⟨k, rfl⟩ : ∃ k : Nat, i = k := ⟨i.toNat, by omega⟩
    simp only [Int.toNat_natCast] at C3 C4 HN ⊢
    rw [if_neg h0, if_neg h0]
    obtain ⟨⟨rv, re⟩, hr⟩ : ∃ x, readN decV 10 (s.drop (k + 1)) = x := ⟨_, rfl⟩
    rw [hr] at C3 HN
    simp only [hr]
    simp only at C3 HN
    clear hr
    have hk : k < s.length := by omega
    have hw1 : IntKind.i64.wrap (rv : Int) = rv := by rw [IntKind.wrap_i64]; omega
    by_cases h1 : re = 0
    · subst h1
      by_cases h3 : rv = 0
      · subst h3
        go_enter Tryz.func51, Tryz.ntmps51
        go_wp2_with fail
        refine Calls.mono (same_below (C2.out _)) ?_
        rintro e w1 ⟨rfl, hb_w1⟩
        have hz_w1 := hb_w1.size
        try simp at hz_w1
        obtain ⟨c1__0, f1__0⟩ := bk hb_w1 (w.heap.size) (by first | omega | (simp <;> omega))
        have c1__0_0 := c1__0 0; conv at c1__0_0 => rhs; simp [go_sem, *]
        have f1__0_0 := f1__0 0; conv at f1__0_0 => rhs; simp [go_sem, *]
        have c1__0_1 := c1__0 1; conv at c1__0_1 => rhs; simp [go_sem, *]
        have f1__0_1 := f1__0 1; conv at f1__0_1 => rhs; simp [go_sem, *]
        have c1__0_2 := c1__0 2; conv at c1__0_2 => rhs; simp [go_sem, *]
        have f1__0_2 := f1__0 2; conv at f1__0_2 => rhs; simp [go_sem, *]
        have c1__0_3 := c1__0 3; conv at c1__0_3 => rhs; simp [go_sem, *]
        have f1__0_3 := f1__0 3; conv at f1__0_3 => rhs; simp [go_sem, *]
        have c1__0_4 := c1__0 4; conv at c1__0_4 => rhs; simp [go_sem, *]
        have f1__0_4 := f1__0 4; conv at f1__0_4 => rhs; simp [go_sem, *]
        have c1__0_5 := c1__0 5; conv at c1__0_5 => rhs; simp [go_sem, *]
        have f1__0_5 := f1__0 5; conv at f1__0_5 => rhs; simp [go_sem, *]
        have HH_w1 := Lib.hid hb_w1
        have hB_w1 : Below w.heap.size w w1 := Below.trans (by (repeat (first | with_reducible exact Below.refl _ _ | with_reducible assumption | with_reducible refine Below.drew ?_ | (with_reducible refine Below.setCell ?_ ?_ _; rotate_left; (first | omega | (simp <;> omega))) | (with_reducible refine Below.alloc ?_ ?_ _; rotate_left; (first | omega | (simp <;> omega))) | exact Below.refl _ _ | assumption))) (hb_w1.mono (by first | omega | (simp <;> omega)))
        clear hb_w1 c1__0 f1__0
        try clear c2__0_0 f2__0_0 c2__0_1 f2__0_1 c2__0_2 f2__0_2 c2__0_3 f2__0_3 c2__0_4 f2__0_4 c2__0_5 f2__0_5 far_w2_w_0 hB_w2
        have far_w1_w_0 := far (show w.heap.size < w1.heap.size by omega)
        go_wp2_with fail
        refine Calls.mono (same_below (C3.out _)) ?_
        rintro e w2 ⟨rfl, hb_w2⟩
        have hz_w2 := hb_w2.size
        try simp at hz_w2
        obtain ⟨c2__0, f2__0⟩ := bk hb_w2 (w.heap.size) (by first | omega | (simp <;> omega))
        have c2__0_0 := c2__0 0; conv at c2__0_0 => rhs; simp [go_sem, *]
        have f2__0_0 := f2__0 0; conv at f2__0_0 => rhs; simp [go_sem, *]
        have c2__0_1 := c2__0 1; conv at c2__0_1 => rhs; simp [go_sem, *]
        have f2__0_1 := f2__0 1; conv at f2__0_1 => rhs; simp [go_sem, *]
        have c2__0_2 := c2__0 2; conv at c2__0_2 => rhs; simp [go_sem, *]
        have f2__0_2 := f2__0 2; conv at f2__0_2 => rhs; simp [go_sem, *]
        have c2__0_3 := c2__0 3; conv at c2__0_3 => rhs; simp [go_sem, *]
        have f2__0_3 := f2__0 3; conv at f2__0_3 => rhs; simp [go_sem, *]
        have c2__0_4 := c2__0 4; conv at c2__0_4 => rhs; simp [go_sem, *]
        have f2__0_4 := f2__0 4; conv at f2__0_4 => rhs; simp [go_sem, *]
        have c2__0_5 := c2__0 5; conv at c2__0_5 => rhs; simp [go_sem, *]
        have f2__0_5 := f2__0 5; conv at f2__0_5 => rhs; simp [go_sem, *]
        have HH_w2 := Lib.hid hb_w2
        have hB_w2 : Below w.heap.size w w2 := Below.trans (by (repeat (first | with_reducible exact Below.refl _ _ | with_reducible assumption | with_reducible refine Below.drew ?_ | (with_reducible refine Below.setCell ?_ ?_ _; rotate_left; (first | omega | (simp <;> omega))) | (with_reducible refine Below.alloc ?_ ?_ _; rotate_left; (first | omega | (simp <;> omega))) | exact Below.refl _ _ | assumption))) (hb_w2.mono (by first | omega | (simp <;> omega)))
        clear hb_w2 c2__0 f2__0
        try clear c1__0_0 f1__0_0 c1__0_1 f1__0_1 c1__0_2 f1__0_2 c1__0_3 f1__0_3 c1__0_4 f1__0_4 c1__0_5 f1__0_5 far_w1_w_0 hB_w1
        have far_w2_w_0 := far (show w.heap.size < w2.heap.size by omega)
        go_wp2_with fail
        refine Calls.mono (C4.out _) ?_
        rintro e w3 ⟨rfl, hb_w3⟩
        have hz_w3 := hb_w3.size
        try simp at hz_w3
        obtain ⟨c3__0, f3__0⟩ := bk hb_w3 (w.heap.size) (by first | omega | (simp <;> omega))
        have c3__0_0 := c3__0 0; conv at c3__0_0 => rhs; simp [go_sem, *]
        have f3__0_0 := f3__0 0; conv at f3__0_0 => rhs; simp [go_sem, *]
        have c3__0_1 := c3__0 1; conv at c3__0_1 => rhs; simp [go_sem, *]
        have f3__0_1 := f3__0 1; conv at f3__0_1 => rhs; simp [go_sem, *]
        have c3__0_2 := c3__0 2; conv at c3__0_2 => rhs; simp [go_sem, *]
        have f3__0_2 := f3__0 2; conv at f3__0_2 => rhs; simp [go_sem, *]
        have c3__0_3 := c3__0 3; conv at c3__0_3 => rhs; simp [go_sem, *]
        have f3__0_3 := f3__0 3; conv at f3__0_3 => rhs; simp [go_sem, *]
        have c3__0_4 := c3__0 4; conv at c3__0_4 => rhs; simp [go_sem, *]
        have f3__0_4 := f3__0 4; conv at f3__0_4 => rhs; simp [go_sem, *]
        have c3__0_5 := c3__0 5; conv at c3__0_5 => rhs; simp [go_sem, *]
        have f3__0_5 := f3__0 5; conv at f3__0_5 => rhs; simp [go_sem, *]
        have HH_w3 := Lib.hid hb_w3
        have hB_w3 : Below w.heap.size w w3 := Below.trans (by (repeat (first | with_reducible exact Below.refl _ _ | with_reducible assumption | with_reducible refine Below.drew ?_ | (with_reducible refine Below.setCell ?_ ?_ _; rotate_left; (first | omega | (simp <;> omega))) | (with_reducible refine Below.alloc ?_ ?_ _; rotate_left; (first | omega | (simp <;> omega))) | exact Below.refl _ _ | assumption))) (hb_w3.mono (by first | omega | (simp <;> omega)))
        clear hb_w3 c3__0 f3__0
        try clear c2__0_0 f2__0_0 c2__0_1 f2__0_1 c2__0_2 f2__0_2 c2__0_3 f2__0_3 c2__0_4 f2__0_4 c2__0_5 f2__0_5 far_w2_w_0 hB_w2
        have far_w3_w_0 := far (show w.heap.size < w3.heap.size by omega)
        go_wp2
        all_goals (refine bodyPost_ret (v := uv true (ls.take k) (-1) [] false []) (by simp [results, Tryz.results51, go_sem, *]) rfl ⟨by simp <;> omega, ?_⟩)
        all_goals (repeat (first | with_reducible exact Below.refl _ _ | with_reducible assumption | with_reducible refine Below.drew ?_ | (with_reducible refine Below.setCell ?_ ?_ _; rotate_left; (first | omega | (simp <;> omega))) | (with_reducible refine Below.alloc ?_ ?_ _; rotate_left; (first | omega | (simp <;> omega))) | exact Below.refl _ _ | assumption))
      · have h3' : ¬ (rv : Int) = 0 := by omega
        have h3a : ((rv : Int) == 0) = false := by simpa using h3'
        have hk0 : decide ((k : Int) < 0) = false := by simp
        by_cases h2 : 6 < (s.length : Int) - k
        · have h4 : ¬ (s.length : Int) - k - 1 ≤ 5 := by omega
          have h2a : decide (6 < (s.length : Int) - k) = true := by simpa using h2
          go_enter Tryz.func51, Tryz.ntmps51
          go_wp2_with fail
          refine Calls.mono (same_below (C2.out _)) ?_
          rintro e w1 ⟨rfl, hb_w1⟩
          have hz_w1 := hb_w1.size
          try simp at hz_w1
          obtain ⟨c1__0, f1__0⟩ := bk hb_w1 (w.heap.size) (by first | omega | (simp <;> omega))
          have c1__0_0 := c1__0 0; conv at c1__0_0 => rhs; simp [go_sem, *]
          have f1__0_0 := f1__0 0; conv at f1__0_0 => rhs; simp [go_sem, *]
          have c1__0_1 := c1__0 1; conv at c1__0_1 => rhs; simp [go_sem, *]
          have f1__0_1 := f1__0 1; conv at f1__0_1 => rhs; simp [go_sem, *]
          have c1__0_2 := c1__0 2; conv at c1__0_2 => rhs; simp [go_sem, *]
          have f1__0_2 := f1__0 2; conv at f1__0_2 => rhs; simp [go_sem, *]
          have c1__0_3 := c1__0 3; conv at c1__0_3 => rhs; simp [go_sem, *]
          have f1__0_3 := f1__0 3; conv at f1__0_3 => rhs; simp [go_sem, *]
          have c1__0_4 := c1__0 4; conv at c1__0_4 => rhs; simp [go_sem, *]
          have f1__0_4 := f1__0 4; conv at f1__0_4 => rhs; simp [go_sem, *]
          have c1__0_5 := c1__0 5; conv at c1__0_5 => rhs; simp [go_sem, *]
          have f1__0_5 := f1__0 5; conv at f1__0_5 => rhs; simp [go_sem, *]
          have HH_w1 := Lib.hid hb_w1
          have hB_w1 : Below w.heap.size w w1 := Below.trans (by (repeat (first | with_reducible exact Below.refl _ _ | with_reducible assumption | with_reducible refine Below.drew ?_ | (with_reducible refine Below.setCell ?_ ?_ _; rotate_left; (first | omega | (simp <;> omega))) | (with_reducible refine Below.alloc ?_ ?_ _; rotate_left; (first | omega | (simp <;> omega))) | exact Below.refl _ _ | assumption))) (hb_w1.mono (by first | omega | (simp <;> omega)))
          clear hb_w1 c1__0 f1__0
          try clear c3__0_0 f3__0_0 c3__0_1 f3__0_1 c3__0_2 f3__0_2 c3__0_3 f3__0_3 c3__0_4 f3__0_4 c3__0_5 f3__0_5 far_w3_w_0 hB_w3
          have far_w1_w_0 := far (show w.heap.size < w1.heap.size by omega)
          go_wp2_with fail
          refine Calls.mono (same_below (C3.out _)) ?_
          rintro e w2 ⟨rfl, hb_w2⟩
          have hz_w2 := hb_w2.size
          try simp at hz_w2
          obtain ⟨c2__0, f2__0⟩ := bk hb_w2 (w.heap.size) (by first | omega | (simp <;> omega))
          have c2__0_0 := c2__0 0; conv at c2__0_0 => rhs; simp [go_sem, *]
          have f2__0_0 := f2__0 0; conv at f2__0_0 => rhs; simp [go_sem, *]
          have c2__0_1 := c2__0 1; conv at c2__0_1 => rhs; simp [go_sem, *]
          have f2__0_1 := f2__0 1; conv at f2__0_1 => rhs; simp [go_sem, *]
          have c2__0_2 := c2__0 2; conv at c2__0_2 => rhs; simp [go_sem, *]
          have f2__0_2 := f2__0 2; conv at f2__0_2 => rhs; simp [go_sem, *]
          have c2__0_3 := c2__0 3; conv at c2__0_3 => rhs; simp [go_sem, *]
          have f2__0_3 := f2__0 3; conv at f2__0_3 => rhs; simp [go_sem, *]
          have c2__0_4 := c2__0 4; conv at c2__0_4 => rhs; simp [go_sem, *]
          have f2__0_4 := f2__0 4; conv at f2__0_4 => rhs; simp [go_sem, *]
          have c2__0_5 := c2__0 5; conv at c2__0_5 => rhs; simp [go_sem, *]
          have f2__0_5 := f2__0 5; conv at f2__0_5 => rhs; simp [go_sem, *]
          have HH_w2 := Lib.hid hb_w2
          have hB_w2 : Below w.heap.size w w2 := Below.trans (by (repeat (first | with_reducible exact Below.refl _ _ | with_reducible assumption | with_reducible refine Below.drew ?_ | (with_reducible refine Below.setCell ?_ ?_ _; rotate_left; (first | omega | (simp <;> omega))) | (with_reducible refine Below.alloc ?_ ?_ _; rotate_left; (first | omega | (simp <;> omega))) | exact Below.refl _ _ | assumption))) (hb_w2.mono (by first | omega | (simp <;> omega)))
          clear hb_w2 c2__0 f2__0
          try clear c1__0_0 f1__0_0 c1__0_1 f1__0_1 c1__0_2 f1__0_2 c1__0_3 f1__0_3 c1__0_4 f1__0_4 c1__0_5 f1__0_5 far_w1_w_0 hB_w1
          have far_w2_w_0 := far (show w.heap.size < w2.heap.size by omega)
          go_wp2_with fail
          refine Calls.mono (C4.out _) ?_
          rintro e w3 ⟨rfl, hb_w3⟩
          have hz_w3 := hb_w3.size
          try simp at hz_w3
          obtain ⟨c3__0, f3__0⟩ := bk hb_w3 (w.heap.size) (by first | omega | (simp <;> omega))
          have c3__0_0 := c3__0 0; conv at c3__0_0 => rhs; simp [go_sem, *]
          have f3__0_0 := f3__0 0; conv at f3__0_0 => rhs; simp [go_sem, *]
          have c3__0_1 := c3__0 1; conv at c3__0_1 => rhs; simp [go_sem, *]
          have f3__0_1 := f3__0 1; conv at f3__0_1 => rhs; simp [go_sem, *]
          have c3__0_2 := c3__0 2; conv at c3__0_2 => rhs; simp [go_sem, *]
          have f3__0_2 := f3__0 2; conv at f3__0_2 => rhs; simp [go_sem, *]
          have c3__0_3 := c3__0 3; conv at c3__0_3 => rhs; simp [go_sem, *]
          have f3__0_3 := f3__0 3; conv at f3__0_3 => rhs; simp [go_sem, *]
          have c3__0_4 := c3__0 4; conv at c3__0_4 => rhs; simp [go_sem, *]
          have f3__0_4 := f3__0 4; conv at f3__0_4 => rhs; simp [go_sem, *]
          have c3__0_5 := c3__0 5; conv at c3__0_5 => rhs; simp [go_sem, *]
          have f3__0_5 := f3__0 5; conv at f3__0_5 => rhs; simp [go_sem, *]
          have HH_w3 := Lib.hid hb_w3
          have hB_w3 : Below w.heap.size w w3 := Below.trans (by (repeat (first | with_reducible exact Below.refl _ _ | with_reducible assumption | with_reducible refine Below.drew ?_ | (with_reducible refine Below.setCell ?_ ?_ _; rotate_left; (first | omega | (simp <;> omega))) | (with_reducible refine Below.alloc ?_ ?_ _; rotate_left; (first | omega | (simp <;> omega))) | exact Below.refl _ _ | assumption))) (hb_w3.mono (by first | omega | (simp <;> omega)))
          clear hb_w3 c3__0 f3__0
          try clear c2__0_0 f2__0_0 c2__0_1 f2__0_1 c2__0_2 f2__0_2 c2__0_3 f2__0_3 c2__0_4 f2__0_4 c2__0_5 f2__0_5 far_w2_w_0 hB_w2
          have far_w3_w_0 := far (show w.heap.size < w3.heap.size by omega)
          go_wp2
          all_goals (refine bodyPost_ret (v := uv true (ls.take k) (-1) [] false []) (by simp [results, Tryz.results51, go_sem, *]) rfl ⟨by simp <;> omega, ?_⟩)
          all_goals (repeat (first | with_reducible exact Below.refl _ _ | with_reducible assumption | with_reducible refine Below.drew ?_ | (with_reducible refine Below.setCell ?_ ?_ _; rotate_left; (first | omega | (simp <;> omega))) | (with_reducible refine Below.alloc ?_ ?_ _; rotate_left; (first | omega | (simp <;> omega))) | exact Below.refl _ _ | assumption))
        · have h4 : (s.length : Int) - k - 1 ≤ 5 := by omega
          have h2a : decide (6 < (s.length : Int) - k) = false := by simpa using h2
          have h5 : 0 < rv := by omega
          go_enter Tryz.func51, Tryz.ntmps51
          go_wp2_with fail
          refine Calls.mono (same_below (C2.out _)) ?_
          rintro e w1 ⟨rfl, hb_w1⟩
          have hz_w1 := hb_w1.size
          try simp at hz_w1
          obtain ⟨c1__0, f1__0⟩ := bk hb_w1 (w.heap.size) (by first | omega | (simp <;> omega))
          have c1__0_0 := c1__0 0; conv at c1__0_0 => rhs; simp [go_sem, *]
          have f1__0_0 := f1__0 0; conv at f1__0_0 => rhs; simp [go_sem, *]
          have c1__0_1 := c1__0 1; conv at c1__0_1 => rhs; simp [go_sem, *]
          have f1__0_1 := f1__0 1; conv at f1__0_1 => rhs; simp [go_sem, *]
          have c1__0_2 := c1__0 2; conv at c1__0_2 => rhs; simp [go_sem, *]
          have f1__0_2 := f1__0 2; conv at f1__0_2 => rhs; simp [go_sem, *]
          have c1__0_3 := c1__0 3; conv at c1__0_3 => rhs; simp [go_sem, *]
          have f1__0_3 := f1__0 3; conv at f1__0_3 => rhs; simp [go_sem, *]
          have c1__0_4 := c1__0 4; conv at c1__0_4 => rhs; simp [go_sem, *]
          have f1__0_4 := f1__0 4; conv at f1__0_4 => rhs; simp [go_sem, *]
          have c1__0_5 := c1__0 5; conv at c1__0_5 => rhs; simp [go_sem, *]
          have f1__0_5 := f1__0 5; conv at f1__0_5 => rhs; simp [go_sem, *]
          have HH_w1 := Lib.hid hb_w1
          have hB_w1 : Below w.heap.size w w1 := Below.trans (by (repeat (first | with_reducible exact Below.refl _ _ | with_reducible assumption | with_reducible refine Below.drew ?_ | (with_reducible refine Below.setCell ?_ ?_ _; rotate_left; (first | omega | (simp <;> omega))) | (with_reducible refine Below.alloc ?_ ?_ _; rotate_left; (first | omega | (simp <;> omega))) | exact Below.refl _ _ | assumption))) (hb_w1.mono (by first | omega | (simp <;> omega)))
          clear hb_w1 c1__0 f1__0
          try clear c3__0_0 f3__0_0 c3__0_1 f3__0_1 c3__0_2 f3__0_2 c3__0_3 f3__0_3 c3__0_4 f3__0_4 c3__0_5 f3__0_5 far_w3_w_0 hB_w3
          have far_w1_w_0 := far (show w.heap.size < w1.heap.size by omega)
          go_wp2_with fail
          refine Calls.mono (same_below (C3.out _)) ?_
          rintro e w2 ⟨rfl, hb_w2⟩
          have hz_w2 := hb_w2.size
          try simp at hz_w2
          obtain ⟨c2__0, f2__0⟩ := bk hb_w2 (w.heap.size) (by first | omega | (simp <;> omega))
          have c2__0_0 := c2__0 0; conv at c2__0_0 => rhs; simp [go_sem, *]
          have f2__0_0 := f2__0 0; conv at f2__0_0 => rhs; simp [go_sem, *]
          have c2__0_1 := c2__0 1; conv at c2__0_1 => rhs; simp [go_sem, *]
          have f2__0_1 := f2__0 1; conv at f2__0_1 => rhs; simp [go_sem, *]
          have c2__0_2 := c2__0 2; conv at c2__0_2 => rhs; simp [go_sem, *]
          have f2__0_2 := f2__0 2; conv at f2__0_2 => rhs; simp [go_sem, *]
          have c2__0_3 := c2__0 3; conv at c2__0_3 => rhs; simp [go_sem, *]
          have f2__0_3 := f2__0 3; conv at f2__0_3 => rhs; simp [go_sem, *]
          have c2__0_4 := c2__0 4; conv at c2__0_4 => rhs; simp [go_sem, *]
          have f2__0_4 := f2__0 4; conv at f2__0_4 => rhs; simp [go_sem, *]
          have c2__0_5 := c2__0 5; conv at c2__0_5 => rhs; simp [go_sem, *]
          have f2__0_5 := f2__0 5; conv at f2__0_5 => rhs; simp [go_sem, *]
          have HH_w2 := Lib.hid hb_w2
          have hB_w2 : Below w.heap.size w w2 := Below.trans (by (repeat (first | with_reducible exact Below.refl _ _ | with_reducible assumption | with_reducible refine Below.drew ?_ | (with_reducible refine Below.setCell ?_ ?_ _; rotate_left; (first | omega | (simp <;> omega))) | (with_reducible refine Below.alloc ?_ ?_ _; rotate_left; (first | omega | (simp <;> omega))) | exact Below.refl _ _ | assumption))) (hb_w2.mono (by first | omega | (simp <;> omega)))
          clear hb_w2 c2__0 f2__0
          try clear c1__0_0 f1__0_0 c1__0_1 f1__0_1 c1__0_2 f1__0_2 c1__0_3 f1__0_3 c1__0_4 f1__0_4 c1__0_5 f1__0_5 far_w1_w_0 hB_w1
          have far_w2_w_0 := far (show w.heap.size < w2.heap.size by omega)
          go_wp2_with fail
          refine Calls.mono (C4.out _) ?_
          rintro e w3 ⟨rfl, hb_w3⟩
          have hz_w3 := hb_w3.size
          try simp at hz_w3
          obtain ⟨c3__0, f3__0⟩ := bk hb_w3 (w.heap.size) (by first | omega | (simp <;> omega))
          have c3__0_0 := c3__0 0; conv at c3__0_0 => rhs; simp [go_sem, *]
          have f3__0_0 := f3__0 0; conv at f3__0_0 => rhs; simp [go_sem, *]
          have c3__0_1 := c3__0 1; conv at c3__0_1 => rhs; simp [go_sem, *]
          have f3__0_1 := f3__0 1; conv at f3__0_1 => rhs; simp [go_sem, *]
          have c3__0_2 := c3__0 2; conv at c3__0_2 => rhs; simp [go_sem, *]
          have f3__0_2 := f3__0 2; conv at f3__0_2 => rhs; simp [go_sem, *]
          have c3__0_3 := c3__0 3; conv at c3__0_3 => rhs; simp [go_sem, *]
          have f3__0_3 := f3__0 3; conv at f3__0_3 => rhs; simp [go_sem, *]
          have c3__0_4 := c3__0 4; conv at c3__0_4 => rhs; simp [go_sem, *]
          have f3__0_4 := f3__0 4; conv at f3__0_4 => rhs; simp [go_sem, *]
          have c3__0_5 := c3__0 5; conv at c3__0_5 => rhs; simp [go_sem, *]
          have f3__0_5 := f3__0 5; conv at f3__0_5 => rhs; simp [go_sem, *]
          have HH_w3 := Lib.hid hb_w3
          have hB_w3 : Below w.heap.size w w3 := Below.trans (by (repeat (first | with_reducible exact Below.refl _ _ | with_reducible assumption | with_reducible refine Below.drew ?_ | (with_reducible refine Below.setCell ?_ ?_ _; rotate_left; (first | omega | (simp <;> omega))) | (with_reducible refine Below.alloc ?_ ?_ _; rotate_left; (first | omega | (simp <;> omega))) | exact Below.refl _ _ | assumption))) (hb_w3.mono (by first | omega | (simp <;> omega)))
          clear hb_w3 c3__0 f3__0
          try clear c2__0_0 f2__0_0 c2__0_1 f2__0_1 c2__0_2 f2__0_2 c2__0_3 f2__0_3 c2__0_4 f2__0_4 c2__0_5 f2__0_5 far_w2_w_0 hB_w2
          have far_w3_w_0 := far (show w.heap.size < w3.heap.size by omega)
          go_wp2
          all_goals (refine bodyPost_ret (v := uv true (ls.take k) rv [] false []) (by simp [results, Tryz.results51, go_sem, *]) rfl ⟨by simp <;> omega, ?_⟩)
          all_goals (repeat (first | with_reducible exact Below.refl _ _ | with_reducible assumption | with_reducible refine Below.drew ?_ | (with_reducible refine Below.setCell ?_ ?_ _; rotate_left; (first | omega | (simp <;> omega))) | (with_reducible refine Below.alloc ?_ ?_ _; rotate_left; (first | omega | (simp <;> omega))) | exact Below.refl _ _ | assumption))
    · have h1' : ¬ (re : Int) = 0 := by omega
      have h1a : ((re : Int) != 0) = true := by simpa using h1
      have h1b : ((re : Int) == 0) = false := by simpa using h1
      go_enter Tryz.func51, Tryz.ntmps51
      go_wp2_with fail
      refine Calls.mono (same_below (C2.out _)) ?_
      rintro e w1 ⟨rfl, hb_w1⟩
      have hz_w1 := hb_w1.size
      try simp at hz_w1
      obtain ⟨c1__0, f1__0⟩ := bk hb_w1 (w.heap.size) (by first | omega | (simp <;> omega))
      have c1__0_0 := c1__0 0; conv at c1__0_0 => rhs; simp [go_sem, *]
      have f1__0_0 := f1__0 0; conv at f1__0_0 => rhs; simp [go_sem, *]
      have c1__0_1 := c1__0 1; conv at c1__0_1 => rhs; simp [go_sem, *]
      have f1__0_1 := f1__0 1; conv at f1__0_1 => rhs; simp [go_sem, *]
      have c1__0_2 := c1__0 2; conv at c1__0_2 => rhs; simp [go_sem, *]
      have f1__0_2 := f1__0 2; conv at f1__0_2 => rhs; simp [go_sem, *]
      have c1__0_3 := c1__0 3; conv at c1__0_3 => rhs; simp [go_sem, *]
      have f1__0_3 := f1__0 3; conv at f1__0_3 => rhs; simp [go_sem, *]
      have c1__0_4 := c1__0 4; conv at c1__0_4 => rhs; simp [go_sem, *]
      have f1__0_4 := f1__0 4; conv at f1__0_4 => rhs; simp [go_sem, *]
      have c1__0_5 := c1__0 5; conv at c1__0_5 => rhs; simp [go_sem, *]
      have f1__0_5 := f1__0 5; conv at f1__0_5 => rhs; simp [go_sem, *]
      have HH_w1 := Lib.hid hb_w1
      have hB_w1 : Below w.heap.size w w1 := Below.trans (by (repeat (first | with_reducible exact Below.refl _ _ | with_reducible assumption | with_reducible refine Below.drew ?_ | (with_reducible refine Below.setCell ?_ ?_ _; rotate_left; (first | omega | (simp <;> omega))) | (with_reducible refine Below.alloc ?_ ?_ _; rotate_left; (first | omega | (simp <;> omega))) | exact Below.refl _ _ | assumption))) (hb_w1.mono (by first | omega | (simp <;> omega)))
      clear hb_w1 c1__0 f1__0
      try clear c3__0_0 f3__0_0 c3__0_1 f3__0_1 c3__0_2 f3__0_2 c3__0_3 f3__0_3 c3__0_4 f3__0_4 c3__0_5 f3__0_5 far_w3_w_0 hB_w3
      have far_w1_w_0 := far (show w.heap.size < w1.heap.size by omega)
      go_wp2_with fail
      refine Calls.mono (same_below (C3.out _)) ?_
      rintro e w2 ⟨rfl, hb_w2⟩
      have hz_w2 := hb_w2.size
      try simp at hz_w2
      obtain ⟨c2__0, f2__0⟩ := bk hb_w2 (w.heap.size) (by first | omega | (simp <;> omega))
      have c2__0_0 := c2__0 0; conv at c2__0_0 => rhs; simp [go_sem, *]
      have f2__0_0 := f2__0 0; conv at f2__0_0 => rhs; simp [go_sem, *]
      have c2__0_1 := c2__0 1; conv at c2__0_1 => rhs; simp [go_sem, *]
      have f2__0_1 := f2__0 1; conv at f2__0_1 => rhs; simp [go_sem, *]
      have c2__0_2 := c2__0 2; conv at c2__0_2 => rhs; simp [go_sem, *]
      have f2__0_2 := f2__0 2; conv at f2__0_2 => rhs; simp [go_sem, *]
      have c2__0_3 := c2__0 3; conv at c2__0_3 => rhs; simp [go_sem, *]
      have f2__0_3 := f2__0 3; conv at f2__0_3 => rhs; simp [go_sem, *]
      have c2__0_4 := c2__0 4; conv at c2__0_4 => rhs; simp [go_sem, *]
      have f2__0_4 := f2__0 4; conv at f2__0_4 => rhs; simp [go_sem, *]
      have c2__0_5 := c2__0 5; conv at c2__0_5 => rhs; simp [go_sem, *]
      have f2__0_5 := f2__0 5; conv at f2__0_5 => rhs; simp [go_sem, *]
      have HH_w2 := Lib.hid hb_w2
      have hB_w2 : Below w.heap.size w w2 := Below.trans (by (repeat (first | with_reducible exact Below.refl _ _ | with_reducible assumption | with_reducible refine Below.drew ?_ | (with_reducible refine Below.setCell ?_ ?_ _; rotate_left; (first | omega | (simp <;> omega))) | (with_reducible refine Below.alloc ?_ ?_ _; rotate_left; (first | omega | (simp <;> omega))) | exact Below.refl _ _ | assumption))) (hb_w2.mono (by first | omega | (simp <;> omega)))
      clear hb_w2 c2__0 f2__0
      try clear c1__0_0 f1__0_0 c1__0_1 f1__0_1 c1__0_2 f1__0_2 c1__0_3 f1__0_3 c1__0_4 f1__0_4 c1__0_5 f1__0_5 far_w1_w_0 hB_w1
      have far_w2_w_0 := far (show w.heap.size < w2.heap.size by omega)
      go_wp2_with fail
      refine Calls.mono (C4.out _) ?_
      rintro e w3 ⟨rfl, hb_w3⟩
      have hz_w3 := hb_w3.size
      try simp at hz_w3
      obtain ⟨c3__0, f3__0⟩ := bk hb_w3 (w.heap.size) (by first | omega | (simp <;> omega))
      have c3__0_0 := c3__0 0; conv at c3__0_0 => rhs; simp [go_sem, *]
      have f3__0_0 := f3__0 0; conv at f3__0_0 => rhs; simp [go_sem, *]
      have c3__0_1 := c3__0 1; conv at c3__0_1 => rhs; simp [go_sem, *]
      have f3__0_1 := f3__0 1; conv at f3__0_1 => rhs; simp [go_sem, *]
      have c3__0_2 := c3__0 2; conv at c3__0_2 => rhs; simp [go_sem, *]
      have f3__0_2 := f3__0 2; conv at f3__0_2 => rhs; simp [go_sem, *]
      have c3__0_3 := c3__0 3; conv at c3__0_3 => rhs; simp [go_sem, *]
      have f3__0_3 := f3__0 3; conv at f3__0_3 => rhs; simp [go_sem, *]
      have c3__0_4 := c3__0 4; conv at c3__0_4 => rhs; simp [go_sem, *]
      have f3__0_4 := f3__0 4; conv at f3__0_4 => rhs; simp [go_sem, *]
      have c3__0_5 := c3__0 5; conv at c3__0_5 => rhs; simp [go_sem, *]
      have f3__0_5 := f3__0 5; conv at f3__0_5 => rhs; simp [go_sem, *]
      have HH_w3 := Lib.hid hb_w3
      have hB_w3 : Below w.heap.size w w3 := Below.trans (by (repeat (first | with_reducible exact Below.refl _ _ | with_reducible assumption | with_reducible refine Below.drew ?_ | (with_reducible refine Below.setCell ?_ ?_ _; rotate_left; (first | omega | (simp <;> omega))) | (with_reducible refine Below.alloc ?_ ?_ _; rotate_left; (first | omega | (simp <;> omega))) | exact Below.refl _ _ | assumption))) (hb_w3.mono (by first | omega | (simp <;> omega)))
      clear hb_w3 c3__0 f3__0
      try clear c2__0_0 f2__0_0 c2__0_1 f2__0_1 c2__0_2 f2__0_2 c2__0_3 f2__0_3 c2__0_4 f2__0_4 c2__0_5 f2__0_5 far_w2_w_0 hB_w2
      have far_w3_w_0 := far (show w.heap.size < w3.heap.size by omega)
      go_wp2
      all_goals (refine bodyPost_ret (v := uv true (ls.take k) (-1) [] false []) (by simp [results, Tryz.results51, go_sem, *]) rfl ⟨by simp <;> omega, ?_⟩)
      all_goals (repeat (first | with_reducible exact Below.refl _ _ | with_reducible assumption | with_reducible refine Below.drew ?_ | (with_reducible refine Below.setCell ?_ ?_ _; rotate_left; (first | omega | (simp <;> omega))) | (with_reducible refine Below.alloc ?_ ?_ _; rotate_left; (first | omega | (simp <;> omega))) | exact Below.refl _ _ | assumption))

theorem uriPath (s : List UInt8) (hs : s.length ≤ 1000000) (a : Bool) (h : List UInt8) (n : Int) (p : List UInt8) (q : Bool) (y : List UInt8) (w : World) :
    Calls Tryz.prog 42 #[.string (S s), uv a h n p q y] w fun e w' => e = .returned (uv a h n (cut1 s 63).1 (cut1 s 63).2.2 (cut1 s 63).2.1) ∧ Below w.heap.size w w' := by
  obtain ⟨f, g, t, hcut⟩ : ∃ f g t, cut1 s 63 = (f, g, t) := ⟨_, _, _, rfl⟩
  have C7 := Lib.hid (fun W => cut1_S hcut (by omega) W)
  rw [hcut]
  simp only
  go_enter Tryz.func42, Tryz.ntmps42
  go_wp2_with fail
  refine Calls.mono (C7.out _) ?_
  rintro e w1 ⟨rfl, hb_w1⟩
  have hz_w1 := hb_w1.size
  try simp at hz_w1
  obtain ⟨c1__0, f1__0⟩ := bk hb_w1 (w.heap.size) (by first | omega | (simp <;> omega))
  have c1__0_0 := c1__0 0; conv at c1__0_0 => rhs; simp [go_sem, *]
  have f1__0_0 := f1__0 0; conv at f1__0_0 => rhs; simp [go_sem, *]
  have c1__0_1 := c1__0 1; conv at c1__0_1 => rhs; simp [go_sem, *]
  have f1__0_1 := f1__0 1; conv at f1__0_1 => rhs; simp [go_sem, *]
  have c1__0_2 := c1__0 2; conv at c1__0_2 => rhs; simp [go_sem, *]
  have f1__0_2 := f1__0 2; conv at f1__0_2 => rhs; simp [go_sem, *]
  have c1__0_3 := c1__0 3; conv at c1__0_3 => rhs; simp [go_sem, *]
  have f1__0_3 := f1__0 3; conv at f1__0_3 => rhs; simp [go_sem, *]
  have c1__0_4 := c1__0 4; conv at c1__0_4 => rhs; simp [go_sem, *]
  have f1__0_4 := f1__0 4; conv at f1__0_4 => rhs; simp [go_sem, *]
  have c1__0_5 := c1__0 5; conv at c1__0_5 => rhs; simp [go_sem, *]
  have f1__0_5 := f1__0 5; conv at f1__0_5 => rhs; simp [go_sem, *]
  obtain ⟨c1__1, f1__1⟩ := bk hb_w1 (w.heap.size + 1) (by first | omega | (simp <;> omega))
  have c1__1_0 := c1__1 0; conv at c1__1_0 => rhs; simp [go_sem, *]
  have f1__1_0 := f1__1 0; conv at f1__1_0 => rhs; simp [go_sem, *]
  have c1__1_1 := c1__1 1; conv at c1__1_1 => rhs; simp [go_sem, *]
  have f1__1_1 := f1__1 1; conv at f1__1_1 => rhs; simp [go_sem, *]
  have c1__1_2 := c1__1 2; conv at c1__1_2 => rhs; simp [go_sem, *]
  have f1__1_2 := f1__1 2; conv at f1__1_2 => rhs; simp [go_sem, *]
  have c1__1_3 := c1__1 3; conv at c1__1_3 => rhs; simp [go_sem, *]
  have f1__1_3 := f1__1 3; conv at f1__1_3 => rhs; simp [go_sem, *]
  have c1__1_4 := c1__1 4; conv at c1__1_4 => rhs; simp [go_sem, *]
  have f1__1_4 := f1__1 4; conv at f1__1_4 => rhs; simp [go_sem, *]
  have c1__1_5 := c1__1 5; conv at c1__1_5 => rhs; simp [go_sem, *]
  have f1__1_5 := f1__1 5; conv at f1__1_5 => rhs; simp [go_sem, *]
  have HH_w1 := Lib.hid hb_w1
  have hB_w1 : Below w.heap.size w w1 := Below.trans (by (repeat (first | with_reducible exact Below.refl _ _ | with_reducible assumption | with_reducible refine Below.drew ?_ | (with_reducible refine Below.setCell ?_ ?_ _; rotate_left; (first | omega | (simp <;> omega))) | (with_reducible refine Below.alloc ?_ ?_ _; rotate_left; (first | omega | (simp <;> omega))) | exact Below.refl _ _ | assumption))) (hb_w1.mono (by first | omega | (simp <;> omega)))
  clear hb_w1 c1__0 f1__0 c1__1 f1__1
  have far_w1_w_0 := far (show w.heap.size < w1.heap.size by omega)
  have far_w1_w_1 := far (show w.heap.size + 1 < w1.heap.size by omega)
  go_wp2
  refine bodyPost_ret (v := uv a h n f t g) (by simp [results, Tryz.results42, go_sem, *]) rfl ⟨rfl, ?_⟩
  (repeat (first | with_reducible exact Below.refl _ _ | with_reducible assumption | with_reducible refine Below.drew ?_ | (with_reducible refine Below.setCell ?_ ?_ _; rotate_left; (first | omega | (simp <;> omega))) | (with_reducible refine Below.alloc ?_ ?_ _; rotate_left; (first | omega | (simp <;> omega))) | exact Below.refl _ _ | assumption))
end Go.Proofs.YtgjemgilanhdiaaGreatDoor
