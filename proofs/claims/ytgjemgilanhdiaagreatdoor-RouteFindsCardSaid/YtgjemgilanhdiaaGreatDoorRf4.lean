/- Contracts that hold from any later world. The bytes of addresses and hosts: the walks of uri.bytes, uri.host and of the document's. -/
import Derived.Test.YtgjemgilanhdiaaGreatDoorRf2
import Derived.Test.YtgjemgilanhdiaaGreatDoorRf3
namespace Go.Proofs.YtgjemgilanhdiaaGreatDoor
open Go.RowKit
set_option linter.unusedVariables false

abbrev Via (w : World) (f : Nat) (args : Array Value) (v : Value) : Prop := ∀ W, Below w.heap.size w W → Calls Tryz.prog f args W fun e w' => e = .returned v ∧ Below w.heap.size w w'
theorem via_of {w : World} {f : Nat} {args : Array Value} {v : Value} (h : ∀ W, Calls Tryz.prog f args W fun e w' => e = .returned v ∧ Below W.heap.size W w') : Via w f args v :=
  fun W hb => (h W).mono fun e w' h' => ⟨h'.1, hb.trans (h'.2.mono hb.size)⟩
theorem via_of' {w : World} {f : Nat} {args : Array Value} {v : Value} (h : ∀ W, Below w.heap.size w W → Calls Tryz.prog f args W fun e w' => e = .returned v ∧ Below W.heap.size W w') : Via w f args v :=
  fun W hb => (h W hb).mono fun e w' h' => ⟨h'.1, hb.trans (h'.2.mono hb.size)⟩
theorem via_same {w : World} {f : Nat} {args : Array Value} {v : Value} (h : ∀ W, Calls Tryz.prog f args W fun e w' => e = .returned v ∧ w' = W) : Via w f args v :=
  fun W hb => (h W).mono fun e w' h' => ⟨h'.1, h'.2 ▸ hb⟩
end Go.Proofs.YtgjemgilanhdiaaGreatDoor
namespace Go.Proofs.YtgjemgilanhdiaaGreatDoor
open Go.RowKit Go.Sort Go.Shelf
set_option linter.unusedVariables false

set_option maxHeartbeats 800000 in
theorem idxByFn (p : UInt8 → Bool) (fn : Nat) (eg : ∀ args w, (callFunc fn args).run Tryz.prog w = .ok (.enter fn args) w) (g cap : Nat) (l : List UInt8) (hl : l.length ≤ cap) (hm : cap ≤ 9223372036854775807) (W : World)
    (hcl : ∀ c : UInt8, Calls Tryz.prog fn #[.int .u8 (c.toNat : Int)] W fun e w' => e = .returned (.bool (p c)) ∧ w' = W)
    (hc : ∀ j (h : j < l.length), W.cell? ⟨g, j, none⟩ = some (.int .u8 (l[j].toNat : Int))) :
    Calls Tryz.prog 63 #[.slice (some ⟨g, 0, none⟩) l.length cap, .func (.func fn) #[] #[]] W fun e w' => (∃ r, e = .returned (.int .i64 r) ∧ decide (0 ≤ r) = l.any p) ∧ w' = W := by
  have HC := Lib.hid hc
  have HF := Lib.hid hcl
  clear hc hcl
  go_enter Tryz.func63, Tryz.ntmps63
  go_wp2
  go_loop [8] (fun iv => ∃ i : Nat, iv = .int .i64 i ∧ i ≤ l.length ∧ (l.take i).any p = false) (fun iv => l.length - (intOf iv).toNat)
  case atStart => exact ⟨0, rfl, Nat.zero_le _, rfl⟩
  case round =>
    obtain ⟨i, rfl, hi, hany⟩ := hrel
    have HA := Lib.hid hany
    clear hany
    by_cases hlt : i < l.length
    · have e1 := HC.out i hlt
      have htk : (l.take (i + 1)).any p = p l[i] := by
        rw [List.take_succ_eq_append_getElem hlt, List.any_append, HA.out]; simp
      have hyes : p l[i] = true → l.any p = true := fun h => List.any_eq_true.2 ⟨_, List.getElem_mem hlt, h⟩
      obtain ⟨c, hc⟩ : ∃ c, l[i] = c := ⟨_, rfl⟩
      rw [hc] at e1 htk hyes
      have hcall := HF.out c
      obtain ⟨v, hv⟩ : ∃ v, p c = v := ⟨_, rfl⟩
      rw [hv] at hcall htk hyes
      have HTK := Lib.hid htk
      have HY := Lib.hid hyes
      clear htk hyes hv hc
      cases v with
      | true =>
        go_wp2_with (go_at_fn fn; refine hcall.mono ?_; rintro e w' ⟨rfl, rfl⟩)
        go_ret
        exact ⟨⟨_, rfl, by rw [HY.out trivial]; simp⟩, rfl⟩
      | false =>
        go_wp2_with (go_at_fn fn; refine hcall.mono ?_; rintro e w' ⟨rfl, rfl⟩)
        go_round
        case rel => exact ⟨i + 1, by go_num, by omega, HTK.out⟩
        case measure => simp [intOf]; omega
    · obtain rfl : i = l.length := by omega
      have h := HA.out
      rw [List.take_length] at h
      have H := Lib.hid h
      clear h
      go_wp2
      go_ret
      exact ⟨⟨_, rfl, by rw [H.out]; rfl⟩, rfl⟩

theorem containsByFn (p : UInt8 → Bool) (fn : Nat) (eg : ∀ args w, (callFunc fn args).run Tryz.prog w = .ok (.enter fn args) w) (g cap : Nat) (l : List UInt8) (hl : l.length ≤ cap) (hm : cap ≤ 9223372036854775807) (W : World)
    (hcl : ∀ c : UInt8, Calls Tryz.prog fn #[.int .u8 (c.toNat : Int)] W fun e w' => e = .returned (.bool (p c)) ∧ w' = W)
    (hc : ∀ j (h : j < l.length), W.cell? ⟨g, j, none⟩ = some (.int .u8 (l[j].toNat : Int))) :
    Calls Tryz.prog 36 #[.slice (some ⟨g, 0, none⟩) l.length cap, .func (.func fn) #[] #[]] W fun e w' => e = .returned (.bool (l.any p)) ∧ w' = W := by
  have HI := Lib.hid (idxByFn p fn eg g cap l hl hm W hcl hc)
  clear hc hcl
  go_enter Tryz.func36, Tryz.ntmps36
  go_wp2_with fail
  refine HI.out.mono ?_
  rintro e w' ⟨⟨r, rfl, hr⟩, rfl⟩
  have HR := Lib.hid hr
  clear hr
  go_wp2
  all_goals
    go_ret
    exact ⟨by rw [← HR.out]; simp <;> omega, rfl⟩

set_option maxHeartbeats 800000 in
theorem bytes_call (c : UInt8) (w : World) : Calls Tryz.prog 96 #[.int .u8 (c.toNat : Int)] w fun e w' => e = .returned (.bool (badU c)) ∧ w' = w := by
  have hc256 := c.toNat_lt
  obtain ⟨i, hi⟩ : ∃ i, Lib.indexByte sgnU ((c.toNat : Int).toNat.toUInt8) = i := ⟨_, rfl⟩
  have hi' : Lib.indexByte sgnU c = i := by rw [← hi]; simp
  have IB := Lib.hid (indexByte_S hi)
  have e : badU c = (decide (c.toNat ≤ 32) || decide (126 < c.toNat) || decide (0 ≤ i)) := by unfold badU; rw [hi']
  rw [e]
  clear e hi hi'
  obtain ⟨n, hn⟩ : ∃ n, c.toNat = n := ⟨_, rfl⟩
  rw [hn] at hc256 IB ⊢
  clear hn
  by_cases h1 : n ≤ 32
  · rw [show (decide (n ≤ 32) || decide (126 < n) || decide (0 ≤ i)) = true by simp [h1]]
    go_enter Tryz.func96, Tryz.ntmps96
    go_wp2
    go_ret
    exact ⟨by first | rfl | (simp; done) | (simp; omega), rfl⟩
  · by_cases h2 : 126 < n
    · rw [show (decide (n ≤ 32) || decide (126 < n) || decide (0 ≤ i)) = true by simp [h2]]
      go_enter Tryz.func96, Tryz.ntmps96
      go_wp2
      go_ret
      exact ⟨by first | rfl | (simp; done) | (simp; omega), rfl⟩
    · have h3 : (n : Int) ≤ 126 := by omega
      have h4 : 32 < (n : Int) := by omega
      rw [show (decide (n ≤ 32) || decide (126 < n) || decide (0 ≤ i)) = decide (0 ≤ i) by simp; omega]
      by_cases h5 : 0 ≤ i
      all_goals
        first | rw [show decide (0 ≤ i) = true from decide_eq_true h5] | rw [show decide (0 ≤ i) = false from decide_eq_false h5]
        go_enter Tryz.func96, Tryz.ntmps96
        go_wp2_with (go_at_call 61; refine (IB.out _).mono ?_; rintro e w' ⟨rfl, rfl⟩)
        go_ret
        exact ⟨by first | rfl | (simp; done) | (simp; omega), rfl⟩

set_option maxHeartbeats 800000 in
theorem host_call (c : UInt8) (w : World) : Calls Tryz.prog 99 #[.int .u8 (c.toNat : Int)] w fun e w' => e = .returned (.bool (!hostB c)) ∧ w' = w := by
  have hc256 := c.toNat_lt
  unfold hostB
  obtain ⟨n, hn⟩ : ∃ n, c.toNat = n := ⟨_, rfl⟩
  rw [hn] at hc256 ⊢
  clear hn
  by_cases a1 : 97 ≤ n
  · by_cases a2 : n ≤ 122
    · rw [show (!((decide (97 ≤ n) && decide (n ≤ 122)) || (decide (48 ≤ n) && decide (n ≤ 57)) || decide (n = 45) || decide (n = 46))) = false by simp; omega]
      go_enter Tryz.func99, Tryz.ntmps99
      go_wp2
      go_ret
      exact ⟨by first | rfl | (simp; done) | (simp; omega), rfl⟩
    · have b1 : ((n : Int) == 45) = false := by simp; omega
      have b2 : ((n : Int) == 46) = false := by simp; omega
      rw [show (!((decide (97 ≤ n) && decide (n ≤ 122)) || (decide (48 ≤ n) && decide (n ≤ 57)) || decide (n = 45) || decide (n = 46))) = true by simp; omega]
      go_enter Tryz.func99, Tryz.ntmps99
      go_wp2
      all_goals
        go_ret
        exact ⟨by first | rfl | (simp; done) | (simp; omega), rfl⟩
  · by_cases c1 : 48 ≤ n
    · by_cases c2 : n ≤ 57
      · rw [show (!((decide (97 ≤ n) && decide (n ≤ 122)) || (decide (48 ≤ n) && decide (n ≤ 57)) || decide (n = 45) || decide (n = 46))) = false by simp; omega]
        go_enter Tryz.func99, Tryz.ntmps99
        go_wp2
        go_ret
        exact ⟨by first | rfl | (simp; done) | (simp; omega), rfl⟩
      · have b1 : ((n : Int) == 45) = false := by simp; omega
        have b2 : ((n : Int) == 46) = false := by simp; omega
        rw [show (!((decide (97 ≤ n) && decide (n ≤ 122)) || (decide (48 ≤ n) && decide (n ≤ 57)) || decide (n = 45) || decide (n = 46))) = true by simp; omega]
        go_enter Tryz.func99, Tryz.ntmps99
        go_wp2
        all_goals
          go_ret
          exact ⟨by first | rfl | (simp; done) | (simp; omega), rfl⟩
    · by_cases d1 : n = 45
      · subst d1
        go_enter Tryz.func99, Tryz.ntmps99
        go_wp2
        go_ret
        exact ⟨rfl, rfl⟩
      · by_cases d2 : n = 46
        · subst d2
          go_enter Tryz.func99, Tryz.ntmps99
          go_wp2
          go_ret
          exact ⟨rfl, rfl⟩
        · have b1 : ((n : Int) == 45) = false := by simp; omega
          have b2 : ((n : Int) == 46) = false := by simp; omega
          rw [show (!((decide (97 ≤ n) && decide (n ≤ 122)) || (decide (48 ≤ n) && decide (n ≤ 57)) || decide (n = 45) || decide (n = 46))) = true by simp; omega]
          go_enter Tryz.func99, Tryz.ntmps99
          go_wp2
          all_goals
            go_ret
            exact ⟨by first | rfl | (simp; done) | (simp; omega), rfl⟩

theorem any_not (l : List UInt8) : (l.any fun c => !hostB c) = !l.all hostB := by
  induction l with
  | nil => rfl
  | cons c l ih => rw [List.any_cons, List.all_cons, ih]; cases hostB c <;> simp

set_option maxHeartbeats 800000 in
theorem uriBytes (l : List UInt8) (hl : l.length ≤ 4611686018427387903) (w : World) : Calls Tryz.prog 73 #[.string (S l)] w fun e w' => e = .returned (.bool (!l.any badU)) ∧ Below w.heap.size w w' := by
  have hcv := fun w => run_bytes_of_string (P := Tryz.prog) w 9 66 5 (S l) Tryz.underlying9 Tryz.underlying66 Tryz.underlying5
  have HX := Lib.hid (containsByFn badU 96 (enters_of Tryz.func96 (by kernel_rfl) rfl) w.heap.size _ l (grownCap_ge w l.length 0 5) (grownCap_le_maxLen w l.length 0 5 (by unfold maxLen; omega)) _ (fun c => bytes_call c _) (fun j h => (bytes_laid w l _ 5 (grownCap_ge w l.length 0 5) j h).1))
  obtain ⟨b, hb⟩ : ∃ b, l.any badU = b := ⟨_, rfl⟩
  rw [hb] at HX ⊢
  clear hb
  go_enter Tryz.func73, Tryz.ntmps73
  go_wp2_with (go_at_call 36; refine HX.out.mono ?_; rintro e w' ⟨rfl, rfl⟩)
  go_ret
  exact ⟨rfl, by (repeat (first | with_reducible exact Below.refl _ _ | with_reducible assumption | with_reducible refine Below.drew ?_ | (with_reducible refine Below.setCell ?_ ?_ _; rotate_left; (first | omega | (simp <;> omega))) | (with_reducible refine Below.alloc ?_ ?_ _; rotate_left; (first | omega | (simp <;> omega))) | exact Below.refl _ _ | assumption))⟩

set_option maxHeartbeats 800000 in
theorem uriHost (l : List UInt8) (hl : l.length ≤ 4611686018427387903) (w : World) : Calls Tryz.prog 76 #[.string (S l)] w fun e w' => e = .returned (.bool (hostL l)) ∧ Below w.heap.size w w' := by
  have hcv := fun w => run_bytes_of_string (P := Tryz.prog) w 9 66 5 (S l) Tryz.underlying9 Tryz.underlying66 Tryz.underlying5
  have HX := Lib.hid (containsByFn (fun c => !hostB c) 99 (enters_of Tryz.func99 (by kernel_rfl) rfl) w.heap.size _ l (grownCap_ge w l.length 0 5) (grownCap_le_maxLen w l.length 0 5 (by unfold maxLen; omega)) _ (fun c => host_call c _) (fun j h => (bytes_laid w l _ 5 (grownCap_ge w l.length 0 5) j h).1))
  rw [any_not] at HX
  have hs : hostL l = (decide (1 ≤ l.length) && decide (l.length ≤ 100) && l.all hostB) := rfl
  rw [hs]
  obtain ⟨b, hb⟩ : ∃ b, l.all hostB = b := ⟨_, rfl⟩
  rw [hb] at HX ⊢
  clear hb hs
  by_cases h1 : 1 ≤ l.length
  · by_cases h2 : l.length ≤ 100
    · have HE := Lib.hid (show (decide (1 ≤ l.length) && decide (l.length ≤ 100) && b) = b by simp [h1, h2])
      go_enter Tryz.func76, Tryz.ntmps76
      go_wp2_with (go_at_call 36; refine HX.out.mono ?_; rintro e w' ⟨rfl, rfl⟩)
      go_ret
      exact ⟨by first | rfl | (rw [HE.out]; simp), by (repeat (first | with_reducible exact Below.refl _ _ | with_reducible assumption | with_reducible refine Below.drew ?_ | (with_reducible refine Below.setCell ?_ ?_ _; rotate_left; (first | omega | (simp <;> omega))) | (with_reducible refine Below.alloc ?_ ?_ _; rotate_left; (first | omega | (simp <;> omega))) | exact Below.refl _ _ | assumption))⟩
    · have HE := Lib.hid (show (decide (1 ≤ l.length) && decide (l.length ≤ 100) && b) = false by simp [h2])
      go_enter Tryz.func76, Tryz.ntmps76
      go_wp2
      go_ret
      exact ⟨by first | rfl | (rw [HE.out]; rfl) | (simp; omega), Below.refl _ _⟩
  · obtain rfl : l = [] := List.length_eq_zero_iff.1 (by omega)
    go_enter Tryz.func76, Tryz.ntmps76
    go_wp2
    go_ret
    exact ⟨rfl, Below.refl _ _⟩
end Go.Proofs.YtgjemgilanhdiaaGreatDoor
