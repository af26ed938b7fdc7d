/- Contracts that hold from any later world. Which fields may be: the walks of table.may and of the document's May. -/
import Derived.Test.YtcfihoniocamaaaGreatDoorPk3
import Derived.Test.YtcfihoniocamaaaGreatDoorPk6
import Derived.Test.YtcfihoniocamaaaGreatDoorPk7
import Derived.Deep.RegionWith
namespace Go.Proofs.YtcfihoniocamaaaGreatDoor
open Go.RowKit
set_option linter.unusedVariables false

/-- A call that leaves what lay in w, from any world that did. -/
abbrev Via (w : World) (f : Nat) (args : Array Value) (v : Value) : Prop := ∀ W, Below w.heap.size w W → Calls Tryz.prog f args W fun e w' => e = .returned v ∧ Below w.heap.size w w'
theorem via_of {w : World} {f : Nat} {args : Array Value} {v : Value} (h : ∀ W, Calls Tryz.prog f args W fun e w' => e = .returned v ∧ Below W.heap.size W w') : Via w f args v :=
  fun W hb => (h W).mono fun e w' h' => ⟨h'.1, hb.trans (h'.2.mono hb.size)⟩
theorem via_of' {w : World} {f : Nat} {args : Array Value} {v : Value} (h : ∀ W, Below w.heap.size w W → Calls Tryz.prog f args W fun e w' => e = .returned v ∧ Below W.heap.size W w') : Via w f args v :=
  fun W hb => (h W hb).mono fun e w' h' => ⟨h'.1, hb.trans (h'.2.mono hb.size)⟩
theorem via_same {w : World} {f : Nat} {args : Array Value} {v : Value} (h : ∀ W, Calls Tryz.prog f args W fun e w' => e = .returned v ∧ w' = W) : Via w f args v :=
  fun W hb => (h W).mono fun e w' h' => ⟨h'.1, h'.2 ▸ hb⟩
end Go.Proofs.YtcfihoniocamaaaGreatDoor
namespace Go.Proofs.YtcfihoniocamaaaGreatDoor
open Go.RowKit Go.Sort Go.Shelf
set_option linter.unusedVariables false

set_option maxHeartbeats 800000 in
theorem ctl_call (c : UInt8) (w : World) : (Calls Tryz.prog 89 #[.int .u8 (c.toNat : Int)] w fun e w' => e = .returned (.bool (ctlB c)) ∧ w' = w) ∧
    (Calls Tryz.prog 61 #[.int .u8 (c.toNat : Int)] w fun e w' => e = .returned (.bool (ctlB c)) ∧ w' = w) := by
  have hc256 := c.toNat_lt
  unfold ctlB
  obtain ⟨n, hn⟩ : ∃ n, c.toNat = n := ⟨_, rfl⟩
  rw [hn] at hc256 ⊢
  clear hn
  by_cases h1 : n < 32
  · by_cases h2 : n = 9
    · subst h2
      constructor
      · go_enter Tryz.func89, Tryz.ntmps89
        go_wp2
        go_ret
        exact ⟨rfl, rfl⟩
      · go_enter Tryz.func61, Tryz.ntmps61
        go_wp2
        go_ret
        exact ⟨rfl, rfl⟩
    · have e : ((decide (n < 32) && !decide (n = 9)) || decide (n = 127)) = true := by simp [h1, h2]
      rw [e]
      have h3 : ((n : Int) != 9) = true := by simp; omega
      clear e
      constructor
      · go_enter Tryz.func89, Tryz.ntmps89
        go_wp2
        go_ret
        exact ⟨rfl, rfl⟩
      · go_enter Tryz.func61, Tryz.ntmps61
        go_wp2
        go_ret
        exact ⟨rfl, rfl⟩
  · have e : ((decide (n < 32) && !decide (n = 9)) || decide (n = 127)) = decide (n = 127) := by simp [h1]
    rw [e]
    clear e
    by_cases h2 : n = 127
    · subst h2
      constructor
      · go_enter Tryz.func89, Tryz.ntmps89
        go_wp2
        go_ret
        exact ⟨rfl, rfl⟩
      · go_enter Tryz.func61, Tryz.ntmps61
        go_wp2
        go_ret
        exact ⟨rfl, rfl⟩
    · have h3 : ((n : Int) == 127) = false := by simp; omega
      have e : decide (n = 127) = false := by simp [h2]
      rw [e]
      clear e
      constructor
      · go_enter Tryz.func89, Tryz.ntmps89
        go_wp2
        go_ret
        exact ⟨rfl, rfl⟩
      · go_enter Tryz.func61, Tryz.ntmps61
        go_wp2
        go_ret
        exact ⟨rfl, rfl⟩

set_option maxHeartbeats 800000 in
theorem idxFn (fn : Nat) (eg : ∀ args w, (callFunc fn args).run Tryz.prog w = .ok (.enter fn args) w) (g cap : Nat) (l : List UInt8) (hl : l.length ≤ cap) (hm : cap ≤ 9223372036854775807) (W : World)
    (hcl : ∀ c : UInt8, Calls Tryz.prog fn #[.int .u8 (c.toNat : Int)] W fun e w' => e = .returned (.bool (ctlB c)) ∧ w' = W)
    (hc : ∀ j (h : j < l.length), W.cell? ⟨g, j, none⟩ = some (.int .u8 (l[j].toNat : Int))) :
    Calls Tryz.prog 108 #[.slice (some ⟨g, 0, none⟩) l.length cap, .func (.func fn) #[] #[]] W fun e w' => (∃ r, e = .returned (.int .i64 r) ∧ decide (0 ≤ r) = l.any ctlB) ∧ w' = W := by
  have HC := Lib.hid hc
  have HF := Lib.hid hcl
  clear hc hcl
  go_enter Tryz.func108, Tryz.ntmps108
  go_wp2
  go_loop [8] (fun iv => ∃ i : Nat, iv = .int .i64 i ∧ i ≤ l.length ∧ (l.take i).any ctlB = false) (fun iv => l.length - (intOf iv).toNat)
  case atStart => exact ⟨0, rfl, Nat.zero_le _, rfl⟩
  case round =>
    obtain ⟨i, rfl, hi, hany⟩ := hrel
    have HA := Lib.hid hany
    clear hany
    by_cases hlt : i < l.length
    · have e1 := HC.out i hlt
      have htk : (l.take (i + 1)).any ctlB = ctlB l[i] := by
        rw [List.take_succ_eq_append_getElem hlt, List.any_append, HA.out]; simp
      have hyes : ctlB l[i] = true → l.any ctlB = true := fun h => List.any_eq_true.2 ⟨_, List.getElem_mem hlt, h⟩
      obtain ⟨c, hc⟩ : ∃ c, l[i] = c := ⟨_, rfl⟩
      rw [hc] at e1 htk hyes
      have hcall := HF.out c
      obtain ⟨v, hv⟩ : ∃ v, ctlB c = v := ⟨_, rfl⟩
      rw [hv] at hcall htk hyes
      have HTK := Lib.hid htk
      have HY := Lib.hid hyes
      clear htk hyes hv hc
      cases v with
      | true =>
        go_wp2_with (go_at_fn fn; refine hcall.mono ?_; rintro e w' ⟨rfl, rfl⟩)
        go_ret
        exact ⟨⟨_, rfl, by rw [HY.out trivial]; simp⟩, rfl⟩
      | false =>
        go_wp2_with (go_at_fn fn; refine hcall.mono ?_; rintro e w' ⟨rfl, rfl⟩)
        go_round
        case rel => exact ⟨i + 1, by go_num, by omega, HTK.out⟩
        case measure => simp [intOf]; omega
    · obtain rfl : i = l.length := by omega
      have h := HA.out
      rw [List.take_length] at h
      have H := Lib.hid h
      clear h
      go_wp2
      go_ret
      exact ⟨⟨_, rfl, by rw [H.out]; rfl⟩, rfl⟩

theorem idxBytes (g cap : Nat) (l : List UInt8) (hl : l.length ≤ cap) (hm : cap ≤ 9223372036854775807) (W : World) (hc : ∀ j (h : j < l.length), W.cell? ⟨g, j, none⟩ = some (.int .u8 (l[j].toNat : Int))) :
    Calls Tryz.prog 90 #[.slice (some ⟨g, 0, none⟩) l.length cap, .func (.func 89) #[] #[]] W fun e w' => e = .returned (.bool (l.any ctlB)) ∧ w' = W := by
  have HI := Lib.hid (idxFn 89 (enters_of Tryz.func89 (by kernel_rfl) rfl) g cap l hl hm W (fun c => (ctl_call c W).1) hc)
  clear hc
  go_enter Tryz.func90, Tryz.ntmps90
  go_wp2_with fail
  refine HI.out.mono ?_
  rintro e w' ⟨⟨r, rfl, hr⟩, rfl⟩
  have HR := Lib.hid hr
  clear hr
  go_wp2
  all_goals
    go_ret
    exact ⟨by rw [← HR.out]; simp <;> omega, rfl⟩
end Go.Proofs.YtcfihoniocamaaaGreatDoor
