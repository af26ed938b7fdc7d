/- A request's fields to an origin, an answer's to a client: plain words. -/
import Derived.Test.YtcfihoniocamaaaGreatDoorPk21
import Derived.Test.YtcfihoniocamaaaGreatDoorPk25
import Derived.Test.YtcfihoniocamaaaGreatDoorPk27
import Derived.Test.YtcfihoniocamaaaGreatDoorPk28
import Derived.Test.YtcfihoniocamaaaGreatDoorPk34
namespace Go.Proofs.YtcfihoniocamaaaGreatDoor
set_option linter.unusedVariables false

/-- The names: Host, Surrogate-Capability, Surrogate-Control; two of them in small letters. -/
def HostG : List UInt8 := [72, 111, 115, 116]
def hostS : List UInt8 := [104, 111, 115, 116]
def CapG : List UInt8 := [83, 117, 114, 114, 111, 103, 97, 116, 101, 45, 67, 97, 112, 97, 98, 105, 108, 105, 116, 121]
def capS : List UInt8 := [115, 117, 114, 114, 111, 103, 97, 116, 101, 45, 99, 97, 112, 97, 98, 105, 108, 105, 116, 121]
def CtlG : List UInt8 := [83, 117, 114, 114, 111, 103, 97, 116, 101, 45, 67, 111, 110, 116, 114, 111, 108]
def ctlS : List UInt8 := [115, 117, 114, 114, 111, 103, 97, 116, 101, 45, 99, 111, 110, 116, 114, 111, 108]
def canL (s d : List UInt8) : List UInt8 := (if (trim s).isEmpty = true then [] else trim s ++ [44, 32]) ++ (d ++ esiQ)
/-- With the host. -/
def hostedL (L : List Fld) (h : List UInt8) : List Fld := setL (stripL L) (HostG, h)
def canF (L : List Fld) (h d : List UInt8) : Fld := (CapG, canL (joinedL (hostedL L h) CapG) d)
def upE (L : List Fld) (h d : List UInt8) : Int := if rightL L = true then (if setE (stripL L) (HostG, h) = 0 then (if tokenL d = true then setE (hostedL L h) (canF L h d) else 11) else setE (stripL L) (HostG, h)) else 1
def upV (L : List Fld) (h d : List UInt8) : List Fld := if upE L h d = 0 then setL (hostedL L h) (canF L h d) else []

theorem right_len {L : List Fld} (h : rightL L = true) : L.length ≤ 40 ∧ ∀ f ∈ L, mayL f = true := by
  unfold rightL at h
  simp only [Bool.and_eq_true, decide_eq_true_eq, List.all_eq_true] at h
  exact h
theorem right_of {L : List Fld} (h1 : L.length ≤ 40) (h2 : ∀ f ∈ L, mayL f = true) : rightL L = true := by
  unfold rightL
  simp only [Bool.and_eq_true, decide_eq_true_eq, List.all_eq_true]
  exact ⟨h1, h2⟩
theorem setE_zero {L : List Fld} {f : Fld} (h : setE L f = 0) : rightL L = true ∧ mayL f = true ∧ (removeL L f.1).length < 40 := by
  unfold setE at h
  by_cases hr : rightL L = true
  · rw [if_pos hr] at h
    unfold addE at h
    by_cases hc : rightL (removeL L f.1) = true ∧ mayL f = true
    · rw [if_pos hc] at h
      by_cases hl : (removeL L f.1).length < 40
      · exact ⟨hr, hc.2, hl⟩
      · rw [if_neg hl] at h; cases h
    · rw [if_neg hc] at h; cases h
  · rw [if_neg hr] at h; cases h
theorem setL_ok {L : List Fld} {f : Fld} (h : setE L f = 0) : setL L f = (removeL L f.1).take (setAt L f.1) ++ f :: (removeL L f.1).drop (setAt L f.1) := by unfold setL; rw [if_pos h]
theorem set_right {L : List Fld} {f : Fld} (h : setE L f = 0) : rightL (setL L f) = true := by
  obtain ⟨h1, h2, h3⟩ := setE_zero h
  obtain ⟨_, h4⟩ := right_len h1
  rw [setL_ok h]
  refine right_of ?_ ?_
  · have e : ((removeL L f.1).take (setAt L f.1) ++ f :: (removeL L f.1).drop (setAt L f.1)).length = (removeL L f.1).length + 1 := by
      rw [List.length_append, List.length_cons, ← Nat.add_assoc, ← List.length_append, List.take_append_drop]
    omega
  · intro g hg
    rcases List.mem_append.1 hg with hg | hg
    · exact h4 g (List.mem_filter.1 (List.mem_of_mem_take hg)).1
    · rcases List.mem_cons.1 hg with rfl | hg
      · exact h2
      · exact h4 g (List.mem_filter.1 (List.mem_of_mem_drop hg)).1
theorem set_mem {L : List Fld} {f g : Fld} (h : setE L f = 0) (hg : g ∈ setL L f) : g = f ∨ g ∈ L := by
  rw [setL_ok h] at hg
  rcases List.mem_append.1 hg with hg | hg
  · exact .inr (List.mem_filter.1 (List.mem_of_mem_take hg)).1
  · rcases List.mem_cons.1 hg with rfl | hg
    · exact .inl rfl
    · exact .inr (List.mem_filter.1 (List.mem_of_mem_drop hg)).1
theorem set_hop {L : List Fld} {f : Fld} (h : setE L f = 0) (hL : HopRow L) (hf : f.1.length ≤ 1000) : HopRow (setL L f) := ⟨Nat.le_trans (right_len (set_right h)).1 (by omega), fun g hg => by
  rcases set_mem h hg with rfl | hg
  · have := (setE_zero h).2.1
    unfold mayL at this
    simp only [Bool.and_eq_true, decide_eq_true_eq] at this
    exact ⟨hf, by omega⟩
  · exact hL.each g hg⟩
theorem upE_zero {L : List Fld} {h d : List UInt8} (he : upE L h d = 0) : rightL L = true ∧ setE (stripL L) (HostG, h) = 0 ∧ tokenL d = true ∧ setE (hostedL L h) (canF L h d) = 0 := by
  unfold upE at he
  by_cases h1 : rightL L = true
  · rw [if_pos h1] at he
    by_cases h2 : setE (stripL L) (HostG, h) = 0
    · rw [if_pos h2] at he
      by_cases h3 : tokenL d = true
      · rw [if_pos h3] at he; exact ⟨h1, h2, h3, he⟩
      · rw [if_neg h3] at he; cases he
    · rw [if_neg h2] at he; exact absurd he h2
  · rw [if_neg h1] at he; cases he
theorem upV_ok {L : List Fld} {h d : List UInt8} (he : upE L h d = 0) : upV L h d = setL (hostedL L h) (canF L h d) := by unfold upV; rw [if_pos he]
theorem up_right {L : List Fld} {h d : List UInt8} (he : upE L h d = 0) : rightL (upV L h d) = true := by
  rw [upV_ok he]; exact set_right (upE_zero he).2.2.2
theorem up_hop {L : List Fld} {h d : List UInt8} (he : upE L h d = 0) (hL : HopRow L) : HopRow (upV L h d) := by
  rw [upV_ok he]
  obtain ⟨_, h2, _, h4⟩ := upE_zero he
  exact set_hop h4 (set_hop h2 (strip_hop hL) (show HostG.length ≤ 1000 by decide)) (show CapG.length ≤ 1000 by decide)
theorem named_same {L : List Fld} {a b : List UInt8} (h : sameN a b = true) : namedL L a = namedL L b := by
  unfold namedL
  have e : lower a = lower b := by unfold sameN at h; simpa using h
  apply List.filter_congr
  intro f _
  unfold sameN
  rw [e]
theorem remove_same {L : List Fld} {a b : List UInt8} (h : sameN a b = true) : removeL L a = removeL L b := by
  unfold removeL
  have e : lower a = lower b := by unfold sameN at h; simpa using h
  apply List.filter_congr
  intro f _
  unfold sameN
  rw [e]
theorem set_named {L : List Fld} {n x : List UInt8} (h : setE L (n, x) = 0) : namedL (setL L (n, x)) n = [(n, x)] := by
  rw [setL_ok h]; exact ins_named (none_remove L n) _
theorem set_other_named {L : List Fld} {n x o : List UInt8} (h : setE L (n, x) = 0) (ho : sameN o n = false) : namedL (setL L (n, x)) o = namedL L o := by
  rw [setL_ok h]
  exact (ins_other ho _).trans (named_other ho)
theorem set_removed {L : List Fld} {n x : List UInt8} (h : setE L (n, x) = 0) : removeL (setL L (n, x)) n = removeL L n := by
  rw [setL_ok h]; exact ins_remove (none_remove L n) _
theorem up_host {L : List Fld} {h d : List UInt8} (he : upE L h d = 0) : namedL (upV L h d) hostS = [(HostG, h)] := by
  obtain ⟨_, h2, _, h4⟩ := upE_zero he
  rw [upV_ok he]
  unfold canF at h4 ⊢
  rw [set_other_named h4 (by decide), named_same (show sameN hostS HostG = true by decide)]
  exact set_named h2
theorem up_cap {L : List Fld} {h d : List UInt8} (he : upE L h d = 0) : namedL (upV L h d) capS = [canF L h d] := by
  obtain ⟨_, h2, _, h4⟩ := upE_zero he
  rw [upV_ok he, named_same (show sameN capS CapG = true by decide)]
  exact set_named h4
theorem canL_end (s d : List UInt8) : (d ++ esiQ).length ≤ (canL s d).length ∧ (canL s d).drop ((canL s d).length - (d ++ esiQ).length) = d ++ esiQ := by
  unfold canL
  generalize (if (trim s).isEmpty = true then ([] : List UInt8) else trim s ++ [44, 32]) = p
  constructor
  · simp
  · rw [List.length_append, Nat.add_sub_cancel, List.drop_left]
theorem canL_len (s d : List UInt8) : (canL s d).length ≤ s.length + 12 + d.length := by
  unfold canL
  have h := trim_le s
  have : esiQ.length = 10 := rfl
  split <;> simp [this] <;> omega

/-! Through a second device. -/
theorem up_conn {L : List Fld} {h d : List UInt8} (he : upE L h d = 0) : namedL (upV L h d) connL = [] := by
  obtain ⟨_, h2, _, h4⟩ := upE_zero he
  rw [upV_ok he]
  unfold canF at h4 ⊢
  rw [set_other_named h4 (by decide)]
  unfold hostedL
  rw [set_other_named h2 (by decide)]
  unfold namedL
  rw [List.filter_eq_nil_iff]
  intro f hf hs
  have h1 := (List.mem_filter.1 hf).2
  have e : lower f.1 = connL := by
    unfold sameN at hs
    have : lower f.1 = lower connL := by simpa using hs
    rw [this]; decide
  unfold aloneB at h1
  rw [e] at h1
  revert h1
  simp [fixed8, connL]
theorem up_strip {L : List Fld} {h d : List UInt8} (he : upE L h d = 0) : stripL (upV L h d) = upV L h d := by
  have hw : hopWords (upV L h d) = [[]] := words_none (up_conn he)
  have hr := (right_len (up_right he)).2
  have e : stripL (upV L h d) = (upV L h d).filter (fun f => !aloneB (hopWords (upV L h d)) f.1) := rfl
  rw [e, hw, List.filter_eq_self]
  intro f hf
  have hm := hr f hf
  unfold mayL at hm
  simp only [Bool.and_eq_true] at hm
  have ht := hm.1.1.1
  unfold tokenL at ht
  simp only [Bool.and_eq_true] at ht
  have hne : f.1 ≠ [] := by intro e; rw [e] at ht; simp at ht
  have hlo : lower f.1 ≠ [] := by
    intro e
    have := lower_len f.1
    rw [e] at this
    exact hne (List.length_eq_zero_iff.1 this.symm)
  have hfix : lower f.1 ∉ fixed8 := by
    obtain ⟨_, h2, _, h4⟩ := upE_zero he
    rw [upV_ok he] at hf
    rcases set_mem h4 hf with rfl | hf
    · show lower CapG ∉ fixed8; decide
    · rcases set_mem h2 hf with rfl | hf
      · show lower HostG ∉ fixed8; decide
      · have h1 := (List.mem_filter.1 hf).2
        unfold aloneB at h1
        simp only [Bool.not_or, Bool.and_eq_true, Bool.not_eq_true', decide_eq_false_iff_not] at h1
        exact h1.1
  unfold aloneB
  simp only [Bool.not_or, Bool.and_eq_true, Bool.not_eq_true', decide_eq_false_iff_not]
  exact ⟨hfix, by simpa using hlo⟩
theorem twoT : tokenL [116, 119, 111] = true := by decide
/-- Set to what it is: the row stays. -/
theorem set_same {L : List Fld} {n x : List UInt8} (hr : rightL L = true) (h : namedL L n = [(n, x)]) : setE L (n, x) = 0 ∧ setL L (n, x) = L := by
  obtain ⟨h40, hmay⟩ := right_len hr
  have hmem : (n, x) ∈ L := by
    have : (n, x) ∈ namedL L n := by rw [h]; simp
    exact (List.mem_filter.1 this).1
  have hlen : (removeL L n).length + 1 = L.length := by
    have h1 : (namedL L n).length + (removeL L n).length = L.length := by
      unfold namedL removeL
      clear h hmem hr h40 hmay
      induction L with
      | nil => rfl
      | cons f L ih =>
        rw [List.filter_cons, List.filter_cons]
        cases sameN f.1 n <;> simp <;> omega
    rw [h] at h1
    simp at h1; omega
  have hz : setE L (n, x) = 0 := by
    unfold setE
    rw [if_pos hr]
    unfold addE
    simp only
    rw [if_pos ⟨right_remove n hr, hmay _ hmem⟩, if_pos (by omega)]
  refine ⟨hz, ?_⟩
  rw [setL_ok hz]
  simp only
  cases hfi : L.findIdx? (fun f => sameN f.1 n) with
  | none =>
    exfalso
    have := List.findIdx?_eq_none_iff.1 hfi _ hmem
    simp [same_self] at this
  | some i =>
    have hat : setAt L n = i := by unfold setAt; rw [hfi]
    rw [hat]
    obtain ⟨hi, h1, h2⟩ := List.findIdx?_eq_some_iff_getElem.1 hfi
    have hsp : L = L.take i ++ L[i] :: L.drop (i + 1) := by
      conv => lhs; rw [← List.take_append_drop i L, List.drop_eq_getElem_cons hi]
    have hpre : (L.take i).filter (fun f => !sameN f.1 n) = L.take i := by
      rw [List.filter_eq_self]
      intro f hf
      obtain ⟨j, hj, rfl⟩ := List.getElem_of_mem hf
      have hj2 : j < i ∧ j < L.length := by simp at hj; omega
      rw [List.getElem_take]
      have := h2 j hj2.1
      simpa using this
    have hpre0 : (L.take i).filter (fun f => sameN f.1 n) = [] := by
      rw [List.filter_eq_nil_iff]
      intro f hf
      obtain ⟨j, hj, rfl⟩ := List.getElem_of_mem hf
      have hj2 : j < i ∧ j < L.length := by simp at hj; omega
      rw [List.getElem_take]
      have := h2 j hj2.1
      simpa using this
    have hLi : L[i] = (n, x) ∧ (L.drop (i + 1)).filter (fun f => sameN f.1 n) = [] := by
      have e : namedL L n = (L.take i).filter (fun f => sameN f.1 n) ++ (L[i] :: (L.drop (i + 1)).filter (fun f => sameN f.1 n)) := by
        unfold namedL
        conv => lhs; rw [hsp]
        rw [List.filter_append, List.filter_cons, if_pos h1]
      rw [h, hpre0, List.nil_append] at e
      injection e with e1 e2
      exact ⟨e1.symm, e2.symm⟩
    have hsuf : (L.drop (i + 1)).filter (fun f => !sameN f.1 n) = L.drop (i + 1) := by
      rw [List.filter_eq_self]
      intro f hf
      cases hs : sameN f.1 n with
      | false => rfl
      | true =>
        have : f ∈ (L.drop (i + 1)).filter (fun f => sameN f.1 n) := List.mem_filter.2 ⟨hf, hs⟩
        rw [hLi.2] at this; cases this
    have hrem : removeL L n = L.take i ++ L.drop (i + 1) := by
      unfold removeL
      conv => lhs; rw [hsp]
      rw [List.filter_append, hpre, List.filter_cons, if_neg (by rw [h1]; simp), hsuf]
    have hli : (L.take i).length = i := by simp; omega
    rw [hrem, List.take_left' hli, List.drop_left' hli, ← hLi.1]
    exact hsp.symm
theorem joined_one {L : List Fld} {n : List UInt8} {f : Fld} (h : namedL L n = [f]) : joinedL L n = f.2 := by
  unfold joinedL; rw [h]; simp [Lib.join]
theorem may_trim {f : Fld} (h : mayL f = true) : trim f.2 = f.2 := by
  unfold mayL at h
  simp only [Bool.and_eq_true, beq_iff_eq] at h
  exact h.1.1.2
/-- What goes through a second device. -/
theorem up_twice {L : List Fld} {h d e : List UInt8} (he : upE L h d = 0) (ht : tokenL e = true) :
    hostedL (upV L h d) h = upV L h d ∧ canF (upV L h d) h e = (CapG, (canF L h d).2 ++ (44 :: 32 :: (e ++ esiQ))) ∧ (upE (upV L h d) h e = 1 ∨ upE (upV L h d) h e = 0) ∧
    (upE (upV L h d) h e = 0 → namedL (upV (upV L h d) h e) capS = [(CapG, (canF L h d).2 ++ (44 :: 32 :: (e ++ esiQ)))] ∧ removeL (upV (upV L h d) h e) capS = removeL (upV L h d) capS) := by
  have hr := up_right he
  have hs := up_strip he
  have hh := set_same hr (by rw [← named_same (show sameN hostS HostG = true by decide)]; exact up_host he)
  have hH : hostedL (upV L h d) h = upV L h d := by unfold hostedL; rw [hs]; exact hh.2
  have hcap : namedL (upV L h d) CapG = [canF L h d] := by rw [← named_same (show sameN capS CapG = true by decide)]; exact up_cap he
  have hm : mayL (canF L h d) = true := (setE_zero (upE_zero he).2.2.2).2.1
  have htr := may_trim hm
  have hne : (canF L h d).2.isEmpty = false := by
    have h1 := (canL_end (joinedL (hostedL L h) CapG) d).1
    have h2 : (canF L h d).2 = canL (joinedL (hostedL L h) CapG) d := rfl
    have h3 : esiQ.length = 10 := rfl
    rw [h2]
    cases hc : canL (joinedL (hostedL L h) CapG) d with
    | nil => rw [hc] at h1; simp [h3] at h1
    | cons a b => rfl
  have hcl : canL (canF L h d).2 e = (canF L h d).2 ++ (44 :: 32 :: (e ++ esiQ)) := by
    obtain ⟨x, hx⟩ : ∃ x, (canF L h d).2 = x := ⟨_, rfl⟩
    rw [hx] at htr hne ⊢
    unfold canL
    rw [htr, hne, if_neg (by simp)]
    simp
  have hC : canF (upV L h d) h e = (CapG, (canF L h d).2 ++ (44 :: 32 :: (e ++ esiQ))) := by
    have e0 : canF (upV L h d) h e = (CapG, canL (joinedL (hostedL (upV L h d) h) CapG) e) := rfl
    rw [e0, hH, joined_one hcap, hcl]
  refine ⟨hH, hC, ?_, ?_⟩
  · unfold upE
    rw [if_pos hr, hs, if_pos hh.1, if_pos ht, hH, hC]
    have hrm : (removeL (upV L h d) CapG).length < 40 := by
      have h4 := (upE_zero he).2.2.2
      rw [upV_ok he]
      have e1 : removeL (setL (hostedL L h) (canF L h d)) CapG = removeL (hostedL L h) CapG := set_removed h4
      rw [e1]
      exact (setE_zero h4).2.2
    unfold setE
    rw [if_pos hr]
    unfold addE
    simp only
    split
    · first | exact .inr rfl | (rw [if_pos hrm]; exact .inr rfl)
    · first | exact .inl rfl | exact absurd hrm (by assumption) | (split <;> first | exact .inr rfl | exact .inl rfl)
    all_goals exact .inl rfl
  · intro hz
    have h4 := (upE_zero hz).2.2.2
    rw [upV_ok hz, hH, hC] 
    rw [hH, hC] at h4
    refine ⟨?_, ?_⟩
    · rw [named_same (show sameN capS CapG = true by decide)]; exact set_named h4
    · rw [remove_same (show sameN capS CapG = true by decide), remove_same (show sameN capS CapG = true by decide)]; exact set_removed h4
end Go.Proofs.YtcfihoniocamaaaGreatDoor
