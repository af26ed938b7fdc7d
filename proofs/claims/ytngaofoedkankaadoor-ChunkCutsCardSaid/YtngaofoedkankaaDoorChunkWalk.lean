/- A body in chunks: the walks of its state's methods. -/
import Derived.Test.YtngaofoedkankaaDoorChunkMath
import Derived.Test.YtngaofoedkankaaDoorTextTrim2
import Derived.Laws.EntriesVeiled
import Derived.FnLit
namespace Go.Proofs.YtngaofoedkankaaDoor
open Go.RowKit Go.Sort Go.Shelf
set_option linter.unusedVariables false
set_option linter.unusedSimpArgs false

/-! Worlds in which one block alone may have turned. -/
theorem gr_refl (w : World) (r : Option Nat) : w.grownBy w r := ⟨rfl, rfl, rfl, Nat.le_refl _, fun _ _ _ => rfl⟩
theorem gr_trans {a b c : World} {r : Option Nat} (h : a.grownBy b r) (k : b.grownBy c r) : a.grownBy c r :=
  ⟨k.os.trans h.os, k.tape.trans h.tape, k.output.trans h.output, Nat.le_trans h.size k.size, fun i hi hr => (k.block i (Nat.lt_of_lt_of_le hi h.size) hr).trans (h.block i hi hr)⟩
theorem gr_below {a b : World} (h : Below a.heap.size a b) (r : Option Nat) : a.grownBy b r := ⟨h.os, h.tape, h.output, h.size, fun i hi _ => h.block i hi⟩
theorem gr_set {a b : World} {k : Nat} (h : a.grownBy b (some k)) (o : Nat) (v : Value) : a.grownBy (b.setCell ⟨k, o, none⟩ v) (some k) :=
  gr_trans h ⟨rfl, rfl, rfl, by simp [World.setCell], fun i hi hr => Below.heap_setCell _ _ _ _ (fun e => hr (by rw [e]))⟩
theorem gr_alloc {a b : World} {r : Option Nat} (h : a.grownBy b r) (o : Obj) : a.grownBy (b.alloc o) r := gr_trans h (gr_below ((Below.refl _ _).alloc (Nat.le_refl _) o) r)
theorem gr_to {a b : World} {k B : Nat} (h : a.grownBy b (some k)) (hB : B ≤ a.heap.size) (hk : B ≤ k) : Below B a b := Below.grown (Below.refl _ _) h hB (fun j hj => by cases hj; exact hk)

/-- Block b is the state. -/
structure StAt (W : World) (b : Nat) (c : Ck) : Prop where
  lt : b < W.heap.size
  c0 : W.cell? ⟨b, 0, none⟩ = some (.int .i64 c.st)
  c1 : W.cell? ⟨b, 1, none⟩ = some (.string (S c.ln))
  c2 : W.cell? ⟨b, 2, none⟩ = some (.int .i64 c.lf)
  c3 : W.cell? ⟨b, 3, none⟩ = some (.int .i64 c.sz)
  c4 : W.cell? ⟨b, 4, none⟩ = some (.int .i64 0)
  fz : ∀ o, W.frozen? ⟨b, o, none⟩ = false
theorem StAt.same {W w' : World} {b : Nat} {c : Ck} (h : StAt W b c) (hb : w'.heap[b]? = W.heap[b]?) (hs : W.heap.size ≤ w'.heap.size) : StAt w' b c :=
  ⟨Nat.lt_of_lt_of_le h.lt hs, (World.cell?_of_block hb).trans h.c0, (World.cell?_of_block hb).trans h.c1, (World.cell?_of_block hb).trans h.c2, (World.cell?_of_block hb).trans h.c3, (World.cell?_of_block hb).trans h.c4, fun o => (World.frozen?_of_block hb).trans (h.fz o)⟩
theorem StAt.below {W w' : World} {b : Nat} {c : Ck} (h : StAt W b c) (hb : Below W.heap.size W w') : StAt w' b c := h.same (hb.block b h.lt) hb.size
/-- What a line left in it. -/
def StRes (w' : World) (b : Nat) : Nat ⊕ Ck → Prop
  | .inl e => w'.cell? ⟨b, 4, none⟩ = some (.int .i64 e) ∧ b < w'.heap.size ∧ ∀ o, w'.frozen? ⟨b, o, none⟩ = false
  | .inr c => StAt w' b c
theorem size_cases (l : List UInt8) : (sizeR l).2 = 10 ∨ (sizeR l).2 = 2 ∨ (sizeR l).2 = 0 := by
  unfold sizeR readN
  split
  · exact .inl rfl
  · split
    · exact .inr (.inl rfl)
    · exact .inr (.inr rfl)
theorem cutC_len (l : List UInt8) (c : UInt8) : (cut1 l c).1.length ≤ l.length := by
  unfold cut1
  split
  · simp; omega
  · exact Nat.le_refl _

set_option maxHeartbeats 1600000 in
set_option maxRecDepth 100000 in
theorem ckSize (b : Nat) (c : Ck) (l : List UInt8) (W : World) (h : StAt W b c) (h2 : c.st ≠ 2) (h3 : c.st ≠ 3) (hl : l.length ≤ 1000) (hsz : c.sz ≤ 20000) :
    Calls Tryd.prog 35 #[.pointer (some ⟨b, 0, none⟩), .string (S l)] W fun e w' => e = .returned (.tuple #[]) ∧ StRes w' b (lineC c l) ∧ W.grownBy w' (some b) := by
  have KU := Lib.hid (fun W => cut1_S (l := l) (c := 59) (a := (cut1 l 59).1) (b := (cut1 l 59).2.1) (t := (cut1 l 59).2.2) rfl (by omega) W)
  have hcl := cutC_len l 59
  have TR := Lib.hid (fun W => textTrim (cut1 l 59).1 (by omega) W)
  have htl := trimC_le (cut1 l 59).1
  have RH := Lib.hid (fun W => readHex (trim (cut1 l 59).1) (by omega) W)
  have hsr : readN hexV 16 (trim (cut1 l 59).1) = sizeR l := rfl
  rw [hsr] at RH
  have hle := sizeR_le l
  have hcs := size_cases l
  have HLC := Lib.hid (show lineC c l = if (sizeR l).2 = 10 then .inl 33 else if (sizeR l).2 ≠ 0 ∨ 20000 - c.sz < (sizeR l).1 then .inl 2 else if (sizeR l).1 = 0 then .inr { c with st := 3 } else .inr { c with st := 1, lf := (sizeR l).1 } by unfold lineC; rw [if_neg h2, if_neg h3])
  obtain ⟨r, hr⟩ : ∃ r, lineC c l = r := ⟨_, rfl⟩
  rw [hr] at HLC ⊢
  obtain ⟨⟨n, er⟩, hn⟩ : ∃ x, sizeR l = x := ⟨_, rfl⟩
  rw [hn] at RH hle hcs HLC
  simp only at RH hle hcs HLC
  obtain ⟨a1, ha1⟩ : ∃ x, (cut1 l 59).1 = x := ⟨_, rfl⟩
  rw [ha1] at KU TR RH
  obtain ⟨a2, ha2⟩ : ∃ x, trim a1 = x := ⟨_, rfl⟩
  rw [ha2] at TR RH
  obtain ⟨a3, ha3⟩ : ∃ x, (cut1 l 59).2.1 = x := ⟨_, rfl⟩
  obtain ⟨a4, ha4⟩ : ∃ x, (cut1 l 59).2.2 = x := ⟨_, rfl⟩
  rw [ha3, ha4] at KU
  have hw : IntKind.u64.wrap (20000 - (c.sz : Int)) = 20000 - (c.sz : Int) := by rw [IntKind.wrap_u64]; omega
  have hwi : IntKind.i64.wrap (n : Int) = (n : Int) := by rw [IntKind.wrap_i64]; omega
  have hszi : (c.sz : Int) ≤ 20000 := by omega
  have hlt := h.lt
  have HST := Lib.hid h
  have k0 := h.c0
  have k1 := h.c1
  have k2 := h.c2
  have k3 := h.c3
  have k4 := h.c4
  have fz := h.fz
  clear hr hn ha1 ha2 ha3 ha4 hsr hcl htl h h2 h3
  rcases hcs with rfl | rfl | rfl
  · have hR := HLC.out
    rw [if_pos rfl] at hR
    subst hR
    clear HLC
    go_enter Tryd.func35, Tryd.ntmps35
    go_wp2_with (first
      | (go_at_call 52; refine Calls.mono (KU.out _) ?_; rintro e w1 ⟨rfl, hb1⟩; have B1 := Lib.hid hb1; clear hb1)
      | (go_at_call 54; refine Calls.mono (TR.out _) ?_; rintro e w2 ⟨rfl, hb2⟩; have S2 := Lib.hid (HST.out.below (B1.out.trans (hb2.mono B1.out.size))); have B2 := Lib.hid (B1.out.trans (hb2.mono B1.out.size)); have j0 := S2.out.c0; have j1 := S2.out.c1; have j2 := S2.out.c2; have j3 := S2.out.c3; have j4 := S2.out.c4; have jf := S2.out.fz; have hlt2 := S2.out.lt; clear hb2 k0 k1 k2 k3 k4 fz)
      | (go_at_call 53; refine Calls.mono (RH.out _) ?_; rintro e w' ⟨rfl, hw'⟩; obtain rfl := hw'.symm)
      | fail)
    go_end0
    exact ⟨rfl, ⟨by simp [go_sem, *], by simpa using hlt2, fun o => by simp [go_sem, *]⟩, gr_set (gr_below B2.out _) _ _⟩
  · have hR := HLC.out
    rw [if_neg (by decide), if_pos (Or.inl (by decide))] at hR
    subst hR
    clear HLC
    go_enter Tryd.func35, Tryd.ntmps35
    go_wp2_with (first
      | (go_at_call 52; refine Calls.mono (KU.out _) ?_; rintro e w1 ⟨rfl, hb1⟩; have B1 := Lib.hid hb1; clear hb1)
      | (go_at_call 54; refine Calls.mono (TR.out _) ?_; rintro e w2 ⟨rfl, hb2⟩; have S2 := Lib.hid (HST.out.below (B1.out.trans (hb2.mono B1.out.size))); have B2 := Lib.hid (B1.out.trans (hb2.mono B1.out.size)); have j0 := S2.out.c0; have j1 := S2.out.c1; have j2 := S2.out.c2; have j3 := S2.out.c3; have j4 := S2.out.c4; have jf := S2.out.fz; have hlt2 := S2.out.lt; clear hb2 k0 k1 k2 k3 k4 fz)
      | (go_at_call 53; refine Calls.mono (RH.out _) ?_; rintro e w' ⟨rfl, hw'⟩; obtain rfl := hw'.symm)
      | fail)
    go_end0
    exact ⟨rfl, ⟨by simp [go_sem, *], by simpa using hlt2, fun o => by simp [go_sem, *]⟩, gr_set (gr_below B2.out _) _ _⟩
  · by_cases hgt : 20000 - c.sz < n
    · have hR := HLC.out
      rw [if_neg (by decide), if_pos (Or.inr hgt)] at hR
      subst hR
      have hd : (20000 - (c.sz : Int) < (n : Int)) = True := eq_true (by omega)
      clear HLC hgt
      go_enter Tryd.func35, Tryd.ntmps35
      go_wp2_with (first
        | (go_at_call 52; refine Calls.mono (KU.out _) ?_; rintro e w1 ⟨rfl, hb1⟩; have B1 := Lib.hid hb1; clear hb1)
        | (go_at_call 54; refine Calls.mono (TR.out _) ?_; rintro e w2 ⟨rfl, hb2⟩; have S2 := Lib.hid (HST.out.below (B1.out.trans (hb2.mono B1.out.size))); have B2 := Lib.hid (B1.out.trans (hb2.mono B1.out.size)); have j0 := S2.out.c0; have j1 := S2.out.c1; have j2 := S2.out.c2; have j3 := S2.out.c3; have j4 := S2.out.c4; have jf := S2.out.fz; have hlt2 := S2.out.lt; clear hb2 k0 k1 k2 k3 k4 fz)
        | (go_at_call 53; refine Calls.mono (RH.out _) ?_; rintro e w' ⟨rfl, hw'⟩; obtain rfl := hw'.symm)
        | fail)
      go_end0
      exact ⟨rfl, ⟨by simp [go_sem, *], by simpa using hlt2, fun o => by simp [go_sem, *]⟩, gr_set (gr_below B2.out _) _ _⟩
    · have hR := HLC.out
      rw [if_neg (by decide), if_neg (by rintro (h' | h'); exact h' rfl; exact hgt h')] at hR
      have hd : (20000 - (c.sz : Int) < (n : Int)) = False := eq_false (by omega)
      by_cases h0 : n = 0
      · subst h0
        rw [if_pos rfl] at hR
        subst hR
        clear HLC hgt
        go_enter Tryd.func35, Tryd.ntmps35
        go_wp2_with (first
          | (go_at_call 52; refine Calls.mono (KU.out _) ?_; rintro e w1 ⟨rfl, hb1⟩; have B1 := Lib.hid hb1; clear hb1)
          | (go_at_call 54; refine Calls.mono (TR.out _) ?_; rintro e w2 ⟨rfl, hb2⟩; have S2 := Lib.hid (HST.out.below (B1.out.trans (hb2.mono B1.out.size))); have B2 := Lib.hid (B1.out.trans (hb2.mono B1.out.size)); have j0 := S2.out.c0; have j1 := S2.out.c1; have j2 := S2.out.c2; have j3 := S2.out.c3; have j4 := S2.out.c4; have jf := S2.out.fz; have hlt2 := S2.out.lt; clear hb2 k0 k1 k2 k3 k4 fz)
          | (go_at_call 53; refine Calls.mono (RH.out _) ?_; rintro e w' ⟨rfl, hw'⟩; obtain rfl := hw'.symm)
          | fail)
        go_end0
        exact ⟨rfl, ⟨by simpa using hlt2, by simp [go_sem, *], by simp [go_sem, *], by simp [go_sem, *], by simp [go_sem, *], by simp [go_sem, *], fun o => by simp [go_sem, *]⟩, gr_set (gr_below B2.out _) _ _⟩
      · rw [if_neg h0] at hR
        subst hR
        have hnz : ((n : Int) == 0) = false := by simp; omega
        clear HLC hgt
        go_enter Tryd.func35, Tryd.ntmps35
        go_wp2_with (first
          | (go_at_call 52; refine Calls.mono (KU.out _) ?_; rintro e w1 ⟨rfl, hb1⟩; have B1 := Lib.hid hb1; clear hb1)
          | (go_at_call 54; refine Calls.mono (TR.out _) ?_; rintro e w2 ⟨rfl, hb2⟩; have S2 := Lib.hid (HST.out.below (B1.out.trans (hb2.mono B1.out.size))); have B2 := Lib.hid (B1.out.trans (hb2.mono B1.out.size)); have j0 := S2.out.c0; have j1 := S2.out.c1; have j2 := S2.out.c2; have j3 := S2.out.c3; have j4 := S2.out.c4; have jf := S2.out.fz; have hlt2 := S2.out.lt; clear hb2 k0 k1 k2 k3 k4 fz)
          | (go_at_call 53; refine Calls.mono (RH.out _) ?_; rintro e w' ⟨rfl, hw'⟩; obtain rfl := hw'.symm)
          | fail)
        go_end0
        exact ⟨rfl, ⟨by simpa using hlt2, by simp [go_sem, *], by simp [go_sem, *], by simp [go_sem, *], by simp [go_sem, *], by simp [go_sem, *], fun o => by simp [go_sem, *]⟩, gr_set (gr_set (gr_below B2.out _) _ _) _ _⟩

set_option maxHeartbeats 800000 in
theorem ckEnd (b : Nat) (c : Ck) (l : List UInt8) (W : World) (h : StAt W b c) (h2 : c.st = 2) :
    Calls Tryd.prog 36 #[.pointer (some ⟨b, 0, none⟩), .string (S l)] W fun e w' => e = .returned (.tuple #[]) ∧ StRes w' b (lineC c l) ∧ W.grownBy w' (some b) := by
  have HLC := Lib.hid (show lineC c l = if l = [] then .inr { c with st := 0 } else .inl 33 by unfold lineC; rw [if_pos h2])
  obtain ⟨r, hr⟩ : ∃ r, lineC c l = r := ⟨_, rfl⟩
  rw [hr] at HLC ⊢
  have hlt := h.lt
  have k0 := h.c0
  have k1 := h.c1
  have k2 := h.c2
  have k3 := h.c3
  have k4 := h.c4
  have fz := h.fz
  clear hr h h2
  cases l with
  | nil =>
    have hR := HLC.out
    rw [if_pos rfl] at hR
    subst hR
    clear HLC
    go_enter Tryd.func36, Tryd.ntmps36
    go_wp2
    go_end0
    exact ⟨rfl, ⟨by simpa using hlt, by simp [go_sem, *], by simp [go_sem, *], by simp [go_sem, *], by simp [go_sem, *], by simp [go_sem, *], fun o => by simp [go_sem, *]⟩, gr_set (gr_refl _ _) _ _⟩
  | cons x t =>
    have hR := HLC.out
    rw [if_neg (by simp)] at hR
    subst hR
    clear HLC
    go_enter Tryd.func36, Tryd.ntmps36
    go_wp2
    go_end0
    exact ⟨rfl, ⟨by simp [go_sem, *], by simpa using hlt, fun o => by simp [go_sem, *]⟩, gr_set (gr_set (gr_refl _ _) _ _) _ _⟩
set_option maxHeartbeats 800000 in
theorem ckTail (b : Nat) (c : Ck) (l : List UInt8) (W : World) (h : StAt W b c) (h3 : c.st = 3) :
    Calls Tryd.prog 37 #[.pointer (some ⟨b, 0, none⟩), .string (S l)] W fun e w' => e = .returned (.tuple #[]) ∧ StRes w' b (lineC c l) ∧ W.grownBy w' (some b) := by
  have HLC := Lib.hid (show lineC c l = if l = [] then .inr { c with st := 4 } else .inr c by unfold lineC; rw [if_neg (by omega), if_pos h3])
  obtain ⟨r, hr⟩ : ∃ r, lineC c l = r := ⟨_, rfl⟩
  rw [hr] at HLC ⊢
  have HST := Lib.hid h
  have hlt := h.lt
  have k0 := h.c0
  have k1 := h.c1
  have k2 := h.c2
  have k3 := h.c3
  have k4 := h.c4
  have fz := h.fz
  clear hr h h3
  cases l with
  | nil =>
    have hR := HLC.out
    rw [if_pos rfl] at hR
    subst hR
    clear HLC
    go_enter Tryd.func37, Tryd.ntmps37
    go_wp2
    go_end0
    exact ⟨rfl, ⟨by simpa using hlt, by simp [go_sem, *], by simp [go_sem, *], by simp [go_sem, *], by simp [go_sem, *], by simp [go_sem, *], fun o => by simp [go_sem, *]⟩, gr_set (gr_refl _ _) _ _⟩
  | cons x t =>
    have hR := HLC.out
    rw [if_neg (by simp)] at hR
    subst hR
    clear HLC
    go_enter Tryd.func37, Tryd.ntmps37
    go_wp2
    go_end0
    exact ⟨rfl, HST.out, gr_refl _ _⟩
end Go.Proofs.YtngaofoedkankaaDoor
