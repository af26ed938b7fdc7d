/- A once's Do, one goroutine, not yet done and its lock free: the walk (after the kit's worked proof on a lazy value). strings.Replacer for bytes that become texts: build: the walk at the two pairs of text.Quote. strings.NewReplacer at the two pairs of text.Quote, and its build on first use: the walks. Bytes that become texts, gone through: the replacer's walk. Printed by tools/quobytes.py. text.Quote: the walk. -/
import Derived.Test.YtcfihoniocamaaaGreatDoorPk1
import Derived.Test.YtcfihoniocamaaaGreatDoorPk3
import Derived.Test.YtcfihoniocamaaaGreatDoorPk13
import Derived.Test.YtcfihoniocamaaaGreatDoorPk7
import Derived.Test.YtcfihoniocamaaaGreatDoorPk5
import Derived.Test.YtcfihoniocamaaaGreatDoorPk18
import Derived.Test.YtcfihoniocamaaaGreatDoorPk32
import Derived.Test.YtcfihoniocamaaaGreatDoorPk29
import Derived.Test.YtcfihoniocamaaaGreatDoorPk31
import Derived.Defers
import Derived.Laws.Pointers
import Derived.Laws.LoneSync
import Derived.RegionTactic
import Derived.RegionCalls
import Derived.ChangeAlike
import Derived.LoopN
import Derived.Deep.WholeRow
import Derived.Laws.IdiomCopy
import Derived.Laws.OwnMore
import Derived.Shelf.Spec.SlicesInsert
/-! QuoOnce -/
namespace Go.Proofs.YtcfihoniocamaaaGreatDoor
open Go.RowKit
set_option linter.unusedVariables false

theorem race_disable (w : World) : (callFunc 144 #[]).run Tryz.prog w = .ok (.value (.tuple #[])) w := run_call_mark0 Tryz.func144 (by kernel_rfl) (by kernel_rfl) (by kernel_rfl) .disable (by kernel_rfl) w
theorem race_enable (w : World) : (callFunc 146 #[]).run Tryz.prog w = .ok (.value (.tuple #[])) w := run_call_mark0 Tryz.func146 (by kernel_rfl) (by kernel_rfl) (by kernel_rfl) .enable (by kernel_rfl) w
theorem race_acquire (a : Addr) (w : World) : (callFunc 147 #[.pointer (some a)]).run Tryz.prog w = .ok (.value (.tuple #[])) w := run_call_marked Tryz.func147 (by kernel_rfl) (by kernel_rfl) (by kernel_rfl) .acquire (by kernel_rfl) a w
theorem race_releaseMerge (a : Addr) (w : World) : (callFunc 149 #[.pointer (some a)]).run Tryz.prog w = .ok (.value (.tuple #[])) w := run_call_marked Tryz.func149 (by kernel_rfl) (by kernel_rfl) (by kernel_rfl) .releaseMerge (by kernel_rfl) a w

set_option maxRecDepth 100000 in
set_option maxHeartbeats 1600000 in
/-- The flag is set, as a deferred call. -/
theorem store_deferred (a : Addr) (x : Value) (u : FrameMode) (w : World) (hc : w.cell? a = some x) (hz : w.frozen? a = false) :
    CallsD Tryz.prog 127 #[.pointer (some a), .bool true] u w fun e u' w' => u' = u ∧ (e = .returned (.tuple #[]) ∧ w' = w.drew.setCell a (.int .u32 1)) := by
  have hc' : w.drew.cell? a = some x := by go_simp
  have hz' : w.drew.frozen? a = false := by go_simp
  have hst := run_call_store (P := Tryz.prog) Tryz.func138 (by kernel_rfl) (by kernel_rfl) (by kernel_rfl) (by kernel_rfl) (k := .u32) (y := 1) hc' hz'
  go_enter_d Tryz.func127, Tryz.ntmps127
  go_wp2
  go_region_calls
  all_goals (go_end0; exact ⟨rfl, rfl⟩)

set_option maxRecDepth 100000 in
set_option maxHeartbeats 1600000 in
/-- The lock is let go, as a deferred call. -/
theorem unlock_deferred (a : Addr) (u : FrameMode) (w : World) (hc : w.cell? a = some (.int .i32 1)) (hz : w.frozen? a = false) :
    CallsD Tryz.prog 126 #[.pointer (some a)] u w fun e u' w' => u' = u ∧ (e = .returned (.tuple #[]) ∧ w' = w.setCell a (.int .i32 0)) := by
  have hd := race_disable
  have he := race_enable
  have hr := race_releaseMerge
  have hadd := run_call_add (P := Tryz.prog) Tryz.func150 (by kernel_rfl) (by kernel_rfl) (by kernel_rfl) .i32 (by kernel_rfl) (y := -1) (s := 0) hc hz (by simp [go_sem]; rfl)
  have hcv := run_convert_to_unsafe (P := Tryz.prog) (src := 181) (dst := 141) Tryz.underlying181 Tryz.underlying141 (by kernel_rfl) hc
  go_enter_d Tryz.func126, Tryz.ntmps126
  go_wp2
  go_end0
  go_wp2
  go_end0
  exact ⟨rfl, rfl⟩

set_option maxRecDepth 100000 in
set_option maxHeartbeats 1600000 in
/-- The lock, free, is taken. -/
theorem lock_free (a : Addr) (w : World) (hc : w.cell? a = some (.int .i32 0)) (hz : w.frozen? a = false) :
    Calls Tryz.prog 125 #[.pointer (some a)] w fun e w' => e = .returned (.tuple #[]) ∧ w' = w.setCell a (.int .i32 1) := by
  have hd := race_disable
  have he := race_enable
  have ha := race_acquire
  have hcas := run_call_cas_hit (P := Tryz.prog) Tryz.func145 (by kernel_rfl) (by kernel_rfl) (by kernel_rfl) .i32 (by kernel_rfl) (y := 1) hc hz
  have hc' : (w.setCell a (.int .i32 1)).cell? a = some (.int .i32 1) := World.cell?_setCell_same w a _ hc
  have hcv := run_convert_to_unsafe (P := Tryz.prog) (src := 181) (dst := 141) Tryz.underlying181 Tryz.underlying141 (by kernel_rfl) hc'
  go_enter Tryz.func125, Tryz.ntmps125
  go_wp2
  first | go_end0 | (simp only [Exit.inBlock, Exit.then]; refine bodyPost_ret (results_none rfl _ _ _) rfl ?_) | refine bodyPost_ret (results_none rfl _ _ _) rfl ?_
  go_wp2
  go_end0
  exact ⟨rfl, rfl⟩

/-- What the once's function does to the world, its pointer in hand: the once's own cells stay. -/
def BuildTo (b : Nat) (B : Nat) (R : World → Prop) (w : World) (e : Ending) (w' : World) : Prop :=
  e = .returned (.tuple #[]) ∧ R w' ∧ (∀ o, o < 3 → w'.cell? ⟨b, o, none⟩ = w.cell? ⟨b, o, none⟩ ∧ w'.frozen? ⟨b, o, none⟩ = w.frozen? ⟨b, o, none⟩) ∧ Below B w w'

set_option maxRecDepth 100000 in
set_option maxHeartbeats 1600000 in
/-- Not yet done, the lock free. -/
theorem once_slow (b B : Nat) (hB : B ≤ b) (R : World → Prop) (w : World) (h0 : w.cell? ⟨b, 0, none⟩ = some (.int .u32 0)) (h1 : w.cell? ⟨b, 1, none⟩ = some (.int .i32 0)) (f0 : w.frozen? ⟨b, 0, none⟩ = false) (f1 : w.frozen? ⟨b, 1, none⟩ = false)
    (hC : Calls Tryz.prog 93 #[.pointer (some ⟨b, 0, none⟩)] (w.setCell ⟨b, 1, none⟩ (.int .i32 1)) fun e w' => BuildTo b B R (w.setCell ⟨b, 1, none⟩ (.int .i32 1)) e w')
    (hR : ∀ W, R W → R ((W.drew.setCell ⟨b, 0, none⟩ (.int .u32 1)).setCell ⟨b, 1, none⟩ (.int .i32 0))) :
    Calls Tryz.prog 111 #[.pointer (some ⟨b, 0, none⟩), .func (.func 93) #[.pointer (some ⟨b, 0, none⟩)] #[]] w fun e w' => e = .returned (.tuple #[]) ∧ R w' ∧ Below B w w' := by
  have hl := run_call_load (P := Tryz.prog) Tryz.func124 (by kernel_rfl) (by kernel_rfl) (by kernel_rfl) .u32 (by kernel_rfl) (w := w.setCell ⟨b, 1, none⟩ (.int .i32 1)) (a := ⟨b, 0, none⟩) (x := 0) ((World.cell?_setCell_other _ ⟨b, 1, none⟩ ⟨b, 0, none⟩ _ (by simp)).trans h0)
  have hnot : ∀ (x : Bool) (w : World), (Op.unary .not (.bool x)).run Tryz.prog w = .ok (.bool (!x)) w := fun _ _ => rfl
  have HC := Lib.hid hC
  clear hC
  go_enter_defers Tryz.func111, Tryz.ntmps111
  go_wp2_with (first
    | (go_at_call 125; refine (lock_free ⟨b, 1, none⟩ _ (by go_simp) (by go_simp)).mono ?_; rintro e w' ⟨rfl, rfl⟩)
    | (go_at_call 93; refine HC.out.mono ?_; rintro e w2 ⟨rfl, hr, hcells, hbel⟩)
    | (go_at_call 110; go_in))
  have c0 : w2.cell? ⟨b, 0, none⟩ = some (.int .u32 0) := (hcells 0 (by omega)).1.trans ((World.cell?_setCell_other _ ⟨b, 1, none⟩ ⟨b, 0, none⟩ _ (by simp)).trans h0)
  have c1 : w2.cell? ⟨b, 1, none⟩ = some (.int .i32 1) := (hcells 1 (by omega)).1.trans (World.cell?_setCell_same _ _ _ h1)
  have z0 : w2.frozen? ⟨b, 0, none⟩ = false := (hcells 0 (by omega)).2.trans (by simpa using f0)
  have z1 : w2.frozen? ⟨b, 1, none⟩ = false := (hcells 1 (by omega)).2.trans (by simpa using f1)
  refine leaves_cons (f := 127) (args := #[.pointer (some ⟨b, 0, none⟩), .bool true]) (by simp) (by simp [go_sem]) ?_
  refine (store_deferred ⟨b, 0, none⟩ (.int .u32 0) .returning _ c0 z0).mono ?_
  rintro e u' w'' ⟨rfl, rfl, rfl⟩
  refine leaves_cons (f := 126) (args := #[.pointer (some ⟨b, 1, none⟩)]) (by simp [settle]) (by simp [go_sem]) ?_
  refine (unlock_deferred ⟨b, 1, none⟩ _ _ ?_ (by simpa using z1)).mono ?_
  · rw [World.cell?_setCell_other _ ⟨b, 0, none⟩ ⟨b, 1, none⟩ _ (by simp), World.cell?_drew]; exact c1
  rintro e u' w'' ⟨rfl, rfl, rfl⟩
  have hfin : Below B w ((w2.drew.setCell ⟨b, 0, none⟩ (.int .u32 1)).setCell ⟨b, 1, none⟩ (.int .i32 0)) :=
    ((((Below.refl B w).setCell (p := ⟨b, 1, none⟩) hB _).trans hbel).drew.setCell (p := ⟨b, 0, none⟩) hB _).setCell (p := ⟨b, 1, none⟩) hB _
  have hRR := hR _ hr
  simp [Leaves, settle, results, Tryz.results111]
  exact ⟨hRR, hfin⟩

set_option maxRecDepth 100000 in
set_option maxHeartbeats 1600000 in
theorem once_do (b B : Nat) (hB : B ≤ b) (R : World → Prop) (w : World) (h0 : w.cell? ⟨b, 0, none⟩ = some (.int .u32 0)) (h1 : w.cell? ⟨b, 1, none⟩ = some (.int .i32 0)) (f0 : w.frozen? ⟨b, 0, none⟩ = false) (f1 : w.frozen? ⟨b, 1, none⟩ = false)
    (hC : Calls Tryz.prog 93 #[.pointer (some ⟨b, 0, none⟩)] (w.setCell ⟨b, 1, none⟩ (.int .i32 1)) fun e w' => BuildTo b B R (w.setCell ⟨b, 1, none⟩ (.int .i32 1)) e w')
    (hR : ∀ W, R W → R ((W.drew.setCell ⟨b, 0, none⟩ (.int .u32 1)).setCell ⟨b, 1, none⟩ (.int .i32 0))) :
    Calls Tryz.prog 92 #[.pointer (some ⟨b, 0, none⟩), .func (.func 93) #[.pointer (some ⟨b, 0, none⟩)] #[]] w fun e w' => e = .returned (.tuple #[]) ∧ R w' ∧ Below B w w' := by
  have hl := run_call_load (P := Tryz.prog) Tryz.func124 (by kernel_rfl) (by kernel_rfl) (by kernel_rfl) .u32 (by kernel_rfl) h0
  have hnot : ∀ (x : Bool) (w : World), (Op.unary .not (.bool x)).run Tryz.prog w = .ok (.bool (!x)) w := fun _ _ => rfl
  have OS := Lib.hid (once_slow b B hB R w h0 h1 f0 f1 hC hR)
  clear hC hR
  go_enter Tryz.func92, Tryz.ntmps92
  go_wp2_with (first
    | (go_at_call 111; refine OS.out.mono ?_; rintro e w2 ⟨rfl, hr, hbel⟩)
    | (go_at_call 110; go_in))
  go_end0
  exact ⟨rfl, hr, hbel⟩
end Go.Proofs.YtcfihoniocamaaaGreatDoor
/-! QuoBuild -/
namespace Go.Proofs.YtcfihoniocamaaaGreatDoor
open Go.RowKit
set_option linter.unusedVariables false

def nils257 : Array Value := Array.replicate 257 (.slice none 0 0)
theorem zero257 (w : World) : (zeroValue 156).run Tryz.prog w = .ok (.agg nils257) w := by kernel_rfl

theorem nils_set (v : Value) : (∀ j, j < 256 → (nils257.set 256 v (by decide +kernel))[j]? = some (.slice none 0 0)) ∧ (nils257.set 256 v (by decide +kernel))[256]? = some v ∧ (nils257.set 256 v (by decide +kernel)).size = 257 := by
  refine ⟨fun j hj => ?_, ?_, ?_⟩
  · rw [Array.getElem?_set_ne (by decide +kernel) (by omega)]
    unfold nils257
    rw [Array.getElem?_replicate, if_pos (by omega)]
  · simp
  · simp [nils257]
theorem nils_store (w : World) (v : Value) (hv : v.oneCell' = true) : (storeCells ⟨w.heap.size, 0, none⟩ (nils257.toList.set 256 v) 0).run Tryz.prog (w.alloc (.cells nils257 156)) = .ok () (w.alloc (.cells (nils257.set 256 v (by decide +kernel)) 156)) := by
  have h := run_storeCells_new (P := Tryz.prog) w 156 nils257 (nils257.set 256 v (by decide +kernel)) (by rw [(nils_set v).2.2]; kernel_rfl) (by simp) (by
    rw [Array.all_eq_true_iff_forall_mem]
    intro x hx
    obtain ⟨j, hj, rfl⟩ := Array.mem_iff_getElem.1 hx
    by_cases h : j = 256
    · subst h; simpa using hv
    · have h2 := (nils_set v).1 j (by have := (nils_set v).2.2; omega)
      rw [Array.getElem?_eq_getElem hj] at h2
      rw [Option.some.inj h2]; rfl)
  rw [show (nils257.set 256 v (by decide +kernel)).toList = nils257.toList.set 256 v by simp] at h
  exact h
theorem mk02 (w : World) : (Instr.makeSlice 28 (.int .i64 0) (.int .i64 2)).run Tryz.prog w = .ok (.slice (some ⟨w.heap.size, 0, none⟩) 0 2) (w.alloc (.cells #[.string (S []), .string (S [])] 9)) := by kernel_rfl

theorem nil_eq (w : World) : (binOp .eql 78 (.slice none 0 0) (.slice none 0 0)).run Tryz.prog w = .ok (.bool true) w := by kernel_rfl

theorem gen_world {P Q : World → Prop} (w : World) (hQ : Q w) (h : ∀ x, Q x → P x) : P w := h w hQ
/-- The replacer of text.Quote, laid at block R; its blocks are lo or later. -/
structure Rep (W : World) (lo R : Nat) : Prop where
  lt : lo ≤ R ∧ R < W.heap.size
  nil : ∀ c, c < 256 → c ≠ 34 → c ≠ 92 → W.cell? ⟨R, c, none⟩ = some (.slice none 0 0)
  quo : ∃ b1 c1, lo ≤ b1 ∧ b1 < W.heap.size ∧ W.cell? ⟨R, 34, none⟩ = some (.slice (some ⟨b1, 0, none⟩) 2 c1) ∧ W.cell? ⟨b1, 0, none⟩ = some (.int .u8 92) ∧ W.cell? ⟨b1, 1, none⟩ = some (.int .u8 34)
  bsl : ∃ b2 c2, lo ≤ b2 ∧ b2 < W.heap.size ∧ W.cell? ⟨R, 92, none⟩ = some (.slice (some ⟨b2, 0, none⟩) 2 c2) ∧ W.cell? ⟨b2, 0, none⟩ = some (.int .u8 92) ∧ W.cell? ⟨b2, 1, none⟩ = some (.int .u8 92)
  rep : ∃ tb c3, lo ≤ tb ∧ tb < W.heap.size ∧ W.cell? ⟨R, 256, none⟩ = some (.slice (some ⟨tb, 0, none⟩) 2 c3) ∧ W.cell? ⟨tb, 0, none⟩ = some (.string (S [92])) ∧ W.cell? ⟨tb, 1, none⟩ = some (.string (S [34]))
/-- Behind the first round. -/
structure Half (W x : World) : Prop where
  nil : ∀ c, c < 256 → c ≠ 92 → x.cell? ⟨W.heap.size + 1, c, none⟩ = some (.slice none 0 0)
  bsl : ∃ c2, x.cell? ⟨W.heap.size + 1, 92, none⟩ = some (.slice (some ⟨W.heap.size + 1 + 1 + 1 + 1, 0, none⟩) 2 c2)
  b0 : x.cell? ⟨W.heap.size + 1 + 1 + 1 + 1, 0, none⟩ = some (.int .u8 92)
  b1 : x.cell? ⟨W.heap.size + 1 + 1 + 1 + 1, 1, none⟩ = some (.int .u8 92)
  rep : x.cell? ⟨W.heap.size + 1, 256, none⟩ = some (.slice (some ⟨W.heap.size, 0, none⟩) 1 2)
  t0 : x.cell? ⟨W.heap.size, 0, none⟩ = some (.string (S [92]))
  t1 : x.cell? ⟨W.heap.size, 1, none⟩ = some (.string (S []))
  f1 : ∀ o, o < 257 → x.frozen? ⟨W.heap.size + 1, o, none⟩ = false
  f0 : ∀ o, o < 2 → x.frozen? ⟨W.heap.size, o, none⟩ = false
  size : W.heap.size + 5 ≤ x.heap.size
  bel : Below W.heap.size W x

theorem half_made (W : World) (A : Array Value) (hA : ∀ j, j < 256 → A[j]? = some (.slice none 0 0)) (hs : A.size = 257) (c : Nat) (hc : 2 ≤ c) :
    Half W (((((W.alloc (.cells #[.string (S [92]), .string (S [])] 9)).alloc (.cells ((A.setIfInBounds 256 (.slice (some ⟨W.heap.size, 0, none⟩) 1 2)).setIfInBounds 92 (.slice (some ⟨W.heap.size + 1 + 1 + 1 + 1, 0, none⟩) 2 c)) 156)).alloc (.cells #[.int .u8 92] 5)).alloc (.cells #[.string (S [92])] 9)).alloc (.cells (bytesRow (S [92, 92]) c) 5 ((bytesRow (S [92, 92]) c).size, (bytesRow (S [92, 92]) c).size + 1))).drew := by
  have hb := bytes_laid ((((W.alloc (.cells #[.string (S [92]), .string (S [])] 9)).alloc (.cells ((A.setIfInBounds 256 (.slice (some ⟨W.heap.size, 0, none⟩) 1 2)).setIfInBounds 92 (.slice (some ⟨W.heap.size + 1 + 1 + 1 + 1, 0, none⟩) 2 c)) 156)).alloc (.cells #[.int .u8 92] 5)).alloc (.cells #[.string (S [92])] 9)) [92, 92] c 5 hc
  simp only [World.size_alloc] at hb
  refine ⟨fun k hk h92 => ?_, ⟨c, ?_⟩, (hb 0 (by simp)).1, (hb 1 (by simp)).1, ?_, ?_, ?_, ?_, ?_, ?_, ?_⟩
  · have e : ((A.setIfInBounds 256 (.slice (some ⟨W.heap.size, 0, none⟩) 1 2)).setIfInBounds 92 (.slice (some ⟨W.heap.size + 1 + 1 + 1 + 1, 0, none⟩) 2 c))[k]? = some (.slice none 0 0) := by
      rw [Array.getElem?_setIfInBounds_ne (by omega), Array.getElem?_setIfInBounds_ne (by omega)]
      exact hA k hk
    have h := World.cell?_alloc_new (W.alloc (.cells #[.string (S [92]), .string (S [])] 9)) ((A.setIfInBounds 256 (.slice (some ⟨W.heap.size, 0, none⟩) 1 2)).setIfInBounds 92 (.slice (some ⟨W.heap.size + 1 + 1 + 1 + 1, 0, none⟩) 2 c)) 156 k
    rw [World.size_alloc, e] at h
    rw [World.cell?_drew, World.cell?_alloc_past _ _ _ (by simp), World.cell?_alloc_past _ _ _ (by simp), World.cell?_alloc_past _ _ _ (by simp)]
    exact h
  · have e : ((A.setIfInBounds 256 (.slice (some ⟨W.heap.size, 0, none⟩) 1 2)).setIfInBounds 92 (.slice (some ⟨W.heap.size + 1 + 1 + 1 + 1, 0, none⟩) 2 c))[92]? = some (.slice (some ⟨W.heap.size + 1 + 1 + 1 + 1, 0, none⟩) 2 c) := by
      rw [Array.getElem?_setIfInBounds_self_of_lt (by simp [hs])]
    have h := World.cell?_alloc_new (W.alloc (.cells #[.string (S [92]), .string (S [])] 9)) ((A.setIfInBounds 256 (.slice (some ⟨W.heap.size, 0, none⟩) 1 2)).setIfInBounds 92 (.slice (some ⟨W.heap.size + 1 + 1 + 1 + 1, 0, none⟩) 2 c)) 156 92
    rw [World.size_alloc, e] at h
    rw [World.cell?_drew, World.cell?_alloc_past _ _ _ (by simp), World.cell?_alloc_past _ _ _ (by simp), World.cell?_alloc_past _ _ _ (by simp)]
    exact h
  · have e : ((A.setIfInBounds 256 (.slice (some ⟨W.heap.size, 0, none⟩) 1 2)).setIfInBounds 92 (.slice (some ⟨W.heap.size + 1 + 1 + 1 + 1, 0, none⟩) 2 c))[256]? = some (.slice (some ⟨W.heap.size, 0, none⟩) 1 2) := by
      rw [Array.getElem?_setIfInBounds_ne (by omega), Array.getElem?_setIfInBounds_self_of_lt (by simp [hs])]
    have h := World.cell?_alloc_new (W.alloc (.cells #[.string (S [92]), .string (S [])] 9)) ((A.setIfInBounds 256 (.slice (some ⟨W.heap.size, 0, none⟩) 1 2)).setIfInBounds 92 (.slice (some ⟨W.heap.size + 1 + 1 + 1 + 1, 0, none⟩) 2 c)) 156 256
    rw [World.size_alloc, e] at h
    rw [World.cell?_drew, World.cell?_alloc_past _ _ _ (by simp), World.cell?_alloc_past _ _ _ (by simp), World.cell?_alloc_past _ _ _ (by simp)]
    exact h
  · rw [World.cell?_drew, World.cell?_alloc_past _ _ _ (by simp; omega), World.cell?_alloc_past _ _ _ (by simp; omega), World.cell?_alloc_past _ _ _ (by simp; omega), World.cell?_alloc_past _ _ _ (by simp), World.cell?_alloc_new]
    rfl
  · rw [World.cell?_drew, World.cell?_alloc_past _ _ _ (by simp; omega), World.cell?_alloc_past _ _ _ (by simp; omega), World.cell?_alloc_past _ _ _ (by simp; omega), World.cell?_alloc_past _ _ _ (by simp), World.cell?_alloc_new]
    rfl
  · intro o ho
    rw [World.frozen?_drew, World.frozen?_alloc_past _ _ _ (by simp), World.frozen?_alloc_past _ _ _ (by simp), World.frozen?_alloc_past _ _ _ (by simp)]
    exact World.frozen?_alloc_at _ _ _ _ (by simp)
  · intro o ho
    rw [World.frozen?_drew, World.frozen?_alloc_past _ _ _ (by simp; omega), World.frozen?_alloc_past _ _ _ (by simp; omega), World.frozen?_alloc_past _ _ _ (by simp; omega), World.frozen?_alloc_past _ _ _ (by simp)]
    exact World.frozen?_alloc_at _ _ _ _ (by simp)
  · simp
  · (repeat (first | (with_reducible exact Below.refl _ _) | (with_reducible assumption) | (with_reducible refine Below.drew ?_) | (focus ((with_reducible refine Below.setCell ?_ ?_ _); rotate_left; (first | omega | (simp <;> omega)))) | (focus ((with_reducible refine Below.alloc ?_ ?_ _); rotate_left; (first | omega | (simp <;> omega)))) | exact Below.refl _ _ | assumption | refine Below.drew ?_ | refine Below.alloc ?_ (by first | omega | (simp <;> omega)) _ | refine Below.setCell ?_ (by first | omega | (simp <;> omega)) _))
theorem quo_made (W x : World) (h : Half W x) (c : Nat) (hc : 2 ≤ c) :
    Rep ((((((x.setCell ⟨W.heap.size, 1, none⟩ (.string (S [34]))).setCell ⟨W.heap.size + 1, 256, none⟩ (.slice (some ⟨W.heap.size, 0, none⟩) 2 2)).setCell ⟨W.heap.size + 1, 34, none⟩ (.slice (some ⟨x.heap.size + 1 + 1, 0, none⟩) 2 c)).alloc (.cells #[.int .u8 34] 5)).alloc (.cells #[.string (S [34])] 9)).alloc (.cells (bytesRow (S [92, 34]) c) 5 ((bytesRow (S [92, 34]) c).size, (bytesRow (S [92, 34]) c).size + 1))).drew W.heap.size (W.heap.size + 1) ∧
    Below W.heap.size W ((((((x.setCell ⟨W.heap.size, 1, none⟩ (.string (S [34]))).setCell ⟨W.heap.size + 1, 256, none⟩ (.slice (some ⟨W.heap.size, 0, none⟩) 2 2)).setCell ⟨W.heap.size + 1, 34, none⟩ (.slice (some ⟨x.heap.size + 1 + 1, 0, none⟩) 2 c)).alloc (.cells #[.int .u8 34] 5)).alloc (.cells #[.string (S [34])] 9)).alloc (.cells (bytesRow (S [92, 34]) c) 5 ((bytesRow (S [92, 34]) c).size, (bytesRow (S [92, 34]) c).size + 1))).drew := by
  obtain ⟨c2, hbs⟩ := h.bsl
  have hz := h.size
  obtain ⟨y, hy⟩ : ∃ y, ((x.setCell ⟨W.heap.size, 1, none⟩ (.string (S [34]))).setCell ⟨W.heap.size + 1, 256, none⟩ (.slice (some ⟨W.heap.size, 0, none⟩) 2 2)).setCell ⟨W.heap.size + 1, 34, none⟩ (.slice (some ⟨x.heap.size + 1 + 1, 0, none⟩) 2 c) = y := ⟨_, rfl⟩
  have hys : y.heap.size = x.heap.size := by rw [← hy]; simp
  have hR : ∀ k, k ≠ 34 → k ≠ 256 → y.cell? ⟨W.heap.size + 1, k, none⟩ = x.cell? ⟨W.heap.size + 1, k, none⟩ := fun k h1 h2 => by
    rw [← hy, World.cell?_setCell_other _ _ _ _ (by simp <;> omega), World.cell?_setCell_other _ _ _ _ (by simp <;> omega), World.cell?_setCell_other _ _ _ _ (by simp <;> omega)]
  have h34 : y.cell? ⟨W.heap.size + 1, 34, none⟩ = some (.slice (some ⟨x.heap.size + 1 + 1, 0, none⟩) 2 c) := by
    rw [← hy]
    refine World.cell?_setCell_same _ _ _ (u := .slice none 0 0) ?_
    rw [World.cell?_setCell_other _ _ _ _ (by simp), World.cell?_setCell_other _ _ _ _ (by simp)]
    exact h.nil 34 (by omega) (by omega)
  have h256 : y.cell? ⟨W.heap.size + 1, 256, none⟩ = some (.slice (some ⟨W.heap.size, 0, none⟩) 2 2) := by
    rw [← hy, World.cell?_setCell_other _ _ _ _ (by simp)]
    refine World.cell?_setCell_same _ _ _ (u := .slice (some ⟨W.heap.size, 0, none⟩) 1 2) ?_
    rw [World.cell?_setCell_other _ _ _ _ (by simp)]
    exact h.rep
  have ht0 : y.cell? ⟨W.heap.size, 0, none⟩ = some (.string (S [92])) := by
    rw [← hy, World.cell?_setCell_other _ _ _ _ (by simp), World.cell?_setCell_other _ _ _ _ (by simp), World.cell?_setCell_other _ _ _ _ (by simp)]
    exact h.t0
  have ht1 : y.cell? ⟨W.heap.size, 1, none⟩ = some (.string (S [34])) := by
    rw [← hy, World.cell?_setCell_other _ _ _ _ (by simp), World.cell?_setCell_other _ _ _ _ (by simp)]
    exact World.cell?_setCell_same _ _ _ h.t1
  have hbb : ∀ o, y.cell? ⟨W.heap.size + 1 + 1 + 1 + 1, o, none⟩ = x.cell? ⟨W.heap.size + 1 + 1 + 1 + 1, o, none⟩ := fun o => by
    rw [← hy, World.cell?_setCell_other _ _ _ _ (by simp <;> omega), World.cell?_setCell_other _ _ _ _ (by simp <;> omega), World.cell?_setCell_other _ _ _ _ (by simp <;> omega)]
  have hbl : Below W.heap.size W y := by
    rw [← hy]
    exact ((h.bel.setCell (p := ⟨W.heap.size, 1, none⟩) (Nat.le_refl _) _).setCell (p := ⟨W.heap.size + 1, 256, none⟩) (by simp) _).setCell (p := ⟨W.heap.size + 1, 34, none⟩) (by simp) _
  rw [hy]
  clear hy
  have hb := bytes_laid ((y.alloc (.cells #[.int .u8 34] 5)).alloc (.cells #[.string (S [34])] 9)) [92, 34] c 5 hc
  simp only [World.size_alloc, hys] at hb
  obtain ⟨F, hF⟩ : ∃ F, (((y.alloc (.cells #[.int .u8 34] 5)).alloc (.cells #[.string (S [34])] 9)).alloc (.cells (bytesRow (S [92, 34]) c) 5 ((bytesRow (S [92, 34]) c).size, (bytesRow (S [92, 34]) c).size + 1))).drew = F := ⟨_, rfl⟩
  have hyF : Below y.heap.size y F := by rw [← hF]; exact ((((Below.refl _ _).alloc (Nat.le_refl _) _).alloc (by simp) _).alloc (by simp; omega) _).drew
  have hFs : F.heap.size = x.heap.size + 1 + 1 + 1 := by rw [← hF]; simp [hys]
  rw [hF] at hb ⊢
  clear hF
  have cy : ∀ (n o : Nat), n < x.heap.size → F.cell? ⟨n, o, none⟩ = y.cell? ⟨n, o, none⟩ := fun n o hn => hyF.cell (p := ⟨n, o, none⟩) (by rw [hys]; exact hn)
  refine ⟨⟨⟨by omega, by omega⟩, fun k h1 h2 h3 => ?_, ⟨x.heap.size + 1 + 1, c, by omega, by omega, ?_, (hb 0 (by simp)).1, (hb 1 (by simp)).1⟩, ⟨W.heap.size + 1 + 1 + 1 + 1, c2, by omega, by omega, ?_, ?_, ?_⟩, ⟨W.heap.size, 2, Nat.le_refl _, by omega, ?_, ?_, ?_⟩⟩, hbl.trans (hyF.mono (by omega))⟩
  · rw [cy _ _ (by omega), hR k h2 (by omega)]; exact h.nil k h1 h3
  · rw [cy _ _ (by omega)]; exact h34
  · rw [cy _ _ (by omega), hR 92 (by omega) (by omega)]; exact hbs
  · rw [cy _ _ (by omega), hbb]; exact h.b0
  · rw [cy _ _ (by omega), hbb]; exact h.b1
  · rw [cy _ _ (by omega)]; exact h256
  · rw [cy _ _ (by omega)]; exact ht0
  · rw [cy _ _ (by omega)]; exact ht1

set_option maxRecDepth 100000 in
set_option maxHeartbeats 1600000 in
theorem quo_build (b g cap : Nat) (W : World) (hb : b < W.heap.size) (hg : g < W.heap.size) (hcap : 4 ≤ cap) (h4 : W.cell? ⟨b, 4, none⟩ = some (.slice (some ⟨g, 0, none⟩) 4 cap))
    (g0 : W.cell? ⟨g, 0, none⟩ = some (.string (S [34]))) (g1 : W.cell? ⟨g, 1, none⟩ = some (.string (S [92, 34]))) (g2 : W.cell? ⟨g, 2, none⟩ = some (.string (S [92]))) (g3 : W.cell? ⟨g, 3, none⟩ = some (.string (S [92, 92]))) :
    Calls Tryz.prog 112 #[.pointer (some ⟨b, 0, none⟩)] W fun e w' => e = .returned (.iface 157 (.pointer (some ⟨W.heap.size + 1, 0, none⟩))) ∧ Rep w' W.heap.size (W.heap.size + 1) ∧ Below W.heap.size W w' := by
  have hz := zero257
  have HA := nils_set (.slice (some ⟨W.heap.size, 0, none⟩) 0 2)
  have hst := nils_store (W.alloc (.cells #[.string (S []), .string (S [])] 9)) (.slice (some ⟨W.heap.size, 0, none⟩) 0 2) rfl
  simp only [World.size_alloc] at hst
  obtain ⟨A, hA⟩ : ∃ A, nils257.set 256 (.slice (some ⟨W.heap.size, 0, none⟩) 0 2) (by decide +kernel) = A := ⟨_, rfl⟩
  rw [hA] at HA hst
  obtain ⟨hA1, hA2, hAs⟩ := HA
  have a34 := hA1 34 (by omega)
  have a92 := hA1 92 (by omega)
  have HA1 := Lib.hid hA1
  have e34 : A[34]'(by omega) = .slice none 0 0 := by rw [Array.getElem?_eq_getElem (by omega)] at a34; exact Option.some.inj a34
  have e92 : A[92]'(by omega) = .slice none 0 0 := by rw [Array.getElem?_eq_getElem (by omega)] at a92; exact Option.some.inj a92
  have e256 : A[256]'(by omega) = .slice (some ⟨W.heap.size, 0, none⟩) 0 2 := by rw [Array.getElem?_eq_getElem (by omega)] at hA2; exact Option.some.inj hA2
  clear hA1 hA
  have hmk := mk02
  have hnil := nil_eq
  have hcv := fun w => run_bytes_of_string (P := Tryz.prog) w 9 78 5 (S [92, 92]) Tryz.underlying9 Tryz.underlying78 Tryz.underlying5
  have hcw := fun w => run_bytes_of_string (P := Tryz.prog) w 9 78 5 (S [92, 34]) Tryz.underlying9 Tryz.underlying78 Tryz.underlying5
  have v92 : ∀ (W : World) (bb : Nat), W.cell? ⟨bb, 0, none⟩ = some (.int .u8 92) → (convert 78 9 (.slice (some ⟨bb, 0, none⟩) 1 1)).run Tryz.prog W = .ok (.string (S [92])) W := fun W bb h => conv_one W bb 92 h
  have v34 : ∀ (W : World) (bb : Nat), W.cell? ⟨bb, 0, none⟩ = some (.int .u8 34) → (convert 78 9 (.slice (some ⟨bb, 0, none⟩) 1 1)).run Tryz.prog W = .ok (.string (S [34])) W := fun W bb h => conv_one W bb 34 h
  have hb92 : bAt [92] 0 = 92 := rfl
  have hb34 : bAt [34] 0 = 34 := rfl
  go_enter Tryz.func112, Tryz.ntmps112
  go_wp2
  refine wp_loop_rounds 3 ?_
  rw [Code.rounds]
  go_wp2
  rw [Code.rounds]
  go_wp2
  rw [Code.rounds]
  go_wp2
  refine wp_loop_rounds 3 ?_
  rw [Code.rounds]
  go_wp2
  refine gen_world (Q := Half W) _ ?_ ?_
  · exact half_made W A HA1.out hAs _ (grownCap_ge _ 2 0 5)
  rintro x ⟨hn, ⟨c2, hbs⟩, hb0, hb1, hrp, ht0, ht1, hf1, hf0, hsz, hbel⟩
  have g0' := (hbel.cell (p := ⟨g, 0, none⟩) hg).trans g0
  have g1' := (hbel.cell (p := ⟨g, 1, none⟩) hg).trans g1
  have x34 := hn 34 (by omega) (by omega)
  have z34 := hf1 34 (by omega)
  have z256 := hf1 256 (by omega)
  have z1 := hf0 1 (by omega)
  have HF := Lib.hid (show Half W x from ⟨hn, ⟨c2, hbs⟩, hb0, hb1, hrp, ht0, ht1, hf1, hf0, hsz, hbel⟩)
  have hs0 := far (show W.heap.size < x.heap.size by omega)
  have hs1 := far (show W.heap.size + 1 < x.heap.size by omega)
  clear hn hbs hb0 hb1 hf1 hf0 hbel g0 g1 g2 g3
  rw [Code.rounds]
  go_wp2
  rw [Code.rounds]
  go_wp2
  go_ret
  obtain ⟨r1, r2⟩ := quo_made W x HF.out _ (grownCap_ge _ 2 0 5)
  exact ⟨rfl, r1, r2⟩
end Go.Proofs.YtcfihoniocamaaaGreatDoor
/-! QuoNew -/
namespace Go.Proofs.YtcfihoniocamaaaGreatDoor
open Go.RowKit
set_option linter.unusedVariables false

theorem Rep.keep {W W' : World} {lo R : Nat} (h : Rep W lo R) (hc : ∀ n o, lo ≤ n → n < W.heap.size → W'.cell? ⟨n, o, none⟩ = W.cell? ⟨n, o, none⟩) (hs : W.heap.size ≤ W'.heap.size) : Rep W' lo R := by
  obtain ⟨⟨h1, h2⟩, h3, ⟨b1, c1, i1, i2, i3, i4, i5⟩, ⟨b2, c2, j1, j2, j3, j4, j5⟩, ⟨tb, c3, k1, k2, k3, k4, k5⟩⟩ := h
  refine ⟨⟨h1, by omega⟩, fun c x y z => (hc R c h1 h2).trans (h3 c x y z), ⟨b1, c1, i1, by omega, (hc R _ h1 h2).trans i3, (hc _ _ i1 i2).trans i4, (hc _ _ i1 i2).trans i5⟩, ⟨b2, c2, j1, by omega, (hc R _ h1 h2).trans j3, (hc _ _ j1 j2).trans j4, (hc _ _ j1 j2).trans j5⟩, ⟨tb, c3, k1, by omega, (hc R _ h1 h2).trans k3, (hc _ _ k1 k2).trans k4, (hc _ _ k1 k2).trans k5⟩⟩
theorem Rep.below {W W' : World} {lo R : Nat} (h : Rep W lo R) (hb : Below W.heap.size W W') : Rep W' lo R :=
  h.keep (fun n o _ hn => hb.cell (p := ⟨n, o, none⟩) hn) hb.size

/-- Behind the first use: the replacer is laid. -/
def Laid (b lo : Nat) (w : World) : Prop := ∃ R, Rep w lo R ∧ w.cell? ⟨b, 3, none⟩ = some (.iface 157 (.pointer (some ⟨R, 0, none⟩)))

set_option maxRecDepth 100000 in
set_option maxHeartbeats 1600000 in
theorem quo_once (b g cap B : Nat) (hB : B ≤ b) (W : World) (hb : b < W.heap.size) (hg : g < W.heap.size) (hcap : 4 ≤ cap) (h3 : ∃ v, W.cell? ⟨b, 3, none⟩ = some v) (h4 : W.cell? ⟨b, 4, none⟩ = some (.slice (some ⟨g, 0, none⟩) 4 cap)) (f3 : W.frozen? ⟨b, 3, none⟩ = false) (f4 : W.frozen? ⟨b, 4, none⟩ = false)
    (g0 : W.cell? ⟨g, 0, none⟩ = some (.string (S [34]))) (g1 : W.cell? ⟨g, 1, none⟩ = some (.string (S [92, 34]))) (g2 : W.cell? ⟨g, 2, none⟩ = some (.string (S [92]))) (g3 : W.cell? ⟨g, 3, none⟩ = some (.string (S [92, 92]))) :
    Calls Tryz.prog 93 #[.pointer (some ⟨b, 0, none⟩)] W fun e w' => BuildTo b B (Laid b W.heap.size) W e w' := by
  have BL := Lib.hid (quo_build b g cap W hb hg hcap h4 g0 g1 g2 g3)
  obtain ⟨v3, h3⟩ := h3
  clear g0 g1 g2 g3
  go_enter Tryz.func93, Tryz.ntmps93
  go_wp2_with (go_at_call 112; refine Calls.mono BL.out ?_; rintro e w1 ⟨rfl, hr, hbel⟩; have HR := Lib.hid hr; have HB1 := Lib.hid hbel; have d3 := (hbel.cell (p := ⟨b, 3, none⟩) hb).trans h3; have d4 := (hbel.cell (p := ⟨b, 4, none⟩) hb).trans h4; have z3 := (hbel.frozen (p := ⟨b, 3, none⟩) hb).trans f3; have z4 := (hbel.frozen (p := ⟨b, 4, none⟩) hb).trans f4; clear hr hbel)
  go_end0
  refine ⟨rfl, ⟨W.heap.size + 1, HR.out.keep (fun n o hn _ => ?_) (by simp), ?_⟩, fun o ho => ⟨?_, ?_⟩, ?_⟩
  · rw [World.cell?_setCell_other _ _ _ _ (by simp <;> omega), World.cell?_setCell_other _ _ _ _ (by simp <;> omega)]
  · rw [World.cell?_setCell_other _ _ _ _ (by simp)]
    exact World.cell?_setCell_same _ _ _ d3
  · rw [World.cell?_setCell_other _ _ _ _ (by simp <;> omega), World.cell?_setCell_other _ _ _ _ (by simp <;> omega)]
    exact HB1.out.cell (p := ⟨b, o, none⟩) hb
  · have := HB1.out.frozen (p := ⟨b, o, none⟩) hb
    simpa using this
  · exact ((HB1.out.mono (by omega)).setCell (p := ⟨b, 3, none⟩) hB _).setCell (p := ⟨b, 4, none⟩) hB _

/-- A replacer just made. -/
structure NewR (W : World) (b : Nat) : Prop where
  lt : b < W.heap.size
  c0 : W.cell? ⟨b, 0, none⟩ = some (.int .u32 0)
  c1 : W.cell? ⟨b, 1, none⟩ = some (.int .i32 0)
  c3 : ∃ v, W.cell? ⟨b, 3, none⟩ = some v
  fz : ∀ o, W.frozen? ⟨b, o, none⟩ = false
  row : ∃ g cap, g < W.heap.size ∧ 4 ≤ cap ∧ W.cell? ⟨b, 4, none⟩ = some (.slice (some ⟨g, 0, none⟩) 4 cap) ∧ W.cell? ⟨g, 0, none⟩ = some (.string (S [34])) ∧ W.cell? ⟨g, 1, none⟩ = some (.string (S [92, 34])) ∧ W.cell? ⟨g, 2, none⟩ = some (.string (S [92])) ∧ W.cell? ⟨g, 3, none⟩ = some (.string (S [92, 92]))

set_option maxRecDepth 100000 in
set_option maxHeartbeats 1600000 in
theorem quo_new (g : Nat) (w : World) (hg : g < w.heap.size) (g0 : w.cell? ⟨g, 0, none⟩ = some (.string (S [34]))) (g1 : w.cell? ⟨g, 1, none⟩ = some (.string (S [92, 34]))) (g2 : w.cell? ⟨g, 2, none⟩ = some (.string (S [92]))) (g3 : w.cell? ⟨g, 3, none⟩ = some (.string (S [92, 92]))) :
    Calls Tryz.prog 72 #[.slice (some ⟨g, 0, none⟩) 4 4] w fun e w' => ∃ b, e = .returned (.pointer (some ⟨b, 0, none⟩)) ∧ NewR w' b ∧ w.heap.size ≤ b ∧ Below w.heap.size w w' := by
  have HC := Lib.hid (show ∀ j (h : j < [[34], [92, 34], [92], [92, 92]].length), w.cell? ⟨g, j, none⟩ = some (.string (S ([[34], [92, 34], [92], [92, 92]] : List (List UInt8))[j])) from fun j h => by
    match j, h with
    | 0, _ => exact g0
    | 1, _ => exact g1
    | 2, _ => exact g2
    | 3, _ => exact g3)
  clear g0 g1 g2 g3
  go_enter Tryz.func72, Tryz.ntmps72
  go_wp2_with (at_builtin; refine wp_append_texts rfl _ _ rfl _ w.heap.size (.slice none 0 0) [] [[34], [92, 34], [92], [92, 92]] (Owns.nil _ _) rfl g 4 rfl HC.out (by simp) (Nat.le_refl _) ?_; intro v6 w6 hown6 hb6 hg6; have HB6 := Lib.hid hb6; obtain ⟨g6, cap6, rfl, hc1, hc2, hg6', hcells⟩ := hown6.at 0 (by simp); have HC6 := Lib.hid hcells; clear hown6 hb6 hg6 hcells)
  go_ret
  simp only [List.nil_append, List.length_cons, List.length_nil] at hc1
  have hz := HB6.out.size
  refine ⟨w6.heap.size, rfl, ⟨by simp, by rw [World.cell?_alloc_new]; rfl, by rw [World.cell?_alloc_new]; rfl, ⟨_, by rw [World.cell?_alloc_new]; rfl⟩, fun o => World.frozen?_alloc_new _ _ _ _, g6, cap6, by simp; omega, hc1, by rw [World.cell?_alloc_new]; rfl, ?_, ?_, ?_, ?_⟩, hz, HB6.out.alloc hz _⟩
  all_goals rw [World.cell?_alloc_past _ _ _ hg6']
  · exact HC6.out 0 (by simp)
  · exact HC6.out 1 (by simp)
  · exact HC6.out 2 (by simp)
  · exact HC6.out 3 (by simp)
end Go.Proofs.YtcfihoniocamaaaGreatDoor
/-! QuoBytes -/
namespace Go.Proofs.YtcfihoniocamaaaGreatDoor
open Go.RowKit
set_option linter.unusedVariables false
set_option linter.unusedSimpArgs false

def escQ (c : UInt8) : Bool := c == 34 || c == 92
def cntE (s : List UInt8) : Nat := (s.filter escQ).length
theorem esc_len (s : List UInt8) : (s.flatMap escB).length = s.length + cntE s := by
  induction s with
  | nil => rfl
  | cons c s ih =>
    rw [List.flatMap_cons, List.length_append, ih, List.length_cons]
    unfold cntE escQ escB
    by_cases h : c = 34 ∨ c = 92
    · rw [if_pos h, List.filter_cons_of_pos (by simpa using h)]; simp; omega
    · rw [if_neg h, List.filter_cons_of_neg (by simpa using h)]; simp; omega
theorem esc_none {s : List UInt8} (h : cntE s = 0) : s.flatMap escB = s := by
  induction s with
  | nil => rfl
  | cons c s ih =>
    unfold cntE escQ at h
    rw [List.filter_cons] at h
    split at h
    · simp at h
    · rename_i hc
      rw [List.flatMap_cons, ih h]
      unfold escB
      rw [if_neg (by simpa using hc)]
      rfl
theorem cntE_le (s : List UInt8) : cntE s ≤ s.length := List.length_filter_le _ _
theorem cntE_snoc (s : List UInt8) (c : UInt8) : cntE (s ++ [c]) = cntE s + (if escQ c = true then 1 else 0) := by
  unfold cntE
  rw [List.filter_append, List.length_append]
  congr 1
  simp only [List.filter_cons, List.filter_nil]
  cases escQ c <;> rfl
theorem cntE_two (s : List UInt8) : cntE s = (s.filter (· == 92)).length + (s.filter (· == 34)).length := by
  induction s with
  | nil => rfl
  | cons c s ih =>
    unfold cntE at *
    simp only [List.filter_cons]
    by_cases h1 : c = 34
    · subst h1; simp [escQ]; omega
    · by_cases h2 : c = 92
      · subst h2; simp [escQ]; omega
      · simp [escQ, h1, h2]; omega
theorem count_c (s : List UInt8) (c : UInt8) (W : World) :
    Calls Tryz.prog 103 #[.string (S s), .string (S [c])] W fun e w' => e = .returned (.int .i64 ((s.filter (· == c)).length : Int)) ∧ w' = W := by
  refine (Tryz.strings_Count_one (S s) c W).mono fun e w' ⟨h1, h2⟩ => ⟨?_, h2⟩
  have e2 : Lib.countByte (S s).data.toList c = (s.filter (· == c)).length := by
    unfold Lib.countByte
    rw [S_data, List.count, List.countP_eq_length_filter]
  rw [h1, e2]
theorem nil_ne (w : World) : (binOp .neq 78 (.slice none 0 0) (.slice none 0 0)).run Tryz.prog w = .ok (.bool false) w := by kernel_rfl
theorem some_ne (a : Addr) (n c : Nat) (w : World) : (binOp .neq 78 (.slice (some a) n c) (.slice none 0 0)).run Tryz.prog w = .ok (.bool true) w := by kernel_rfl
theorem copy2 (w : World) (ty : TypeId) (b o dLen dCap q sCap : Nat) (x y : Int) (hd : 2 ≤ dLen) (h0 : w.cell? ⟨q, 0, none⟩ = some (.int .u8 x)) (h1 : w.cell? ⟨q, 1, none⟩ = some (.int .u8 y))
    (hc : ∀ j, j < 2 → (w.cell? ⟨b, o + j, none⟩).isSome = true) (hf : ∀ j, j < 2 → w.frozen? ⟨b, o + j, none⟩ = false) :
    (Builtin.copy_ #[78, 78] ty #[.slice (some ⟨b, o, none⟩) dLen dCap, .slice (some ⟨q, 0, none⟩) 2 sCap]).run Tryz.prog w = .ok (goInt ((2 : Nat) : Int)) ((w.setCell ⟨b, o, none⟩ (.int .u8 x)).setCell ⟨b, o + 1, none⟩ (.int .u8 y)) :=
  run_copy_cells w _ _ ty 5 b o dLen dCap ⟨q, 0, none⟩ 2 sCap [.int .u8 x, .int .u8 y] Tryz.underlying78 (by kernel_rfl) (by simp only [List.length_cons, List.length_nil, Nat.min_def]; split <;> omega)
    (fun j v hj => by
      match j, hj with
      | 0, hj => simp at hj; subst hj; simpa [Addr.add] using h0
      | 1, hj => simp at hj; subst hj; simpa [Addr.add] using h1)
    hc hf (by intro v hv; simp at hv; rcases hv with rfl | rfl <;> rfl)

theorem below_drawn {B : Nat} {W w : World} (h : Below B W w) (n : Nat) : Below B W { w with drawn := n } := ⟨h.os, h.tape, h.output, h.size, h.block⟩
theorem mk_bytes (n : Nat) (hn : n ≤ 2000000) : ∃ cs : Array Value, cs.size = n ∧ ∀ W : World, (Instr.makeSlice 78 (.int .i64 (n : Int)) (.int .i64 (n : Int))).run Tryz.prog W = .ok (.slice (some ⟨W.heap.size, 0, none⟩) n n) (W.alloc (.cells cs 5)) := by
  obtain ⟨i0, hi, hz0, hz1, hz2⟩ := info_parts infoU8
  refine ⟨madeCells (Value.int .u8 0).cells (n * i0.size), by rw [size_madeCells, hz1]; omega, fun W => ?_⟩
  have h := run_makeSlice (P := Tryz.prog) (w := W) 78 5 i0 (.int .u8 0) Tryz.underlying78 hi hz0 .i64 .i64 (n : Int) (n : Int) (by omega) (Int.le_refl _) (by rw [hz1]; simp; omega) (by rw [hz2]; omega) (by omega)
  simpa using h
/-- The buffer as far as it is written. -/
structure Buf (W : World) (g n : Nat) (l : List UInt8) : Prop where
  lt : g < W.heap.size
  done : ∀ q (h : q < l.length), W.cell? ⟨g, q, none⟩ = some (.int .u8 (l[q].toNat : Int))
  there : ∀ q, q < n → (W.cell? ⟨g, q, none⟩).isSome = true ∧ W.frozen? ⟨g, q, none⟩ = false
theorem Buf.below {W W' : World} {g n : Nat} {l : List UInt8} (h : Buf W g n l) (hb : Below W.heap.size W W') : Buf W' g n l :=
  ⟨Nat.lt_of_lt_of_le h.lt hb.size, fun q hq => (hb.cell (p := ⟨g, q, none⟩) h.lt).trans (h.done q hq), fun q hq => ⟨by rw [hb.cell (p := ⟨g, q, none⟩) h.lt]; exact (h.there q hq).1, by rw [hb.frozen (p := ⟨g, q, none⟩) h.lt]; exact (h.there q hq).2⟩⟩
theorem Buf.set {W : World} {g n : Nat} {l : List UInt8} (h : Buf W g n l) (hl : l.length < n) (c : UInt8) (z : Int) (hz : z = (c.toNat : Int)) : Buf (W.setCell ⟨g, l.length, none⟩ (.int .u8 z)) g n (l ++ [c]) := by
  subst hz
  refine ⟨by simpa using h.lt, fun q hq => ?_, fun q hq => ⟨by rw [isSome_setCell]; exact (h.there q hq).1, by simpa using (h.there q hq).2⟩⟩
  by_cases e : q = l.length
  · subst e
    obtain ⟨u, hu⟩ := Option.isSome_iff_exists.1 (h.there _ hl).1
    rw [World.cell?_setCell_same _ _ _ hu]
    simp
  · rw [World.cell?_setCell_other _ _ _ _ (by simp <;> omega)]
    have hq' : q < l.length := by simp at hq; omega
    rw [h.done q hq', List.getElem_append_left hq']
theorem Buf.made (W : World) (n : Nat) (cs : Array Value) (t : TypeId) (hcs : cs.size = n) : Buf (W.alloc (.cells cs t)) W.heap.size n [] :=
  ⟨by simp, fun q h => by simp at h, fun q hq => ⟨by rw [World.cell?_alloc_new, Array.getElem?_eq_getElem (by omega)]; rfl, by simp⟩⟩
theorem Buf.text {W : World} {g n : Nat} {l : List UInt8} (h : Buf W g n l) (hl : l.length = n) : (convert 78 9 (.slice (some ⟨g, 0, none⟩) n n)).run Tryz.prog W = .ok (.string (S l)) W := by
  subst hl
  exact run_convert_bytes_back (P := Tryz.prog) W 78 9 5 ⟨g, 0, none⟩ l.length l Tryz.underlying78 Tryz.underlying5 Tryz.underlying9 (fun j hj => by
    rw [Lib.add_plain, Nat.zero_add]; exact h.done j hj)

set_option maxRecDepth 100000 in
set_option maxHeartbeats 6400000 in
theorem quo_bytes (lo R : Nat) (s : List UInt8) (hs : s.length ≤ 1000000) (W : World) (hR : Rep W lo R) :
    Calls Tryz.prog 187 #[.pointer (some ⟨R, 0, none⟩), .string (S s)] W fun e w' => e = .returned (.string (S (s.flatMap escB))) ∧ Below W.heap.size W w' := by
  have HR := Lib.hid hR
  obtain ⟨⟨hlo, hRl⟩, hnil, ⟨b1, c1, i1, i2, i3, i4, i5⟩, ⟨b2, c2, j1, j2, j3, j4, j5⟩, ⟨tb, c3, k1, k2, k3, k4, k5⟩⟩ := hR
  have C92 := Lib.hid (fun W' => count_c s 92 W')
  have C34 := Lib.hid (fun W' => count_c s 34 W')
  have HN := Lib.hid hnil
  have hsi : (s.length : Int) ≤ 1000000 := by omega
  have hcl := cntE_le s
  have hc2 := cntE_two s
  have hel := esc_len s
  have hnn := nil_ne
  have hsn := some_ne
  have hb92 : bAt [92] 0 = 92 := rfl
  have hb34 : bAt [34] 0 = 34 := rfl
  obtain ⟨n92, hn92⟩ : ∃ n, (s.filter (· == 92)).length = n := ⟨_, rfl⟩
  obtain ⟨n34, hn34⟩ : ∃ n, (s.filter (· == 34)).length = n := ⟨_, rfl⟩
  rw [hn92] at C92 hc2
  rw [hn34] at C34 hc2
  have HE0 := Lib.hid (fun h => esc_none (s := s) h)
  clear hn92 hn34 hnil
  have hzero : cntE s = 0 → s.flatMap escB = s := esc_none
  obtain ⟨N, hN⟩ : ∃ N, s.length + cntE s = N := ⟨_, rfl⟩
  obtain ⟨cs, hcs, hmk⟩ := mk_bytes N (by omega)
  have hNi : (N : Int) ≤ 2000000 := by omega
  have hel' : (s.flatMap escB).length = s.length + cntE s := hel
  go_enter Tryz.func187, Tryz.ntmps187
  by_cases h16 : 16 ≤ s.length
  · have h16i : (16 : Int) ≤ s.length := by omega
    by_cases h92 : n92 = 0
    · subst h92
      by_cases h34 : n34 = 0
      · subst h34
        go_wp2
        refine wp_loop_rounds 3 ?_
        rw [Code.rounds]
        go_wp2_with (first
          | (go_at_call 103; (with_reducible refine Calls.mono (C92.out _) ?_); rintro e w' ⟨rfl, hw'⟩; obtain rfl := hw'.symm)
          | (go_at_call 103; (with_reducible refine Calls.mono (C34.out _) ?_); rintro e w' ⟨rfl, hw'⟩; obtain rfl := hw'.symm)
          | fail)
        rw [Code.rounds]
        go_wp2_with (first
          | (go_at_call 103; (with_reducible refine Calls.mono (C92.out _) ?_); rintro e w' ⟨rfl, hw'⟩; obtain rfl := hw'.symm)
          | (go_at_call 103; (with_reducible refine Calls.mono (C34.out _) ?_); rintro e w' ⟨rfl, hw'⟩; obtain rfl := hw'.symm)
          | fail)
        rw [Code.rounds]
        go_wp2
        go_ret
        exact ⟨ret_str (by first | rfl | rw [HE0.out (by omega)]), Below.refl _ _⟩
      · have q34 : ((n34 : Int) == 0) = false := by simp; omega
        go_wp2
        refine wp_loop_rounds 3 ?_
        rw [Code.rounds]
        go_wp2_with (first
          | (go_at_call 103; (with_reducible refine Calls.mono (C92.out _) ?_); rintro e w' ⟨rfl, hw'⟩; obtain rfl := hw'.symm)
          | (go_at_call 103; (with_reducible refine Calls.mono (C34.out _) ?_); rintro e w' ⟨rfl, hw'⟩; obtain rfl := hw'.symm)
          | fail)
        rw [Code.rounds]
        go_wp2_with (first
          | (go_at_call 103; (with_reducible refine Calls.mono (C92.out _) ?_); rintro e w' ⟨rfl, hw'⟩; obtain rfl := hw'.symm)
          | (go_at_call 103; (with_reducible refine Calls.mono (C34.out _) ?_); rintro e w' ⟨rfl, hw'⟩; obtain rfl := hw'.symm)
          | fail)
        go_quiet (fail)
        go_wp2
        have q34n : ((n34 : Int) != 0) = true := by simp; omega
        simp only [q34n]
        refine gen_world (Q := fun x => Below W.heap.size W x) _ ?_ ?_
        · first | exact Below.refl _ _ | exact below_drawn (Below.refl _ _) _ | exact below_drawn (below_drawn (Below.refl _ _) _) _
        intro x hbx
        have HRx := Lib.hid (HR.out.below hbx)
        clear i3 i4 i5 j3 j4 j5 k3 k4 k5 i1 i2 j1 j2 k1 k2
        have hmz : ∀ W, (Instr.makeSlice 78 (.int .i64 ((s.length : Int) + (n34 : Int))) (.int .i64 ((s.length : Int) + (n34 : Int)))).run Tryz.prog W = .ok (.slice (some ⟨W.heap.size, 0, none⟩) N N) (W.alloc (.cells cs 5)) := fun W => by
          have := hmk W
          rwa [show ((N : Nat) : Int) = (s.length : Int) + (n34 : Int) by omega] at this
        clear hmk
        rw [Code.rounds]
        go_wp2
        go_loopw [13, 14] (fun jv iv wr => ∃ k : Nat, iv = .int .i64 k ∧ k ≤ s.length ∧ jv = .int .i64 (((s.take k).flatMap escB).length : Nat) ∧ Buf wr x.heap.size N ((s.take k).flatMap escB) ∧ Below x.heap.size x wr) (fun _ iv _ => s.length - (intOf iv).toNat)
        case atStart => exact ⟨0, rfl, Nat.zero_le _, rfl, Buf.made x N cs _ hcs, (Below.refl _ _).alloc (Nat.le_refl _) _⟩
        case round =>
          obtain ⟨k, rfl, hk, rfl, hbuf, hB⟩ := hrel
          have HB := Lib.hid hB
          have HBF := Lib.hid hbuf
          have HRr := Lib.hid (HRx.out.below hB)
          have hzb := hB.size
          have hgl := hbuf.lt
          by_cases hlt : k < s.length
          · have hbk : bAt s k = (s[k].toNat : Int) := bAt_eq hlt
            have htk : (s.take (k + 1)).flatMap escB = (s.take k).flatMap escB ++ escB s[k] := by
              rw [List.take_succ_eq_append_getElem hlt, List.flatMap_append]; simp
            have hle : ((s.take k).flatMap escB).length + (escB s[k]).length ≤ N := by
              rw [← hN, ← hel', ← List.length_append, ← htk]
              conv => rhs; rw [← List.take_append_drop (k + 1) s, List.flatMap_append, List.length_append]
              omega
            obtain ⟨P, hP⟩ : ∃ P, (s.take k).flatMap escB = P := ⟨_, rfl⟩
            obtain ⟨c, hc⟩ : ∃ c, s[k] = c := ⟨_, rfl⟩
            rw [hP] at htk hle HBF ⊢
            rw [hc] at hbk htk hle
            have hPn : (P.length : Int) ≤ N := by omega
            clear hP hc hbuf hB
            by_cases h34 : c = 34
            · subst h34
              obtain ⟨bb, cc, l1, l2, l3, l4, l5⟩ := (HRr.out).quo
              have hesc : escB 34 = [92, 34] := by decide
              rw [hesc] at htk hle
              have HT := Lib.hid htk
              have hPl : P.length + 2 ≤ N := by simpa using hle
              have hPi : (P.length : Int) + 2 ≤ N := by omega
              have hbk2 : bAt s k = 34 := hbk
              clear htk hesc hbk
              have hRw : R < wr.heap.size := by have := hbx.size; omega
              have hBd : Below wr.heap.size wr wr.drew := (Below.refl _ _).drew
              have hbuf2 := HBF.out.below hBd
              have e4 := (hBd.cell (p := ⟨bb, 0, none⟩) l2).trans l4
              have e5 := (hBd.cell (p := ⟨bb, 1, none⟩) l2).trans l5
              have hcp := fun ty => copy2 wr.drew ty x.heap.size P.length (N - P.length) (N - P.length) bb cc 92 34 (by omega) e4 e5 (fun j hj => (hbuf2.there _ (by omega)).1) (fun j hj => (hbuf2.there _ (by omega)).2)
              have hb3 := hbuf2.set (by omega) 92 92 rfl
              have hb4 := hb3.set (by simp; omega) 34 34 rfl
              have HB4 := Lib.hid (show Buf ((wr.drew.setCell ⟨x.heap.size, P.length, none⟩ (.int .u8 92)).setCell ⟨x.heap.size, P.length + 1, none⟩ (.int .u8 34)) x.heap.size N (P ++ [92, 34]) by simpa using hb4)
              have HX := Lib.hid (show Below x.heap.size x ((wr.drew.setCell ⟨x.heap.size, P.length, none⟩ (.int .u8 92)).setCell ⟨x.heap.size, P.length + 1, none⟩ (.int .u8 34)) from ((HB.out.drew).setCell (p := ⟨x.heap.size, P.length, none⟩) (Nat.le_refl _) _).setCell (p := ⟨x.heap.size, P.length + 1, none⟩) (Nat.le_refl _) _)
              clear hb3 hb4 hbuf2 e4 e5
              have hneN : ¬ N = P.length := by omega
              have mixed : Tryz.prog.follows .mixedOrders = true := by kernel_rfl
              go_wp2
              go_region_law_o (refine step_copy_runI rfl _ _ 78 78 rfl _ _ (by simp [Act.eval, Act.put, hneN]) (by simp [Act.eval, Act.put]) (hcp _) ?_)
              go_wp2
              go_roundw
              case rel =>
                have hv1 : ((P ++ [92, 34]).length : Int) = (P.length : Int) + 2 := by simp
                have hrel : ∃ k' : Nat, Value.int .i64 ((k : Int) + 1) = .int .i64 k' ∧ k' ≤ s.length ∧ Value.int .i64 ((P.length : Int) + 2) = .int .i64 (((s.take k').flatMap escB).length : Nat) ∧ Buf ((wr.drew.setCell ⟨x.heap.size, P.length, none⟩ (.int .u8 92)).setCell ⟨x.heap.size, P.length + 1, none⟩ (.int .u8 34)) x.heap.size N ((s.take k').flatMap escB) ∧ Below x.heap.size x ((wr.drew.setCell ⟨x.heap.size, P.length, none⟩ (.int .u8 92)).setCell ⟨x.heap.size, P.length + 1, none⟩ (.int .u8 34)) := ⟨k + 1, by go_num, by omega, by rw [HT.out]; exact congrArg (Value.int .i64) hv1.symm, by rw [HT.out]; exact HB4.out, HX.out⟩
                first
                  | exact hrel
                  | (repeat apply Exists.intro
                     refine ⟨hrel, rfl⟩)
              case measure => simp [intOf]; omega
            · by_cases h92 : c = 92
              · subst h92
                obtain ⟨bb, cc, l1, l2, l3, l4, l5⟩ := (HRr.out).bsl
                have hesc : escB 92 = [92, 92] := by decide
                rw [hesc] at htk hle
                have HT := Lib.hid htk
                have hPl : P.length + 2 ≤ N := by simpa using hle
                have hPi : (P.length : Int) + 2 ≤ N := by omega
                have hbk2 : bAt s k = 92 := hbk
                clear htk hesc hbk
                have hRw : R < wr.heap.size := by have := hbx.size; omega
                have hBd : Below wr.heap.size wr wr.drew := (Below.refl _ _).drew
                have hbuf2 := HBF.out.below hBd
                have e4 := (hBd.cell (p := ⟨bb, 0, none⟩) l2).trans l4
                have e5 := (hBd.cell (p := ⟨bb, 1, none⟩) l2).trans l5
                have hcp := fun ty => copy2 wr.drew ty x.heap.size P.length (N - P.length) (N - P.length) bb cc 92 92 (by omega) e4 e5 (fun j hj => (hbuf2.there _ (by omega)).1) (fun j hj => (hbuf2.there _ (by omega)).2)
                have hb3 := hbuf2.set (by omega) 92 92 rfl
                have hb4 := hb3.set (by simp; omega) 92 92 rfl
                have HB4 := Lib.hid (show Buf ((wr.drew.setCell ⟨x.heap.size, P.length, none⟩ (.int .u8 92)).setCell ⟨x.heap.size, P.length + 1, none⟩ (.int .u8 92)) x.heap.size N (P ++ [92, 92]) by simpa using hb4)
                have HX := Lib.hid (show Below x.heap.size x ((wr.drew.setCell ⟨x.heap.size, P.length, none⟩ (.int .u8 92)).setCell ⟨x.heap.size, P.length + 1, none⟩ (.int .u8 92)) from ((HB.out.drew).setCell (p := ⟨x.heap.size, P.length, none⟩) (Nat.le_refl _) _).setCell (p := ⟨x.heap.size, P.length + 1, none⟩) (Nat.le_refl _) _)
                clear hb3 hb4 hbuf2 e4 e5
                have hneN : ¬ N = P.length := by omega
                have mixed : Tryz.prog.follows .mixedOrders = true := by kernel_rfl
                go_wp2
                go_region_law_o (refine step_copy_runI rfl _ _ 78 78 rfl _ _ (by simp [Act.eval, Act.put, hneN]) (by simp [Act.eval, Act.put]) (hcp _) ?_)
                go_wp2
                go_roundw
                case rel =>
                  have hv1 : ((P ++ [92, 92]).length : Int) = (P.length : Int) + 2 := by simp
                  have hrel : ∃ k' : Nat, Value.int .i64 ((k : Int) + 1) = .int .i64 k' ∧ k' ≤ s.length ∧ Value.int .i64 ((P.length : Int) + 2) = .int .i64 (((s.take k').flatMap escB).length : Nat) ∧ Buf ((wr.drew.setCell ⟨x.heap.size, P.length, none⟩ (.int .u8 92)).setCell ⟨x.heap.size, P.length + 1, none⟩ (.int .u8 92)) x.heap.size N ((s.take k').flatMap escB) ∧ Below x.heap.size x ((wr.drew.setCell ⟨x.heap.size, P.length, none⟩ (.int .u8 92)).setCell ⟨x.heap.size, P.length + 1, none⟩ (.int .u8 92)) := ⟨k + 1, by go_num, by omega, by rw [HT.out]; exact congrArg (Value.int .i64) hv1.symm, by rw [HT.out]; exact HB4.out, HX.out⟩
                  first
                    | exact hrel
                    | (repeat apply Exists.intro
                       refine ⟨hrel, rfl⟩)
                case measure => simp [intOf]; omega
              · have hnil := (HRr.out).nil c.toNat c.toNat_lt (fun e => h34 (UInt8.toNat.inj e)) (fun e => h92 (UInt8.toNat.inj e))
                have hesc : escB c = [c] := by unfold escB; rw [if_neg (by simp [h34, h92])]
                rw [hesc] at htk hle
                have HT := Lib.hid htk
                have hc256 := c.toNat_lt
                have hPl : P.length < N := by simp at hle; omega
                have hPi : (P.length : Int) < N := by omega
                obtain ⟨hth, hfz⟩ := HBF.out.there P.length hPl
                obtain ⟨uu, huu⟩ := Option.isSome_iff_exists.1 hth
                clear htk hesc
                go_wp2
                go_roundw
                case rel => exact ⟨k + 1, by go_num, by omega, by rw [HT.out]; simp, by rw [HT.out]; exact HBF.out.set hPl c _ rfl, HB.out.setCell (p := ⟨x.heap.size, P.length, none⟩) (Nat.le_refl _) _⟩
                case measure => simp [intOf]; omega
          · obtain rfl : k = s.length := by omega
            have hT := HBF.out
            rw [List.take_length] at hT ⊢
            have hcv := hT.text (by rw [hel', hN])
            clear hbuf hT
            go_wp2
            go_ret
            exact ⟨rfl, hbx.trans (HB.out.mono hbx.size)⟩
    · have q92 : ((n92 : Int) == 0) = false := by simp; omega
      by_cases h34 : n34 = 0
      · subst h34
        go_wp2
        refine wp_loop_rounds 3 ?_
        rw [Code.rounds]
        go_wp2_with (first
          | (go_at_call 103; (with_reducible refine Calls.mono (C92.out _) ?_); rintro e w' ⟨rfl, hw'⟩; obtain rfl := hw'.symm)
          | (go_at_call 103; (with_reducible refine Calls.mono (C34.out _) ?_); rintro e w' ⟨rfl, hw'⟩; obtain rfl := hw'.symm)
          | fail)
        go_quiet (fail)
        go_wp2
        rw [Code.rounds]
        go_wp2_with (first
          | (go_at_call 103; (with_reducible refine Calls.mono (C92.out _) ?_); rintro e w' ⟨rfl, hw'⟩; obtain rfl := hw'.symm)
          | (go_at_call 103; (with_reducible refine Calls.mono (C34.out _) ?_); rintro e w' ⟨rfl, hw'⟩; obtain rfl := hw'.symm)
          | fail)
        refine gen_world (Q := fun x => Below W.heap.size W x) _ ?_ ?_
        · first | exact Below.refl _ _ | exact below_drawn (Below.refl _ _) _ | exact below_drawn (below_drawn (Below.refl _ _) _) _
        intro x hbx
        have HRx := Lib.hid (HR.out.below hbx)
        clear i3 i4 i5 j3 j4 j5 k3 k4 k5 i1 i2 j1 j2 k1 k2
        have hmz : ∀ W, (Instr.makeSlice 78 (.int .i64 ((s.length : Int) + (n92 : Int))) (.int .i64 ((s.length : Int) + (n92 : Int)))).run Tryz.prog W = .ok (.slice (some ⟨W.heap.size, 0, none⟩) N N) (W.alloc (.cells cs 5)) := fun W => by
          have := hmk W
          rwa [show ((N : Nat) : Int) = (s.length : Int) + (n92 : Int) by omega] at this
        clear hmk
        rw [Code.rounds]
        go_wp2
        go_loopw [13, 14] (fun jv iv wr => ∃ k : Nat, iv = .int .i64 k ∧ k ≤ s.length ∧ jv = .int .i64 (((s.take k).flatMap escB).length : Nat) ∧ Buf wr x.heap.size N ((s.take k).flatMap escB) ∧ Below x.heap.size x wr) (fun _ iv _ => s.length - (intOf iv).toNat)
        case atStart => exact ⟨0, rfl, Nat.zero_le _, rfl, Buf.made x N cs _ hcs, (Below.refl _ _).alloc (Nat.le_refl _) _⟩
        case round =>
          obtain ⟨k, rfl, hk, rfl, hbuf, hB⟩ := hrel
          have HB := Lib.hid hB
          have HBF := Lib.hid hbuf
          have HRr := Lib.hid (HRx.out.below hB)
          have hzb := hB.size
          have hgl := hbuf.lt
          by_cases hlt : k < s.length
          · have hbk : bAt s k = (s[k].toNat : Int) := bAt_eq hlt
            have htk : (s.take (k + 1)).flatMap escB = (s.take k).flatMap escB ++ escB s[k] := by
              rw [List.take_succ_eq_append_getElem hlt, List.flatMap_append]; simp
            have hle : ((s.take k).flatMap escB).length + (escB s[k]).length ≤ N := by
              rw [← hN, ← hel', ← List.length_append, ← htk]
              conv => rhs; rw [← List.take_append_drop (k + 1) s, List.flatMap_append, List.length_append]
              omega
            obtain ⟨P, hP⟩ : ∃ P, (s.take k).flatMap escB = P := ⟨_, rfl⟩
            obtain ⟨c, hc⟩ : ∃ c, s[k] = c := ⟨_, rfl⟩
            rw [hP] at htk hle HBF ⊢
            rw [hc] at hbk htk hle
            have hPn : (P.length : Int) ≤ N := by omega
            clear hP hc hbuf hB
            by_cases h34 : c = 34
            · subst h34
              obtain ⟨bb, cc, l1, l2, l3, l4, l5⟩ := (HRr.out).quo
              have hesc : escB 34 = [92, 34] := by decide
              rw [hesc] at htk hle
              have HT := Lib.hid htk
              have hPl : P.length + 2 ≤ N := by simpa using hle
              have hPi : (P.length : Int) + 2 ≤ N := by omega
              have hbk2 : bAt s k = 34 := hbk
              clear htk hesc hbk
              have hRw : R < wr.heap.size := by have := hbx.size; omega
              have hBd : Below wr.heap.size wr wr.drew := (Below.refl _ _).drew
              have hbuf2 := HBF.out.below hBd
              have e4 := (hBd.cell (p := ⟨bb, 0, none⟩) l2).trans l4
              have e5 := (hBd.cell (p := ⟨bb, 1, none⟩) l2).trans l5
              have hcp := fun ty => copy2 wr.drew ty x.heap.size P.length (N - P.length) (N - P.length) bb cc 92 34 (by omega) e4 e5 (fun j hj => (hbuf2.there _ (by omega)).1) (fun j hj => (hbuf2.there _ (by omega)).2)
              have hb3 := hbuf2.set (by omega) 92 92 rfl
              have hb4 := hb3.set (by simp; omega) 34 34 rfl
              have HB4 := Lib.hid (show Buf ((wr.drew.setCell ⟨x.heap.size, P.length, none⟩ (.int .u8 92)).setCell ⟨x.heap.size, P.length + 1, none⟩ (.int .u8 34)) x.heap.size N (P ++ [92, 34]) by simpa using hb4)
              have HX := Lib.hid (show Below x.heap.size x ((wr.drew.setCell ⟨x.heap.size, P.length, none⟩ (.int .u8 92)).setCell ⟨x.heap.size, P.length + 1, none⟩ (.int .u8 34)) from ((HB.out.drew).setCell (p := ⟨x.heap.size, P.length, none⟩) (Nat.le_refl _) _).setCell (p := ⟨x.heap.size, P.length + 1, none⟩) (Nat.le_refl _) _)
              clear hb3 hb4 hbuf2 e4 e5
              have hneN : ¬ N = P.length := by omega
              have mixed : Tryz.prog.follows .mixedOrders = true := by kernel_rfl
              go_wp2
              go_region_law_o (refine step_copy_runI rfl _ _ 78 78 rfl _ _ (by simp [Act.eval, Act.put, hneN]) (by simp [Act.eval, Act.put]) (hcp _) ?_)
              go_wp2
              go_roundw
              case rel =>
                have hv1 : ((P ++ [92, 34]).length : Int) = (P.length : Int) + 2 := by simp
                have hrel : ∃ k' : Nat, Value.int .i64 ((k : Int) + 1) = .int .i64 k' ∧ k' ≤ s.length ∧ Value.int .i64 ((P.length : Int) + 2) = .int .i64 (((s.take k').flatMap escB).length : Nat) ∧ Buf ((wr.drew.setCell ⟨x.heap.size, P.length, none⟩ (.int .u8 92)).setCell ⟨x.heap.size, P.length + 1, none⟩ (.int .u8 34)) x.heap.size N ((s.take k').flatMap escB) ∧ Below x.heap.size x ((wr.drew.setCell ⟨x.heap.size, P.length, none⟩ (.int .u8 92)).setCell ⟨x.heap.size, P.length + 1, none⟩ (.int .u8 34)) := ⟨k + 1, by go_num, by omega, by rw [HT.out]; exact congrArg (Value.int .i64) hv1.symm, by rw [HT.out]; exact HB4.out, HX.out⟩
                first
                  | exact hrel
                  | (repeat apply Exists.intro
                     refine ⟨hrel, rfl⟩)
              case measure => simp [intOf]; omega
            · by_cases h92 : c = 92
              · subst h92
                obtain ⟨bb, cc, l1, l2, l3, l4, l5⟩ := (HRr.out).bsl
                have hesc : escB 92 = [92, 92] := by decide
                rw [hesc] at htk hle
                have HT := Lib.hid htk
                have hPl : P.length + 2 ≤ N := by simpa using hle
                have hPi : (P.length : Int) + 2 ≤ N := by omega
                have hbk2 : bAt s k = 92 := hbk
                clear htk hesc hbk
                have hRw : R < wr.heap.size := by have := hbx.size; omega
                have hBd : Below wr.heap.size wr wr.drew := (Below.refl _ _).drew
                have hbuf2 := HBF.out.below hBd
                have e4 := (hBd.cell (p := ⟨bb, 0, none⟩) l2).trans l4
                have e5 := (hBd.cell (p := ⟨bb, 1, none⟩) l2).trans l5
                have hcp := fun ty => copy2 wr.drew ty x.heap.size P.length (N - P.length) (N - P.length) bb cc 92 92 (by omega) e4 e5 (fun j hj => (hbuf2.there _ (by omega)).1) (fun j hj => (hbuf2.there _ (by omega)).2)
                have hb3 := hbuf2.set (by omega) 92 92 rfl
                have hb4 := hb3.set (by simp; omega) 92 92 rfl
                have HB4 := Lib.hid (show Buf ((wr.drew.setCell ⟨x.heap.size, P.length, none⟩ (.int .u8 92)).setCell ⟨x.heap.size, P.length + 1, none⟩ (.int .u8 92)) x.heap.size N (P ++ [92, 92]) by simpa using hb4)
                have HX := Lib.hid (show Below x.heap.size x ((wr.drew.setCell ⟨x.heap.size, P.length, none⟩ (.int .u8 92)).setCell ⟨x.heap.size, P.length + 1, none⟩ (.int .u8 92)) from ((HB.out.drew).setCell (p := ⟨x.heap.size, P.length, none⟩) (Nat.le_refl _) _).setCell (p := ⟨x.heap.size, P.length + 1, none⟩) (Nat.le_refl _) _)
                clear hb3 hb4 hbuf2 e4 e5
                have hneN : ¬ N = P.length := by omega
                have mixed : Tryz.prog.follows .mixedOrders = true := by kernel_rfl
                go_wp2
                go_region_law_o (refine step_copy_runI rfl _ _ 78 78 rfl _ _ (by simp [Act.eval, Act.put, hneN]) (by simp [Act.eval, Act.put]) (hcp _) ?_)
                go_wp2
                go_roundw
                case rel =>
                  have hv1 : ((P ++ [92, 92]).length : Int) = (P.length : Int) + 2 := by simp
                  have hrel : ∃ k' : Nat, Value.int .i64 ((k : Int) + 1) = .int .i64 k' ∧ k' ≤ s.length ∧ Value.int .i64 ((P.length : Int) + 2) = .int .i64 (((s.take k').flatMap escB).length : Nat) ∧ Buf ((wr.drew.setCell ⟨x.heap.size, P.length, none⟩ (.int .u8 92)).setCell ⟨x.heap.size, P.length + 1, none⟩ (.int .u8 92)) x.heap.size N ((s.take k').flatMap escB) ∧ Below x.heap.size x ((wr.drew.setCell ⟨x.heap.size, P.length, none⟩ (.int .u8 92)).setCell ⟨x.heap.size, P.length + 1, none⟩ (.int .u8 92)) := ⟨k + 1, by go_num, by omega, by rw [HT.out]; exact congrArg (Value.int .i64) hv1.symm, by rw [HT.out]; exact HB4.out, HX.out⟩
                  first
                    | exact hrel
                    | (repeat apply Exists.intro
                       refine ⟨hrel, rfl⟩)
                case measure => simp [intOf]; omega
              · have hnil := (HRr.out).nil c.toNat c.toNat_lt (fun e => h34 (UInt8.toNat.inj e)) (fun e => h92 (UInt8.toNat.inj e))
                have hesc : escB c = [c] := by unfold escB; rw [if_neg (by simp [h34, h92])]
                rw [hesc] at htk hle
                have HT := Lib.hid htk
                have hc256 := c.toNat_lt
                have hPl : P.length < N := by simp at hle; omega
                have hPi : (P.length : Int) < N := by omega
                obtain ⟨hth, hfz⟩ := HBF.out.there P.length hPl
                obtain ⟨uu, huu⟩ := Option.isSome_iff_exists.1 hth
                clear htk hesc
                go_wp2
                go_roundw
                case rel => exact ⟨k + 1, by go_num, by omega, by rw [HT.out]; simp, by rw [HT.out]; exact HBF.out.set hPl c _ rfl, HB.out.setCell (p := ⟨x.heap.size, P.length, none⟩) (Nat.le_refl _) _⟩
                case measure => simp [intOf]; omega
          · obtain rfl : k = s.length := by omega
            have hT := HBF.out
            rw [List.take_length] at hT ⊢
            have hcv := hT.text (by rw [hel', hN])
            clear hbuf hT
            go_wp2
            go_ret
            exact ⟨rfl, hbx.trans (HB.out.mono hbx.size)⟩
      · have q34 : ((n34 : Int) == 0) = false := by simp; omega
        go_wp2
        refine wp_loop_rounds 3 ?_
        rw [Code.rounds]
        go_wp2_with (first
          | (go_at_call 103; (with_reducible refine Calls.mono (C92.out _) ?_); rintro e w' ⟨rfl, hw'⟩; obtain rfl := hw'.symm)
          | (go_at_call 103; (with_reducible refine Calls.mono (C34.out _) ?_); rintro e w' ⟨rfl, hw'⟩; obtain rfl := hw'.symm)
          | fail)
        go_quiet (fail)
        go_wp2
        rw [Code.rounds]
        go_wp2_with (first
          | (go_at_call 103; (with_reducible refine Calls.mono (C92.out _) ?_); rintro e w' ⟨rfl, hw'⟩; obtain rfl := hw'.symm)
          | (go_at_call 103; (with_reducible refine Calls.mono (C34.out _) ?_); rintro e w' ⟨rfl, hw'⟩; obtain rfl := hw'.symm)
          | fail)
        go_quiet (fail)
        go_wp2
        have q34n : ((n34 : Int) != 0) = true := by simp; omega
        simp only [q34n]
        refine gen_world (Q := fun x => Below W.heap.size W x) _ ?_ ?_
        · first | exact Below.refl _ _ | exact below_drawn (Below.refl _ _) _ | exact below_drawn (below_drawn (Below.refl _ _) _) _
        intro x hbx
        have HRx := Lib.hid (HR.out.below hbx)
        clear i3 i4 i5 j3 j4 j5 k3 k4 k5 i1 i2 j1 j2 k1 k2
        have hmz : ∀ W, (Instr.makeSlice 78 (.int .i64 ((s.length : Int) + (n92 : Int) + (n34 : Int))) (.int .i64 ((s.length : Int) + (n92 : Int) + (n34 : Int)))).run Tryz.prog W = .ok (.slice (some ⟨W.heap.size, 0, none⟩) N N) (W.alloc (.cells cs 5)) := fun W => by
          have := hmk W
          rwa [show ((N : Nat) : Int) = (s.length : Int) + (n92 : Int) + (n34 : Int) by omega] at this
        clear hmk
        rw [Code.rounds]
        go_wp2
        go_loopw [13, 14] (fun jv iv wr => ∃ k : Nat, iv = .int .i64 k ∧ k ≤ s.length ∧ jv = .int .i64 (((s.take k).flatMap escB).length : Nat) ∧ Buf wr x.heap.size N ((s.take k).flatMap escB) ∧ Below x.heap.size x wr) (fun _ iv _ => s.length - (intOf iv).toNat)
        case atStart => exact ⟨0, rfl, Nat.zero_le _, rfl, Buf.made x N cs _ hcs, (Below.refl _ _).alloc (Nat.le_refl _) _⟩
        case round =>
          obtain ⟨k, rfl, hk, rfl, hbuf, hB⟩ := hrel
          have HB := Lib.hid hB
          have HBF := Lib.hid hbuf
          have HRr := Lib.hid (HRx.out.below hB)
          have hzb := hB.size
          have hgl := hbuf.lt
          by_cases hlt : k < s.length
          · have hbk : bAt s k = (s[k].toNat : Int) := bAt_eq hlt
            have htk : (s.take (k + 1)).flatMap escB = (s.take k).flatMap escB ++ escB s[k] := by
              rw [List.take_succ_eq_append_getElem hlt, List.flatMap_append]; simp
            have hle : ((s.take k).flatMap escB).length + (escB s[k]).length ≤ N := by
              rw [← hN, ← hel', ← List.length_append, ← htk]
              conv => rhs; rw [← List.take_append_drop (k + 1) s, List.flatMap_append, List.length_append]
              omega
            obtain ⟨P, hP⟩ : ∃ P, (s.take k).flatMap escB = P := ⟨_, rfl⟩
            obtain ⟨c, hc⟩ : ∃ c, s[k] = c := ⟨_, rfl⟩
            rw [hP] at htk hle HBF ⊢
            rw [hc] at hbk htk hle
            have hPn : (P.length : Int) ≤ N := by omega
            clear hP hc hbuf hB
            by_cases h34 : c = 34
            · subst h34
              obtain ⟨bb, cc, l1, l2, l3, l4, l5⟩ := (HRr.out).quo
              have hesc : escB 34 = [92, 34] := by decide
              rw [hesc] at htk hle
              have HT := Lib.hid htk
              have hPl : P.length + 2 ≤ N := by simpa using hle
              have hPi : (P.length : Int) + 2 ≤ N := by omega
              have hbk2 : bAt s k = 34 := hbk
              clear htk hesc hbk
              have hRw : R < wr.heap.size := by have := hbx.size; omega
              have hBd : Below wr.heap.size wr wr.drew := (Below.refl _ _).drew
              have hbuf2 := HBF.out.below hBd
              have e4 := (hBd.cell (p := ⟨bb, 0, none⟩) l2).trans l4
              have e5 := (hBd.cell (p := ⟨bb, 1, none⟩) l2).trans l5
              have hcp := fun ty => copy2 wr.drew ty x.heap.size P.length (N - P.length) (N - P.length) bb cc 92 34 (by omega) e4 e5 (fun j hj => (hbuf2.there _ (by omega)).1) (fun j hj => (hbuf2.there _ (by omega)).2)
              have hb3 := hbuf2.set (by omega) 92 92 rfl
              have hb4 := hb3.set (by simp; omega) 34 34 rfl
              have HB4 := Lib.hid (show Buf ((wr.drew.setCell ⟨x.heap.size, P.length, none⟩ (.int .u8 92)).setCell ⟨x.heap.size, P.length + 1, none⟩ (.int .u8 34)) x.heap.size N (P ++ [92, 34]) by simpa using hb4)
              have HX := Lib.hid (show Below x.heap.size x ((wr.drew.setCell ⟨x.heap.size, P.length, none⟩ (.int .u8 92)).setCell ⟨x.heap.size, P.length + 1, none⟩ (.int .u8 34)) from ((HB.out.drew).setCell (p := ⟨x.heap.size, P.length, none⟩) (Nat.le_refl _) _).setCell (p := ⟨x.heap.size, P.length + 1, none⟩) (Nat.le_refl _) _)
              clear hb3 hb4 hbuf2 e4 e5
              have hneN : ¬ N = P.length := by omega
              have mixed : Tryz.prog.follows .mixedOrders = true := by kernel_rfl
              go_wp2
              go_region_law_o (refine step_copy_runI rfl _ _ 78 78 rfl _ _ (by simp [Act.eval, Act.put, hneN]) (by simp [Act.eval, Act.put]) (hcp _) ?_)
              go_wp2
              go_roundw
              case rel =>
                have hv1 : ((P ++ [92, 34]).length : Int) = (P.length : Int) + 2 := by simp
                have hrel : ∃ k' : Nat, Value.int .i64 ((k : Int) + 1) = .int .i64 k' ∧ k' ≤ s.length ∧ Value.int .i64 ((P.length : Int) + 2) = .int .i64 (((s.take k').flatMap escB).length : Nat) ∧ Buf ((wr.drew.setCell ⟨x.heap.size, P.length, none⟩ (.int .u8 92)).setCell ⟨x.heap.size, P.length + 1, none⟩ (.int .u8 34)) x.heap.size N ((s.take k').flatMap escB) ∧ Below x.heap.size x ((wr.drew.setCell ⟨x.heap.size, P.length, none⟩ (.int .u8 92)).setCell ⟨x.heap.size, P.length + 1, none⟩ (.int .u8 34)) := ⟨k + 1, by go_num, by omega, by rw [HT.out]; exact congrArg (Value.int .i64) hv1.symm, by rw [HT.out]; exact HB4.out, HX.out⟩
                first
                  | exact hrel
                  | (repeat apply Exists.intro
                     refine ⟨hrel, rfl⟩)
              case measure => simp [intOf]; omega
            · by_cases h92 : c = 92
              · subst h92
                obtain ⟨bb, cc, l1, l2, l3, l4, l5⟩ := (HRr.out).bsl
                have hesc : escB 92 = [92, 92] := by decide
                rw [hesc] at htk hle
                have HT := Lib.hid htk
                have hPl : P.length + 2 ≤ N := by simpa using hle
                have hPi : (P.length : Int) + 2 ≤ N := by omega
                have hbk2 : bAt s k = 92 := hbk
                clear htk hesc hbk
                have hRw : R < wr.heap.size := by have := hbx.size; omega
                have hBd : Below wr.heap.size wr wr.drew := (Below.refl _ _).drew
                have hbuf2 := HBF.out.below hBd
                have e4 := (hBd.cell (p := ⟨bb, 0, none⟩) l2).trans l4
                have e5 := (hBd.cell (p := ⟨bb, 1, none⟩) l2).trans l5
                have hcp := fun ty => copy2 wr.drew ty x.heap.size P.length (N - P.length) (N - P.length) bb cc 92 92 (by omega) e4 e5 (fun j hj => (hbuf2.there _ (by omega)).1) (fun j hj => (hbuf2.there _ (by omega)).2)
                have hb3 := hbuf2.set (by omega) 92 92 rfl
                have hb4 := hb3.set (by simp; omega) 92 92 rfl
                have HB4 := Lib.hid (show Buf ((wr.drew.setCell ⟨x.heap.size, P.length, none⟩ (.int .u8 92)).setCell ⟨x.heap.size, P.length + 1, none⟩ (.int .u8 92)) x.heap.size N (P ++ [92, 92]) by simpa using hb4)
                have HX := Lib.hid (show Below x.heap.size x ((wr.drew.setCell ⟨x.heap.size, P.length, none⟩ (.int .u8 92)).setCell ⟨x.heap.size, P.length + 1, none⟩ (.int .u8 92)) from ((HB.out.drew).setCell (p := ⟨x.heap.size, P.length, none⟩) (Nat.le_refl _) _).setCell (p := ⟨x.heap.size, P.length + 1, none⟩) (Nat.le_refl _) _)
                clear hb3 hb4 hbuf2 e4 e5
                have hneN : ¬ N = P.length := by omega
                have mixed : Tryz.prog.follows .mixedOrders = true := by kernel_rfl
                go_wp2
                go_region_law_o (refine step_copy_runI rfl _ _ 78 78 rfl _ _ (by simp [Act.eval, Act.put, hneN]) (by simp [Act.eval, Act.put]) (hcp _) ?_)
                go_wp2
                go_roundw
                case rel =>
                  have hv1 : ((P ++ [92, 92]).length : Int) = (P.length : Int) + 2 := by simp
                  have hrel : ∃ k' : Nat, Value.int .i64 ((k : Int) + 1) = .int .i64 k' ∧ k' ≤ s.length ∧ Value.int .i64 ((P.length : Int) + 2) = .int .i64 (((s.take k').flatMap escB).length : Nat) ∧ Buf ((wr.drew.setCell ⟨x.heap.size, P.length, none⟩ (.int .u8 92)).setCell ⟨x.heap.size, P.length + 1, none⟩ (.int .u8 92)) x.heap.size N ((s.take k').flatMap escB) ∧ Below x.heap.size x ((wr.drew.setCell ⟨x.heap.size, P.length, none⟩ (.int .u8 92)).setCell ⟨x.heap.size, P.length + 1, none⟩ (.int .u8 92)) := ⟨k + 1, by go_num, by omega, by rw [HT.out]; exact congrArg (Value.int .i64) hv1.symm, by rw [HT.out]; exact HB4.out, HX.out⟩
                  first
                    | exact hrel
                    | (repeat apply Exists.intro
                       refine ⟨hrel, rfl⟩)
                case measure => simp [intOf]; omega
              · have hnil := (HRr.out).nil c.toNat c.toNat_lt (fun e => h34 (UInt8.toNat.inj e)) (fun e => h92 (UInt8.toNat.inj e))
                have hesc : escB c = [c] := by unfold escB; rw [if_neg (by simp [h34, h92])]
                rw [hesc] at htk hle
                have HT := Lib.hid htk
                have hc256 := c.toNat_lt
                have hPl : P.length < N := by simp at hle; omega
                have hPi : (P.length : Int) < N := by omega
                obtain ⟨hth, hfz⟩ := HBF.out.there P.length hPl
                obtain ⟨uu, huu⟩ := Option.isSome_iff_exists.1 hth
                clear htk hesc
                go_wp2
                go_roundw
                case rel => exact ⟨k + 1, by go_num, by omega, by rw [HT.out]; simp, by rw [HT.out]; exact HBF.out.set hPl c _ rfl, HB.out.setCell (p := ⟨x.heap.size, P.length, none⟩) (Nat.le_refl _) _⟩
                case measure => simp [intOf]; omega
          · obtain rfl : k = s.length := by omega
            have hT := HBF.out
            rw [List.take_length] at hT ⊢
            have hcv := hT.text (by rw [hel', hN])
            clear hbuf hT
            go_wp2
            go_ret
            exact ⟨rfl, hbx.trans (HB.out.mono hbx.size)⟩
  · clear hc2
    have h16i : (s.length : Int) < 16 := by omega
    go_wp2
    go_loop [5, 6, 10] (fun nv av iv => ∃ k : Nat, iv = .int .i64 k ∧ k ≤ s.length ∧ nv = .int .i64 ((s.length : Int) + (cntE (s.take k) : Int)) ∧ av = .bool (decide (0 < cntE (s.take k)))) (fun _ _ iv => s.length - (intOf iv).toNat)
    case atStart => exact ⟨0, rfl, Nat.zero_le _, by simp [cntE], rfl⟩
    case round =>
      obtain ⟨k, rfl, hk, rfl, rfl⟩ := hrel
      by_cases hlt : k < s.length
      · have hbk : bAt s k = (s[k].toNat : Int) := bAt_eq hlt
        have htk : cntE (s.take (k + 1)) = cntE (s.take k) + (if escQ s[k] = true then 1 else 0) := by
          rw [List.take_succ_eq_append_getElem hlt, cntE_snoc]
        have hcq := cntE_le (s.take k)
        rw [List.length_take] at hcq
        obtain ⟨q, hq⟩ : ∃ q, cntE (s.take k) = q := ⟨_, rfl⟩
        obtain ⟨c, hc⟩ : ∃ c, s[k] = c := ⟨_, rfl⟩
        rw [hq] at htk hcq ⊢
        rw [hc] at hbk htk
        have hqi : (q : Int) ≤ 16 := by omega
        clear hq hc
        by_cases h34 : c = 34
        · subst h34
          have hbk2 : bAt s k = 34 := hbk
          have HT := Lib.hid (show cntE (s.take (k + 1)) = q + 1 from htk)
          clear hbk htk
          go_wp2
          go_round
          case rel => exact ⟨k + 1, by go_num, by omega, by rw [HT.out]; congr 1 <;> omega, by rw [HT.out]; simp⟩
          case measure => simp [intOf]; omega
        · by_cases h92 : c = 92
          · subst h92
            have hbk2 : bAt s k = 92 := hbk
            have HT := Lib.hid (show cntE (s.take (k + 1)) = q + 1 from htk)
            clear hbk htk
            go_wp2
            go_round
            case rel => exact ⟨k + 1, by go_num, by omega, by rw [HT.out]; congr 1 <;> omega, by rw [HT.out]; simp⟩
            case measure => simp [intOf]; omega
          · have HT := Lib.hid (show cntE (s.take (k + 1)) = q by rw [htk, if_neg (by simp [escQ, h34, h92])]; rfl)
            have hnil := HN.out c.toNat c.toNat_lt (fun e => h34 (UInt8.toNat.inj e)) (fun e => h92 (UInt8.toNat.inj e))
            have hc256 := c.toNat_lt
            clear htk
            go_wp2
            go_round
            case rel => exact ⟨k + 1, by go_num, by omega, by rw [HT.out], by rw [HT.out]⟩
            case measure => simp [intOf]; omega
      · obtain rfl : k = s.length := by omega
        rw [List.take_length]
        have hclt := cntE_le s
        by_cases hz : cntE s = 0
        · rw [hz]
          go_wp2
          go_ret
          exact ⟨ret_str (by first | rfl | rw [HE0.out (by omega)]), Below.refl _ _⟩
        · have hzt : decide (0 < cntE s) = true := by simp; omega
          have hci : (cntE s : Int) ≤ 16 := by omega
          rw [hzt]
          refine gen_world (Q := fun x => Below W.heap.size W x) _ ?_ ?_
          · first | exact Below.refl _ _ | exact below_drawn (Below.refl _ _) _ | exact below_drawn (below_drawn (Below.refl _ _) _) _
          intro x hbx
          have HRx := Lib.hid (HR.out.below hbx)
          clear i3 i4 i5 j3 j4 j5 k3 k4 k5 i1 i2 j1 j2 k1 k2
          have hmz : ∀ W, (Instr.makeSlice 78 (.int .i64 ((s.length : Int) + (cntE s : Int))) (.int .i64 ((s.length : Int) + (cntE s : Int)))).run Tryz.prog W = .ok (.slice (some ⟨W.heap.size, 0, none⟩) N N) (W.alloc (.cells cs 5)) := fun W => by
            have := hmk W
            rwa [show ((N : Nat) : Int) = (s.length : Int) + (cntE s : Int) by omega] at this
          clear hmk
          go_wp2
          go_loopw [13, 14] (fun jv iv wr => ∃ k : Nat, iv = .int .i64 k ∧ k ≤ s.length ∧ jv = .int .i64 (((s.take k).flatMap escB).length : Nat) ∧ Buf wr x.heap.size N ((s.take k).flatMap escB) ∧ Below x.heap.size x wr) (fun _ iv _ => s.length - (intOf iv).toNat)
          case atStart => exact ⟨0, rfl, Nat.zero_le _, rfl, Buf.made x N cs _ hcs, (Below.refl _ _).alloc (Nat.le_refl _) _⟩
          case round =>
            obtain ⟨k, rfl, hk, rfl, hbuf, hB⟩ := hrel
            have HB := Lib.hid hB
            have HBF := Lib.hid hbuf
            have HRr := Lib.hid (HRx.out.below hB)
            have hzb := hB.size
            have hgl := hbuf.lt
            by_cases hlt : k < s.length
            · have hbk : bAt s k = (s[k].toNat : Int) := bAt_eq hlt
              have htk : (s.take (k + 1)).flatMap escB = (s.take k).flatMap escB ++ escB s[k] := by
                rw [List.take_succ_eq_append_getElem hlt, List.flatMap_append]; simp
              have hle : ((s.take k).flatMap escB).length + (escB s[k]).length ≤ N := by
                rw [← hN, ← hel', ← List.length_append, ← htk]
                conv => rhs; rw [← List.take_append_drop (k + 1) s, List.flatMap_append, List.length_append]
                omega
              obtain ⟨P, hP⟩ : ∃ P, (s.take k).flatMap escB = P := ⟨_, rfl⟩
              obtain ⟨c, hc⟩ : ∃ c, s[k] = c := ⟨_, rfl⟩
              rw [hP] at htk hle HBF ⊢
              rw [hc] at hbk htk hle
              have hPn : (P.length : Int) ≤ N := by omega
              clear hP hc hbuf hB
              by_cases h34 : c = 34
              · subst h34
                obtain ⟨bb, cc, l1, l2, l3, l4, l5⟩ := (HRr.out).quo
                have hesc : escB 34 = [92, 34] := by decide
                rw [hesc] at htk hle
                have HT := Lib.hid htk
                have hPl : P.length + 2 ≤ N := by simpa using hle
                have hPi : (P.length : Int) + 2 ≤ N := by omega
                have hbk2 : bAt s k = 34 := hbk
                clear htk hesc hbk
                have hRw : R < wr.heap.size := by have := hbx.size; omega
                have hBd : Below wr.heap.size wr wr.drew := (Below.refl _ _).drew
                have hbuf2 := HBF.out.below hBd
                have e4 := (hBd.cell (p := ⟨bb, 0, none⟩) l2).trans l4
                have e5 := (hBd.cell (p := ⟨bb, 1, none⟩) l2).trans l5
                have hcp := fun ty => copy2 wr.drew ty x.heap.size P.length (N - P.length) (N - P.length) bb cc 92 34 (by omega) e4 e5 (fun j hj => (hbuf2.there _ (by omega)).1) (fun j hj => (hbuf2.there _ (by omega)).2)
                have hb3 := hbuf2.set (by omega) 92 92 rfl
                have hb4 := hb3.set (by simp; omega) 34 34 rfl
                have HB4 := Lib.hid (show Buf ((wr.drew.setCell ⟨x.heap.size, P.length, none⟩ (.int .u8 92)).setCell ⟨x.heap.size, P.length + 1, none⟩ (.int .u8 34)) x.heap.size N (P ++ [92, 34]) by simpa using hb4)
                have HX := Lib.hid (show Below x.heap.size x ((wr.drew.setCell ⟨x.heap.size, P.length, none⟩ (.int .u8 92)).setCell ⟨x.heap.size, P.length + 1, none⟩ (.int .u8 34)) from ((HB.out.drew).setCell (p := ⟨x.heap.size, P.length, none⟩) (Nat.le_refl _) _).setCell (p := ⟨x.heap.size, P.length + 1, none⟩) (Nat.le_refl _) _)
                clear hb3 hb4 hbuf2 e4 e5
                have hneN : ¬ N = P.length := by omega
                have mixed : Tryz.prog.follows .mixedOrders = true := by kernel_rfl
                go_wp2
                go_region_law_o (refine step_copy_runI rfl _ _ 78 78 rfl _ _ (by simp [Act.eval, Act.put, hneN]) (by simp [Act.eval, Act.put]) (hcp _) ?_)
                go_wp2
                go_roundw
                case rel =>
                  have hv1 : ((P ++ [92, 34]).length : Int) = (P.length : Int) + 2 := by simp
                  have hrel : ∃ k' : Nat, Value.int .i64 ((k : Int) + 1) = .int .i64 k' ∧ k' ≤ s.length ∧ Value.int .i64 ((P.length : Int) + 2) = .int .i64 (((s.take k').flatMap escB).length : Nat) ∧ Buf ((wr.drew.setCell ⟨x.heap.size, P.length, none⟩ (.int .u8 92)).setCell ⟨x.heap.size, P.length + 1, none⟩ (.int .u8 34)) x.heap.size N ((s.take k').flatMap escB) ∧ Below x.heap.size x ((wr.drew.setCell ⟨x.heap.size, P.length, none⟩ (.int .u8 92)).setCell ⟨x.heap.size, P.length + 1, none⟩ (.int .u8 34)) := ⟨k + 1, by go_num, by omega, by rw [HT.out]; exact congrArg (Value.int .i64) hv1.symm, by rw [HT.out]; exact HB4.out, HX.out⟩
                  first
                    | exact hrel
                    | (repeat apply Exists.intro
                       refine ⟨hrel, rfl⟩)
                case measure => simp [intOf]; omega
              · by_cases h92 : c = 92
                · subst h92
                  obtain ⟨bb, cc, l1, l2, l3, l4, l5⟩ := (HRr.out).bsl
                  have hesc : escB 92 = [92, 92] := by decide
                  rw [hesc] at htk hle
                  have HT := Lib.hid htk
                  have hPl : P.length + 2 ≤ N := by simpa using hle
                  have hPi : (P.length : Int) + 2 ≤ N := by omega
                  have hbk2 : bAt s k = 92 := hbk
                  clear htk hesc hbk
                  have hRw : R < wr.heap.size := by have := hbx.size; omega
                  have hBd : Below wr.heap.size wr wr.drew := (Below.refl _ _).drew
                  have hbuf2 := HBF.out.below hBd
                  have e4 := (hBd.cell (p := ⟨bb, 0, none⟩) l2).trans l4
                  have e5 := (hBd.cell (p := ⟨bb, 1, none⟩) l2).trans l5
                  have hcp := fun ty => copy2 wr.drew ty x.heap.size P.length (N - P.length) (N - P.length) bb cc 92 92 (by omega) e4 e5 (fun j hj => (hbuf2.there _ (by omega)).1) (fun j hj => (hbuf2.there _ (by omega)).2)
                  have hb3 := hbuf2.set (by omega) 92 92 rfl
                  have hb4 := hb3.set (by simp; omega) 92 92 rfl
                  have HB4 := Lib.hid (show Buf ((wr.drew.setCell ⟨x.heap.size, P.length, none⟩ (.int .u8 92)).setCell ⟨x.heap.size, P.length + 1, none⟩ (.int .u8 92)) x.heap.size N (P ++ [92, 92]) by simpa using hb4)
                  have HX := Lib.hid (show Below x.heap.size x ((wr.drew.setCell ⟨x.heap.size, P.length, none⟩ (.int .u8 92)).setCell ⟨x.heap.size, P.length + 1, none⟩ (.int .u8 92)) from ((HB.out.drew).setCell (p := ⟨x.heap.size, P.length, none⟩) (Nat.le_refl _) _).setCell (p := ⟨x.heap.size, P.length + 1, none⟩) (Nat.le_refl _) _)
                  clear hb3 hb4 hbuf2 e4 e5
                  have hneN : ¬ N = P.length := by omega
                  have mixed : Tryz.prog.follows .mixedOrders = true := by kernel_rfl
                  go_wp2
                  go_region_law_o (refine step_copy_runI rfl _ _ 78 78 rfl _ _ (by simp [Act.eval, Act.put, hneN]) (by simp [Act.eval, Act.put]) (hcp _) ?_)
                  go_wp2
                  go_roundw
                  case rel =>
                    have hv1 : ((P ++ [92, 92]).length : Int) = (P.length : Int) + 2 := by simp
                    have hrel : ∃ k' : Nat, Value.int .i64 ((k : Int) + 1) = .int .i64 k' ∧ k' ≤ s.length ∧ Value.int .i64 ((P.length : Int) + 2) = .int .i64 (((s.take k').flatMap escB).length : Nat) ∧ Buf ((wr.drew.setCell ⟨x.heap.size, P.length, none⟩ (.int .u8 92)).setCell ⟨x.heap.size, P.length + 1, none⟩ (.int .u8 92)) x.heap.size N ((s.take k').flatMap escB) ∧ Below x.heap.size x ((wr.drew.setCell ⟨x.heap.size, P.length, none⟩ (.int .u8 92)).setCell ⟨x.heap.size, P.length + 1, none⟩ (.int .u8 92)) := ⟨k + 1, by go_num, by omega, by rw [HT.out]; exact congrArg (Value.int .i64) hv1.symm, by rw [HT.out]; exact HB4.out, HX.out⟩
                    first
                      | exact hrel
                      | (repeat apply Exists.intro
                         refine ⟨hrel, rfl⟩)
                  case measure => simp [intOf]; omega
                · have hnil := (HRr.out).nil c.toNat c.toNat_lt (fun e => h34 (UInt8.toNat.inj e)) (fun e => h92 (UInt8.toNat.inj e))
                  have hesc : escB c = [c] := by unfold escB; rw [if_neg (by simp [h34, h92])]
                  rw [hesc] at htk hle
                  have HT := Lib.hid htk
                  have hc256 := c.toNat_lt
                  have hPl : P.length < N := by simp at hle; omega
                  have hPi : (P.length : Int) < N := by omega
                  obtain ⟨hth, hfz⟩ := HBF.out.there P.length hPl
                  obtain ⟨uu, huu⟩ := Option.isSome_iff_exists.1 hth
                  clear htk hesc
                  go_wp2
                  go_roundw
                  case rel => exact ⟨k + 1, by go_num, by omega, by rw [HT.out]; simp, by rw [HT.out]; exact HBF.out.set hPl c _ rfl, HB.out.setCell (p := ⟨x.heap.size, P.length, none⟩) (Nat.le_refl _) _⟩
                  case measure => simp [intOf]; omega
            · obtain rfl : k = s.length := by omega
              have hT := HBF.out
              rw [List.take_length] at hT ⊢
              have hcv := hT.text (by rw [hel', hN])
              clear hbuf hT
              go_wp2
              go_ret
              exact ⟨rfl, hbx.trans (HB.out.mono hbx.size)⟩
end Go.Proofs.YtcfihoniocamaaaGreatDoor
/-! QuoText -/
namespace Go.Proofs.YtcfihoniocamaaaGreatDoor
open Go.RowKit
set_option linter.unusedVariables false

theorem quo_meth (n : Nat) (a : Option Addr) (w : World) : (method (n + 1) 157 (.pointer a) "Replace").run Tryz.prog w = .ok (187, .pointer a) w := by kernel_rfl

set_option maxRecDepth 100000 in
set_option maxHeartbeats 1600000 in
theorem quo_replace (b lo : Nat) (s : List UInt8) (hs : s.length ≤ 1000000) (W : World) (hN : NewR W b) (hlo : lo ≤ b) :
    Calls Tryz.prog 73 #[.pointer (some ⟨b, 0, none⟩), .string (S s)] W fun e w' => e = .returned (.string (S (s.flatMap escB))) ∧ Below lo W w' := by
  obtain ⟨hlt, c0, c1, ⟨v3, c3⟩, fz, g, cap, hg, hcap, c4, g0, g1, g2, g3⟩ := hN
  have hset : ∀ (n o : Nat), n ≠ b ∨ o ≠ 1 → (W.setCell ⟨b, 1, none⟩ (.int .i32 1)).cell? ⟨n, o, none⟩ = W.cell? ⟨n, o, none⟩ := fun n o h => World.cell?_setCell_other _ _ _ _ (by simp; omega)
  have hgb : g ≠ b ∨ True := .inr trivial
  have hgne : ∀ o, (W.setCell ⟨b, 1, none⟩ (.int .i32 1)).cell? ⟨g, o, none⟩ = W.cell? ⟨g, o, none⟩ := fun o => by
    by_cases e : g = b
    · subst e
      rw [c0] at g0; cases g0
    · exact hset g o (.inl e)
  have BO := quo_once b g cap lo hlo (W.setCell ⟨b, 1, none⟩ (.int .i32 1)) (by simpa using hlt) (by simpa using hg) hcap ⟨v3, (hset b 3 (.inr (by omega))).trans c3⟩ ((hset b 4 (.inr (by omega))).trans c4) (by simpa using fz 3) (by simpa using fz 4)
    ((hgne 0).trans g0) ((hgne 1).trans g1) ((hgne 2).trans g2) ((hgne 3).trans g3)
  rw [show (W.setCell ⟨b, 1, none⟩ (.int .i32 1)).heap.size = W.heap.size by simp] at BO
  have OD := Lib.hid (once_do b lo hlo (Laid b W.heap.size) W c0 c1 (fz 0) (fz 1) BO (fun W' ⟨R, h1, h2⟩ => ⟨R, h1.keep (fun n o hn _ => by
    rw [World.cell?_setCell_other _ _ _ _ (by simp <;> omega), World.cell?_setCell_other _ _ _ _ (by simp <;> omega), World.cell?_drew]) (by simp), by
    rw [World.cell?_setCell_other _ _ _ _ (by simp), World.cell?_setCell_other _ _ _ _ (by simp), World.cell?_drew]; exact h2⟩))
  clear BO hset hgne g0 g1 g2 g3 c4 c3 c0 c1
  have hmeth := quo_meth
  go_enter Tryz.func73, Tryz.ntmps73
  go_wp2_with (first
    | (go_at_call 92; refine Calls.mono OD.out ?_; rintro e w1 ⟨rfl, ⟨R, hr, h3⟩, hb1⟩; have HR := Lib.hid hr; have HB1 := Lib.hid hb1; clear hr hb1)
    | (go_at_call 187; refine Calls.mono (quo_bytes W.heap.size R s hs w1 HR.out) ?_; rintro e w2 ⟨rfl, hb2⟩; have HB2 := Lib.hid (HB1.out.trans (hb2.mono (by have := HB1.out.size; omega))); clear hb2)
    | fail)
  go_ret
  exact ⟨rfl, HB2.out⟩

set_option maxRecDepth 100000 in
set_option maxHeartbeats 1600000 in
theorem textQuote (s : List UInt8) (hs : s.length ≤ 1000000) (w : World) :
    Calls Tryz.prog 43 #[.string (S s)] w fun e w' => e = .returned (.tuple #[.string (S (if s.any ctlB = true then [] else quoteT s)), .int .i64 (if s.any ctlB = true then 11 else 0)]) ∧ Below w.heap.size w w' := by
  have CO := Lib.hid (fun W => controls_any W)
  have SO := Lib.hid (fun W W1 hh => someCtl s hs W W1 hh)
  have QR := Lib.hid (fun b W hN hlo => quo_replace b w.heap.size s hs W hN hlo)
  have QN := Lib.hid (fun g W h1 h2 h3 h4 h5 => quo_new g W h1 h2 h3 h4 h5)
  have hq : quoteT s = 34 :: (s.flatMap escB ++ [34]) := rfl
  have hel : (s.flatMap escB).length ≤ 2 * s.length := by rw [esc_len]; have := cntE_le s; omega
  cases ha : s.any ctlB with
  | true =>
    rw [ha] at SO
    rw [if_pos rfl, if_pos rfl]
    clear ha
    go_enter Tryz.func43, Tryz.ntmps43
    go_wp2_with (first
      | (go_at_call 71; refine Calls.mono (CO.out _) ?_; rintro e w1 ⟨rfl, hb1, hl1, hc1⟩)
      | (go_at_call 70; refine Calls.mono (SO.out _ _ hc1) ?_; rintro e w' ⟨rfl, hw'⟩; obtain rfl := hw'.symm))
    go_ret2
    exact ⟨rfl, hb1⟩
  | false =>
    rw [ha] at SO
    rw [if_neg (by simp), if_neg (by simp), hq]
    obtain ⟨t, ht⟩ : ∃ t, s.flatMap escB = t := ⟨_, rfl⟩
    rw [ht] at QR hel ⊢
    have hti : (t.length : Int) ≤ 2000000 := by omega
    clear ha hq ht
    go_enter Tryz.func43, Tryz.ntmps43
    go_wp2_with (first
      | (go_at_call 71; refine Calls.mono (CO.out _) ?_; rintro e w1 ⟨rfl, hb1, hl1, hc1⟩)
      | (go_at_call 70; refine Calls.mono (SO.out _ _ hc1) ?_; rintro e w' ⟨rfl, hw'⟩; obtain rfl := hw'.symm; have HB1 := Lib.hid hb1; have hz1 := hb1.size; clear hb1 hc1)
      | (go_at_call 72; refine Calls.mono (QN.out w1.heap.size _ (by simp) (by simp) (by simp) (by simp) (by simp)) ?_; rintro e w2 ⟨b, rfl, hn, hlb, hb2⟩; have HN := Lib.hid hn; have HB2 := Lib.hid (show Below w.heap.size w w2 from (HB1.out.alloc hz1 _).trans (hb2.mono (by simp; omega))); have hlo : w.heap.size ≤ b := (by simp at hlb; omega); clear hn hlb hb2)
      | (go_at_call 73; refine Calls.mono (QR.out _ _ HN.out hlo) ?_; rintro e w3 ⟨rfl, hb3⟩; have HB3 := Lib.hid (HB2.out.trans hb3); clear hb3)
      | fail)
    go_ret2
    exact ⟨by simp, HB3.out⟩
end Go.Proofs.YtcfihoniocamaaaGreatDoor
