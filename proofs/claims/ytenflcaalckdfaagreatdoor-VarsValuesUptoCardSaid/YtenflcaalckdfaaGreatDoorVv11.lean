/- pairs.Query: the walk. Rows of fields: which may be, added, found, taken out: the plain law. No program in sight. -/
import Derived.Test.YtenflcaalckdfaaGreatDoorVv10
import Derived.Test.YtenflcaalckdfaaGreatDoorVv3
namespace Go.Proofs.YtenflcaalckdfaaGreatDoor
open Go.RowKit Go.Sort Go.Shelf
set_option linter.unusedVariables false

def queryL (s : List UInt8) : List Fld := (someL (Lib.split s [38])).map pairOf

set_option maxHeartbeats 1600000 in
set_option maxRecDepth 100000 in
theorem pairsQuery (s : List UInt8) (hs : s.length ≤ 1000000) (w : World) (hM : ∃ m, w.cell? ⟨0, 0, none⟩ = some (.int .i64 m)) :
    Calls Tryz.prog 65 #[.string (S s)] w fun e w' => ∃ v, e = .returned v ∧ OwnsF w' w.heap.size v (queryL s) ∧ Below w.heap.size w w' := by
  have hw0 : 0 < w.heap.size := by
    obtain ⟨m, hm⟩ := hM
    exact block_lt_of_cell hm
  have B0 := Boxed.new w 66 (.slice none 0 0)
  have hb0 : Below w.heap.size w (w.alloc (.cells #[.slice none 0 0] 66)) := by (repeat (first | with_reducible exact Below.refl _ _ | with_reducible assumption | with_reducible refine Below.drew ?_ | (with_reducible refine Below.setCell ?_ ?_ _; rotate_left; (first | omega | (simp <;> omega))) | (with_reducible refine Below.alloc ?_ ?_ _; rotate_left; (first | omega | (simp <;> omega))) | exact Below.refl _ _ | assumption))
  have PP := Lib.hid (pairsParts 102 #[.pointer (some ⟨w.heap.size, 0, none⟩)] (enters_of Tryz.func102 (by kernel_rfl) rfl) s 38 hs (w.alloc (.cells #[.slice none 0 0] 66))
    (by obtain ⟨m, hm⟩ := hM; exact ⟨m, (hb0.cell (p := ⟨0, 0, none⟩) hw0).trans hm⟩)
    (fun pre W => PairBox (w.heap.size + 2) w.heap.size (pre.map pairOf) W ∧ Below w.heap.size w W)
    (fun W hb hlt => ⟨⟨_, box_under B0 hb, OwnsF.nil _ _⟩, hb0.trans (hb.mono (by simp))⟩)
    (fun pre p W hj hp hpl hpre hlt => by
      refine (queryClo w.heap.size (w.heap.size + 2) (by omega) (pre.map pairOf) p (by omega) W (by rw [World.size_alloc] at hlt; omega) hj.1 (by rw [List.length_map]; omega)).mono ?_
      rintro e W' ⟨h1, h2, h3, h4⟩
      refine ⟨h1, ⟨by rw [List.map_append]; exact h2, hj.2.trans h3⟩, h3.size, ?_⟩
      exact h4 _ (by simp) (by simp)))
  clear B0 hb0 hM
  unfold queryL
  obtain ⟨L, hL⟩ : ∃ L, (someL (Lib.split s [38])) = L := ⟨_, rfl⟩
  rw [hL] at PP ⊢
  clear hL
  go_enter Tryz.func65, Tryz.ntmps65
  go_wp2_with (go_at_call 98; refine Calls.mono PP.out ?_; rintro e w1 ⟨⟨r, rfl⟩, ⟨v, hbx, hown⟩, hB⟩; have HO := Lib.hid hown; have HB := Lib.hid hB; have c0 := hbx.cell; obtain ⟨ao, cap, rfl, _⟩ := hown.reads; clear hown hB hbx)
  go_ret
  have hfin := HO.out.base (show w.heap.size ≤ w.heap.size + 2 by omega)
  rw [List.length_map] at hfin
  exact ⟨.slice ao L.length cap, rfl, hfin, HB.out⟩
end Go.Proofs.YtenflcaalckdfaaGreatDoor
namespace Go.Proofs.YtenflcaalckdfaaGreatDoor
set_option linter.unusedVariables false

def ctlB (c : UInt8) : Bool := (decide (c.toNat < 32) && !decide (c.toNat = 9)) || decide (c.toNat = 127)
def mayL (f : List UInt8 × List UInt8) : Bool := tokenL f.1 && (trim f.2 == f.2) && decide (f.2.length ≤ 1000) && !f.2.any ctlB
def rightL (L : List (List UInt8 × List UInt8)) : Bool := decide (L.length ≤ 40) && L.all mayL
def sameN (a b : List UInt8) : Bool := lower a == lower b
def addE (L : List (List UInt8 × List UInt8)) (f : List UInt8 × List UInt8) : Int := if rightL L = true ∧ mayL f = true then (if L.length < 40 then 0 else 4) else 1
def addL (L : List (List UInt8 × List UInt8)) (f : List UInt8 × List UInt8) : List (List UInt8 × List UInt8) := if addE L f = 0 then L ++ [f] else []
def removeL (L : List (List UInt8 × List UInt8)) (n : List UInt8) : List (List UInt8 × List UInt8) := L.filter fun f => !sameN f.1 n
def namedL (L : List (List UInt8 × List UInt8)) (n : List UInt8) : List (List UInt8 × List UInt8) := L.filter fun f => sameN f.1 n
end Go.Proofs.YtenflcaalckdfaaGreatDoor
