/- Whether a field asks a device: plain words. -/
import Derived.Test.YtcfihoniocamaaaGreatDoorSurMath
namespace Go.Proofs.YtcfihoniocamaaaGreatDoor
set_option linter.unusedVariables false

def contentL : List UInt8 := [99, 111, 110, 116, 101, 110, 116]
def esiL : List UInt8 := [69, 83, 73, 47, 49, 46, 48]
def hasEsi (v : List UInt8) : Bool := decide (esiL ∈ Lib.split v [32])
def isFor (dev : List UInt8) (w : Wrd) : Bool := w.1 == contentL && w.2.2 == dev
def lastOf (L : List Wrd) (dev : List UInt8) : Option Wrd := L.reverse.find? (isFor dev)
def asksW (L : List Wrd) (dev : List UInt8) : Bool := match lastOf L dev with
  | some w => hasEsi w.2.1
  | none => match lastOf L [] with
    | some w => hasEsi w.2.1
    | none => false
def asksL (s dev : List UInt8) : Bool := match readL s with
  | none => false
  | some L => asksW L dev
theorem last_snoc (L : List Wrd) (w : Wrd) (dev : List UInt8) : lastOf (L ++ [w]) dev = if isFor dev w = true then some w else lastOf L dev := by
  unfold lastOf
  rw [List.reverse_append, List.reverse_singleton, List.singleton_append, List.find?_cons]
  cases isFor dev w <;> simp
/-- The document's: one word more. -/
def askStep (dev : List UInt8) (st : Bool × Bool) (w : Wrd) : Bool × Bool :=
  let st1 := if isFor dev w = true then (true, hasEsi w.2.1) else st
  if (isFor [] w && !st1.1) = true then (st1.1, hasEsi w.2.1) else st1
theorem ask_snoc (L : List Wrd) (w : Wrd) (dev : List UInt8) : ((lastOf (L ++ [w]) dev).isSome, asksW (L ++ [w]) dev) = askStep dev ((lastOf L dev).isSome, asksW L dev) w := by
  unfold asksW askStep
  rw [last_snoc, last_snoc]
  cases h1 : isFor dev w with
  | true => simp
  | false =>
    cases h2 : isFor [] w with
    | true => cases lastOf L dev <;> simp
    | false => simp
theorem ask_nil (dev : List UInt8) : ((lastOf [] dev).isSome, asksW [] dev) = (false, false) := rfl
/-- A word for another device changes nothing. -/
theorem ask_other (L : List Wrd) (w : Wrd) (dev : List UInt8) (h1 : isFor dev w = false) (h2 : isFor [] w = false) : asksW (L ++ [w]) dev = asksW L dev := by
  have h := ask_snoc L w dev
  unfold askStep at h
  rw [h1, h2] at h
  simpa using congrArg Prod.snd h
end Go.Proofs.YtcfihoniocamaaaGreatDoor
