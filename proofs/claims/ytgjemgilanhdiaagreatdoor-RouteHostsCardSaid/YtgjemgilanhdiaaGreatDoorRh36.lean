/- Rows of fields: which may be, added, found, taken out: the plain law. No program in sight. -/
import Derived.Test.YtgjemgilanhdiaaGreatDoorRh2
import Derived.Test.YtgjemgilanhdiaaGreatDoorRh8
namespace Go.Proofs.YtgjemgilanhdiaaGreatDoor
set_option linter.unusedVariables false

/-- A byte that no text has. -/
def ctlB (c : UInt8) : Bool := (decide (c.toNat < 32) && !decide (c.toNat = 9)) || decide (c.toNat = 127)
def mayL (f : List UInt8 × List UInt8) : Bool := tokenL f.1 && (trim f.2 == f.2) && decide (f.2.length ≤ 1000) && !f.2.any ctlB
def rightL (L : List (List UInt8 × List UInt8)) : Bool := decide (L.length ≤ 40) && L.all mayL
def sameN (a b : List UInt8) : Bool := lower a == lower b
/-- What adding gives: the row, or why not. -/
def addE (L : List (List UInt8 × List UInt8)) (f : List UInt8 × List UInt8) : Int := if rightL L = true ∧ mayL f = true then (if L.length < 40 then 0 else 4) else 1
def addL (L : List (List UInt8 × List UInt8)) (f : List UInt8 × List UInt8) : List (List UInt8 × List UInt8) := if addE L f = 0 then L ++ [f] else []
def removeL (L : List (List UInt8 × List UInt8)) (n : List UInt8) : List (List UInt8 × List UInt8) := L.filter fun f => !sameN f.1 n
def namedL (L : List (List UInt8 × List UInt8)) (n : List UInt8) : List (List UInt8 × List UInt8) := L.filter fun f => sameN f.1 n
end Go.Proofs.YtgjemgilanhdiaaGreatDoor
