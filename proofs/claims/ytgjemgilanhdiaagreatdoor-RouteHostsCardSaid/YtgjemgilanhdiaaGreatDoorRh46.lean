/- Where a request goes, and the address of what it asks: the walk of route.Ask. Printed by tools/rtask.py. -/
import Derived.Test.YtgjemgilanhdiaaGreatDoorRh42
import Derived.Test.YtgjemgilanhdiaaGreatDoorRh43
import Derived.Test.YtgjemgilanhdiaaGreatDoorRh44
import Derived.Test.YtgjemgilanhdiaaGreatDoorRh45
namespace Go.Proofs.YtgjemgilanhdiaaGreatDoor
open Go.RowKit Go.Sort Go.Shelf
set_option linter.unusedVariables false
set_option linter.unusedSimpArgs false

theorem routeAsk (v : Value) (L : List Wrd) (s : St) (fv : Value) (F : List Fld) (bo : List UInt8) (w : World) (hr : ReadsW w v L) (hl : ∀ f ∈ L, f.1.length ≤ 900 ∧ f.2.1.length ≤ 900 ∧ f.2.2.length ≤ 900) (hn : L.length ≤ 1000000)
    (hfr : ReadsF w fv F) (hfs : ∀ f ∈ F, f.1.length ≤ 140737488351232 ∧ f.2.length ≤ 140737488351232) (h1 : s.m.length ≤ 140737488351232) (h2 : s.t.length ≤ 140737488351232) (h3 : s.r.length ≤ 140737488351232) (hLd : Laid w)
    (hSR : ∀ W, Calls Tryz.prog 20 #[.agg #[.string (S s.m), .string (S s.t), .int .i64 s.c, .string (S s.r), .int .i64 s.n]] W fun e w' => e = .returned (.bool (startOk s)) ∧ Below W.heap.size W w') :
    Calls Tryz.prog 7 #[v, .agg #[.string (S s.m), .string (S s.t), .int .i64 s.c, .string (S s.r), .int .i64 s.n, fv, .string (S bo)]] w fun e w' => e = .returned (askV (askR L s (getV F [72, 111, 115, 116]).1)) ∧ Below w.heap.size w w' := by
  by_cases hno : rightRt L = true ∧ startOk s = true ∧ s.c = 0
  · obtain ⟨hR1, hK1, hc⟩ := hno
    cases hpf : Lib.hasPrefix s.t httpL with
    | true => exact routeAsk_t v L s fv F bo w hr hl hn hfr hfs h1 h2 h3 hLd hSR hR1 hK1 hc hpf
    | false =>
      by_cases hh0 : (getV F [72, 111, 115, 116]).1 = []
      · exact routeAsk_f v L s fv F bo w hr hl hn hfr hfs h1 h2 h3 hLd hSR hR1 hK1 hc hpf hh0
      · exact routeAsk_g v L s fv F bo w hr hl hn hfr hfs h1 h2 h3 hLd hSR hR1 hK1 hc hpf hh0
  · exact routeAsk_no v L s fv F bo w hr hl hn hfr hfs h1 h2 h3 hLd hSR hno
end Go.Proofs.YtgjemgilanhdiaaGreatDoor
