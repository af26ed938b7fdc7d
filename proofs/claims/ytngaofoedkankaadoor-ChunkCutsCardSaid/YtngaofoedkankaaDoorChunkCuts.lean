/- The law ChunkCuts: its walk. -/
import Derived.Test.YtngaofoedkankaaDoorChunkCutsA
import Derived.Test.YtngaofoedkankaaDoorChunkCutsB
import Derived.Test.YtngaofoedkankaaDoorChunkCutsD
namespace Go.Proofs.YtngaofoedkankaaDoor
open Go.RowKit Go.Sort Go.Shelf
set_option linter.unusedVariables false

theorem chunkCuts_any (st : Int) (a : ByteArray) (lf sz : Int) (b : ByteArray) (v : Value) (L : List (List Value)) (w : World) (k1 : (Lit.int .i64 st).wf) (k2 : a.size ≤ maxLen) (k3 : (Lit.int .i64 lf).wf) (k4 : (Lit.int .i64 sz).wf) (k5 : b.size ≤ maxLen)
    (hv : RowsIn w 1 v L ∧ ∀ c ∈ L, AllSh [.int .i64] c) (_hL : True) :
    Calls Tryd.prog 3 #[.agg #[.int .i64 st, .string a, .int .i64 lf, .int .i64 sz], .string b, v] w fun e w' => e = .returned (.bool true) ∧ Below w.heap.size w w' := by
  obtain ⟨cs, hcs⟩ := reads_inI hv
  obtain ⟨l0, rfl⟩ := S_of a
  obtain ⟨m0, rfl⟩ := S_of b
  rw [S_size] at k2 k5
  by_cases hr : rightV st (l0.take 300) lf sz = true
  · obtain ⟨c0, hc0, rfl, hln, rfl, rfl⟩ := ok_right hr
    cases hR : runC c0 (m0.take 3000) with
    | inl er => exact chunkCuts_err c0 hc0 er l0 m0 v cs w k2 k5 hcs hln hR
    | inr x =>
      obtain ⟨cR, dR, nR⟩ := x
      exact chunkCuts_ok c0 hc0 cR dR nR l0 m0 v cs w k2 k5 hcs hln hR
  · exact chunkCuts_bad st lf sz l0 m0 v cs w k2 k5 hcs (by simpa using hr)
end Go.Proofs.YtngaofoedkankaaDoor
