/- The law UriStays: its walk. -/
import Derived.Test.YtcjekdoooekmlaaDoorStaysA
import Derived.Test.YtcjekdoooekmlaaDoorStaysB
import Derived.Test.YtcjekdoooekmlaaDoorStaysC
namespace Go.Proofs.YtcjekdoooekmlaaDoor
open Go.RowKit Go.Shelf
set_option linter.unusedVariables false

theorem stays_all (b u o : UU) (hb : b.h.length ≤ 9223372036854775807 ∧ b.p.length ≤ 9223372036854775807 ∧ b.y.length ≤ 9223372036854775807) (hu : u.h.length ≤ 9223372036854775807 ∧ u.p.length ≤ 9223372036854775807 ∧ u.y.length ≤ 9223372036854775807)
    (ho : o.h.length ≤ 9223372036854775807 ∧ o.p.length ≤ 9223372036854775807 ∧ o.y.length ≤ 9223372036854775807) (l0 : List UInt8) (hl0 : l0.length ≤ 9223372036854775807) (w : World) (hL : Laid w) (hM : ∃ m, w.cell? ⟨0, 0, none⟩ = some (.int .i64 m)) :
    Calls Tryd.prog 5 #[b.v, u.v, o.v, .string (S l0)] w fun e w' => e = .returned (.bool true) ∧ Below w.heap.size w w' := by
  obtain ⟨k, hk, hk1, hk2⟩ : ∃ k : Nat, min (l0.length : Int) 300 = k ∧ k ≤ l0.length ∧ k ≤ 300 := ⟨min l0.length 300, by omega, by omega, by omega⟩
  have hw0 : 0 < w.heap.size := by obtain ⟨m, hm⟩ := hM; exact World.block_lt_of_cell? _ _ hm
  obtain ⟨p0, qs, hps⟩ : ∃ p0 qs, Lib.split (cleanL (l0.take k)) [47] = p0 :: qs := by
    cases h : Lib.split (cleanL (l0.take k)) [47] with
    | nil => have := (split_cells (cleanL (l0.take k)) 47).2; rw [h] at this; simp at this
    | cons a b => exact ⟨a, b, rfl⟩
  cases hpf : Lib.hasPrefix (l0.take k) [47] with
  | true =>
    have hq : 0 < qs.length := by
      obtain ⟨t, ht⟩ := head_of hpf
      obtain ⟨ss, h1, h2, h3⟩ := clean_flat t
      rw [ht, h1, split_flat ss (fun s hs => (h2 s hs).1)] at hps
      obtain ⟨rfl, rfl⟩ := List.cons.inj hps
      exact List.length_pos_iff.2 h3
    exact staysA b u o _ _ _ rfl rfl rfl hb hu ho l0 _ _ p0 qs k hk hk1 hk2 rfl rfl hps hpf hq w hL hM hw0
  | false =>
    by_cases hq : qs.length = 0
    · exact staysC b u o _ _ _ rfl rfl rfl hb hu ho l0 _ _ p0 qs k hk hk1 hk2 rfl rfl hps hpf hq w hL hM hw0
    · exact staysB b u o _ _ _ rfl rfl rfl hb hu ho l0 _ _ p0 qs k hk hk1 hk2 rfl rfl hps hpf (by omega) w hL hM hw0

theorem uriStays_any (a0 : Bool) (a1 : ByteArray) (a2 : Int) (a3 : ByteArray) (a4 : Bool) (a5 : ByteArray) (b0 : Bool) (b1 : ByteArray) (b2 : Int) (b3 : ByteArray) (b4 : Bool) (b5 : ByteArray) (c0 : Bool) (c1 : ByteArray) (c2 : Int) (c3 : ByteArray) (c4 : Bool) (c5 : ByteArray) (d : ByteArray) (W : World)
    (h1 : a1.size ≤ maxLen) (h2 : (Lit.int .i64 a2).wf) (h3 : a3.size ≤ maxLen) (h5 : a5.size ≤ maxLen) (k1 : b1.size ≤ maxLen) (k2 : (Lit.int .i64 b2).wf) (k3 : b3.size ≤ maxLen) (k5 : b5.size ≤ maxLen) (j1 : c1.size ≤ maxLen) (j2 : (Lit.int .i64 c2).wf) (j3 : c3.size ≤ maxLen) (j5 : c5.size ≤ maxLen) (hd : d.size ≤ maxLen) (hL : Laid W) (hM : ∃ m, W.cell? ⟨0, 0, none⟩ = some (.int .i64 m)) :
    Calls Tryd.prog 5 #[.agg #[.bool a0, .string a1, .int .i64 a2, .string a3, .bool a4, .string a5], .agg #[.bool b0, .string b1, .int .i64 b2, .string b3, .bool b4, .string b5], .agg #[.bool c0, .string c1, .int .i64 c2, .string c3, .bool c4, .string c5], .string d] W fun e w' => e = .returned (.bool true) ∧ Below W.heap.size W w' := by
  obtain ⟨l1, rfl⟩ := S_of a1
  obtain ⟨l3, rfl⟩ := S_of a3
  obtain ⟨l5, rfl⟩ := S_of a5
  obtain ⟨m1, rfl⟩ := S_of b1
  obtain ⟨m3, rfl⟩ := S_of b3
  obtain ⟨m5, rfl⟩ := S_of b5
  obtain ⟨n1, rfl⟩ := S_of c1
  obtain ⟨n3, rfl⟩ := S_of c3
  obtain ⟨n5, rfl⟩ := S_of c5
  obtain ⟨l, rfl⟩ := S_of d
  rw [S_size] at h1 h3 h5 k1 k3 k5 j1 j3 j5 hd
  exact stays_all ⟨a0, l1, a2, l3, a4, l5⟩ ⟨b0, m1, b2, m3, b4, m5⟩ ⟨c0, n1, c2, n3, c4, n5⟩ ⟨h1, h3, h5⟩ ⟨k1, k3, k5⟩ ⟨j1, j3, j5⟩ l hd W hL hM
end Go.Proofs.YtcjekdoooekmlaaDoor
