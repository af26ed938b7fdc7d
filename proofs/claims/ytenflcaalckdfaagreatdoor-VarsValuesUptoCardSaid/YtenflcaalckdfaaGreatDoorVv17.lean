/- How long variables' values, and texts with them, are. The library's cell at block 0 stays. -/
import Derived.Test.YtenflcaalckdfaaGreatDoorVv16
import Derived.Test.YtenflcaalckdfaaGreatDoorVv1
namespace Go.Proofs.YtenflcaalckdfaaGreatDoor
open Go.RowKit Go.Sort Go.Shelf
set_option linter.unusedVariables false

theorem unqG_len : ∀ (l : List UInt8) (b : Bool) (m : List UInt8), unqG b l = some m → m.length ≤ l.length
  | [], false, m, h => by cases h; simp
  | [], true, m, h => by cases h
  | c :: t, true, m, h => by
    obtain ⟨x, hx, rfl⟩ := Option.map_eq_some_iff.1 h
    have := unqG_len t false x hx
    simp only [List.length_cons]; omega
  | c :: t, false, m, h => by
    unfold unqG at h
    split at h
    · cases h
    · split at h
      · have := unqG_len t true m h
        simp only [List.length_cons]; omega
      · obtain ⟨x, hx, rfl⟩ := Option.map_eq_some_iff.1 h
        have := unqG_len t false x hx
        simp only [List.length_cons]; omega
theorem unqL_len (s : List UInt8) : (unqL s).length ≤ s.length := by
  unfold unqL
  cases h : unqR s with
  | none => simp
  | some m =>
    unfold unqR at h
    split at h
    · cases h
    · have := unqG_len _ _ _ h
      simp only [List.length_drop, List.length_take] at this
      simp only [Option.getD_some]; omega
theorem bareV_len (s : List UInt8) : (bareV s).length ≤ s.length := by
  unfold bareV
  split
  · exact unqL_len s
  · exact Nat.le_refl _
theorem findV_len {L : List Fld} {k : List UInt8} {n : Nat} (h : ∀ f ∈ L, f.2.length ≤ n) : (findV L k).1.length ≤ n := by
  unfold findV
  cases hf : L.find? (fun f => f.1 == k) with
  | none => simp
  | some f => exact h f (List.mem_of_find?_eq_some hf)
theorem some_mem {L : List (List UInt8)} {p : List UInt8} (h : p ∈ someL L) : p ∈ L := (List.mem_filter.1 h).1
theorem queryL_len (s : List UInt8) : ∀ f ∈ queryL s, f.2.length ≤ s.length := fun f hf => by
  obtain ⟨p, hp, rfl⟩ := List.mem_map.1 hf
  have h1 := split_len s 38 p (some_mem hp)
  have h2 := (cut1_rest p 61).1
  have h3 := plainG_len (cut1 p 61).2.1 0
  show (plainL (cut1 p 61).2.1).length ≤ _
  unfold plainL
  omega
theorem cookiesL_len (s : List UInt8) : ∀ f ∈ cookiesL s, f.2.length ≤ s.length := fun f hf => by
  obtain ⟨p, hp, hf⟩ := List.mem_flatMap.1 hf
  have h1 := split_len s 59 p (some_mem hp)
  unfold cookieOf at hf
  split at hf
  · obtain rfl := List.mem_singleton.1 hf
    have h2 := (cut1_rest (trim p) 61).1
    have h3 := trim_len p
    have h4 := trim_len (cut1 (trim p) 61).2.1
    have h5 := bareV_len (trim (cut1 (trim p) 61).2.1)
    show (bareV (trim (cut1 (trim p) 61).2.1)).length ≤ _
    omega
  · cases hf
theorem verL_len (s t : List UInt8) : (verL s t).length ≤ s.length := by
  unfold verL
  exact Nat.le_trans (takeWhile_len _ _) (cut_len s t)
theorem agentK_len (s k : List UInt8) (h : s.length ≤ 300) : (agentK s k).length ≤ 300 := by
  have h1 := verL_len s [77, 83, 73, 69, 32]
  have h2 := verL_len s [77, 111, 122, 105, 108, 108, 97, 47]
  unfold agentK
  split
  · unfold agentB; split <;> (try split) <;> simp
  · split
    · unfold agentB; split <;> (try split) <;> simp <;> omega
    · split
      · unfold agentS; split <;> (try split) <;> (try split) <;> simp
      · simp
theorem langV_len (s k : List UInt8) : (langV s k).1.length ≤ 5 := by unfold langV; split <;> simp
theorem valV_len {e : En} (h : e.few) (name key : List UInt8) : (valV e name key).1.length ≤ 300 := by
  obtain ⟨h1, h2, h3, h4, h5, h6⟩ := h
  have o : ∀ s : List UInt8, s.length ≤ 300 → (onlyV s key).1.length ≤ 300 := fun s hs => by unfold onlyV someV; split <;> simp [hs]
  have k : ∀ (s : List UInt8) (kv : List UInt8 × Bool), s.length ≤ 300 → kv.1.length ≤ 300 → (keyedV s key kv).1.length ≤ 300 := fun s kv hs hk => by unfold keyedV someV; split <;> simp [hs, hk]
  unfold valV
  split
  · exact o _ h1
  · split
    · exact o _ h2
    · split
      · exact k _ _ h3 (agentK_len _ _ h3)
      · split
        · exact k _ _ h4 (findV_len fun f hf => Nat.le_trans (cookiesL_len _ f hf) h4)
        · split
          · exact k _ _ h6 (findV_len fun f hf => Nat.le_trans (queryL_len _ f hf) h6)
          · split
            · exact k _ _ h5 (Nat.le_trans (langV_len _ _) (by omega))
            · simp
theorem refV_big {e : En} (h : e.few) (s : List UInt8) : (refV e s).1.length ≤ 75 * (refV e s).2 := by
  unfold refV
  cases hr : refP s with
  | none => simp
  | some x =>
    obtain ⟨n, k, o, r⟩ := x
    obtain ⟨a1, a2, a3⟩ := refP_len hr
    have := valV_len h n k
    simp only
    split <;> omega
theorem subF_len {e : En} (h : e.few) : ∀ (n : Nat) (s : List UInt8), (subF e n s).length ≤ 75 * s.length
  | 0, s => by simp [subF]
  | n + 1, [] => by simp [subF]
  | n + 1, c :: t => by
    have hl := (refV_len e (c :: t)).1
    have hb := refV_big h (c :: t)
    unfold subF
    split
    · have := subF_len h n t
      simp only [List.length_cons]; omega
    · have := subF_len h n ((c :: t).drop (refV e (c :: t)).2)
      rw [List.length_append]
      simp only [List.length_drop, List.length_cons] at this hl ⊢
      omega
theorem subV_len {e : En} (h : e.few) (s : List UInt8) : (subV e s).length ≤ 75 * s.length := subF_len h _ _
end Go.Proofs.YtenflcaalckdfaaGreatDoor
namespace Go.Proofs.YtenflcaalckdfaaGreatDoor
open Go.RowKit
set_option linter.unusedVariables false

theorem mlen_later {w : World} (h : ∃ m, w.cell? ⟨0, 0, none⟩ = some (.int .i64 m)) (W : World) (hb : Below w.heap.size w W) : ∃ m, W.cell? ⟨0, 0, none⟩ = some (.int .i64 m) := by
  obtain ⟨m, hm⟩ := h
  exact ⟨m, (hb.cell (p := ⟨0, 0, none⟩) (block_lt_of_cell hm)).trans hm⟩
end Go.Proofs.YtenflcaalckdfaaGreatDoor
