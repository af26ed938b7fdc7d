/- strings.Builder: WriteString, Len, String: the library's contracts at this program. (The laying tool finds no number for two types that the structure lists and no body names: laid by hand.) A text with its references' values in their places: the walk of vars.Sub. -/
import Derived.Test.YtenflcaalckdfaaGreatDoorVv4
import Derived.Shelf.Strings.Builder1
import Derived.Test.YtenflcaalckdfaaGreatDoorVv26
namespace Go.Proofs.YtenflcaalckdfaaGreatDoor
open Go.RowKit Go.Shelf
set_option linter.unusedVariables false

def bren : Go.Shelf.Ren := ⟨fun | 166 => 29 | 240 => 55 | 276 => 91 | n => n,
  fun | 0 => 0 | 3 => 3 | 4 => 4 | 5 => 5 | 9 => 9 | 20 => 20 | 37 => 51 | 70 => 50 | 72 => 53 | 75 => 56 | 80 => 59 | 24 => 57 | 164 => 106 | n => n, fun n => n⟩
theorem blay166 : Go.Proofs.Lays.n166 Tryz.prog bren := {
  mixed := by kernel_rfl
  f166 := Tryz.func29.trans (congrArg some (by kernel_rfl))
  f240 := Tryz.func55.trans (congrArg some (by kernel_rfl))
  f276 := Tryz.func91.trans (congrArg some (by kernel_rfl))
  t0 := Tryz.underlying0
  a0 := Tryz.isAgg0
  z0 := Tryz.sizeOf0
  v0 := Tryz.zeroValue0
  t3 := Tryz.underlying3
  a3 := Tryz.isAgg3
  z3 := Tryz.sizeOf3
  v3 := Tryz.zeroValue3
  t4 := Tryz.underlying4
  a4 := Tryz.isAgg4
  z4 := Tryz.sizeOf4
  v4 := Tryz.zeroValue4
  t9 := Tryz.underlying9
  a9 := Tryz.isAgg9
  z9 := Tryz.sizeOf9
  v9 := Tryz.zeroValue9
  t20 := Tryz.underlying20
  a20 := Tryz.isAgg20
  z20 := Tryz.sizeOf20
  v20 := Tryz.zeroValue20
  t37 := Tryz.underlying51
  a37 := Tryz.isAgg51
  z37 := Tryz.sizeOf51
  v37 := Tryz.zeroValue51
  t70 := Tryz.underlying50
  a70 := Tryz.isAgg50
  z70 := Tryz.sizeOf50
  v70 := Tryz.zeroValue50
  t72 := Tryz.underlying53
  a72 := Tryz.isAgg53
  z72 := Tryz.sizeOf53
  v72 := Tryz.zeroValue53
  t75 := Tryz.underlying56
  a75 := Tryz.isAgg56
  z75 := Tryz.sizeOf56
  v75 := Tryz.zeroValue56
  t164 := Tryz.underlying106
  a164 := Tryz.isAgg106
  z164 := Tryz.sizeOf106
  v164 := Tryz.zeroValue106 }
theorem bextra : Builder.Extra Tryz.prog bren := {
  sizeBuilder := by kernel_rfl
  liesBuilder := by kernel_rfl
  t5 := Tryz.underlying5
  a5 := Tryz.isAgg5
  z5 := Tryz.sizeOf5
  v5 := Tryz.zeroValue5
  infoByte := by kernel_rfl
  cellsByte := by kernel_rfl
  sizeByte := by kernel_rfl
  neB5 := by decide }
def Holds (W : World) (b : Nat) (l : List UInt8) : Prop := Lib.IsBuilder 53 5 b b (Lib.byteCells l) W
theorem Holds.fresh (W : World) : Holds (W.alloc (.cells #[.pointer none, .slice none 0 0] 53)) W.heap.size [] := Lib.fresh_isBuilder _ _ W
theorem Holds.alloc {W : World} {b : Nat} {l : List UInt8} (h : Holds W b l) (o : Obj) : Holds (W.alloc o) b l := by
  have key : ∀ p, Lib.BuilderAt 53 5 b b p (Lib.byteCells l) W → Lib.BuilderAt 53 5 b b p (Lib.byteCells l) (W.alloc o) := by
    rintro p ⟨h1, v, h2, h3, h4⟩
    exact ⟨h1, v, (Lib.alloc_old W o b (Array.getElem?_eq_some_iff.1 h2).1).trans h2, World.ownsRow.alloc h3 o, h4⟩
  exact h.elim (fun x => .inl (key _ x)) (fun x => .inr (key _ x))
theorem Holds.lt {W : World} {b : Nat} {l : List UInt8} (h : Holds W b l) : b < W.heap.size := h.elim Lib.BuilderAt.lt Lib.BuilderAt.lt
theorem cells_app (a b : List UInt8) : Lib.byteCells a ++ Lib.strCells (S b) = Lib.byteCells (a ++ b) := by
  unfold Lib.strCells Lib.byteCells
  simp [S_data]
theorem byteCells_len (a : List UInt8) : (Lib.byteCells a).length = a.length := by unfold Lib.byteCells; simp
theorem writeString_c {b : Nat} {l t : List UInt8} (W : World) (h : Holds W b l) (hlen : l.length + t.length ≤ 1000000) (n : Int) (hn : n = t.length) :
    Calls Tryz.prog 29 #[.pointer (some ⟨b, 0, none⟩), .string (S t)] W fun e w' => e = .returned (.tuple #[.int .i64 n, .nilIface]) ∧ Holds w' b (l ++ t) ∧ Below b W w' :=
  (Any.Builder_WriteString blay166 bextra b b (Lib.byteCells l) (S t) W h (by rw [byteCells_len, S_size]; omega) (Nat.le_of_lt h.lt)).mono fun e w' ⟨h1, h2, h3⟩ => ⟨by rw [h1, S_size, hn], .inr (by rw [← cells_app]; exact h2), h3⟩
theorem builderString_c {b : Nat} {l : List UInt8} (W : World) (h : Holds W b l) :
    Calls Tryz.prog 30 #[.pointer (some ⟨b, 0, none⟩)] W fun e w' => e = .returned (.string (S l)) ∧ Below b W w' :=
  Tryz.Builder_String_any b b l W h (Nat.le_of_lt h.lt)
end Go.Proofs.YtenflcaalckdfaaGreatDoor
namespace Go.Proofs.YtenflcaalckdfaaGreatDoor
open Go Go.RowKit Go.Sort Go.Shelf
set_option linter.unusedVariables false
set_option linter.unusedSimpArgs false

theorem ownsRow_below {w w' : World} {base : Nat} {e : TypeId} {size : Nat} {v : Value} {n : Nat} {xs : List Value} (h : w.ownsRow base e size v n xs) (hg : Below w.heap.size w w') : w'.ownsRow base e size v n xs := by
  refine ⟨h.1, ?_⟩
  rcases h.2 with hn | ⟨g, cap, cur, rfl, hb, hgg, rest⟩
  · exact .inl hn
  · exact .inr ⟨g, cap, cur, rfl, hb, (hg.block g (Array.getElem?_eq_some_iff.1 hgg).1).trans hgg, rest⟩
theorem Holds.below {W w' : World} {b : Nat} {l : List UInt8} (h : Holds W b l) (hg : Below W.heap.size W w') : Holds w' b l := by
  have key : ∀ p, Lib.BuilderAt 53 5 b b p (Lib.byteCells l) W → Lib.BuilderAt 53 5 b b p (Lib.byteCells l) w' := by
    rintro p ⟨h1, v, h2, h3, h4⟩
    exact ⟨h1, v, (hg.block b (Array.getElem?_eq_some_iff.1 h2).1).trans h2, ownsRow_below h3 hg, h4⟩
  exact h.elim (fun x => .inl (key _ x)) (fun x => .inr (key _ x))
theorem index_S {s t : List UInt8} {i : Int} (hs : s.length ≤ 1000000) (h : Lib.index s t = i) (W : World) (hM : ML W) : Calls Tryz.prog 28 #[.string (S s), .string (S t)] W fun e w' => e = .returned (.int .i64 i) ∧ w' = W := by
  obtain ⟨m, hm⟩ := hM
  refine (Tryz.strings_Index (S s) (S t) m W (by rw [S_size]; omega) hm).mono fun e w' ⟨h1, h2⟩ => ⟨?_, h2⟩
  rw [h1, S_data, S_data, h]

set_option maxHeartbeats 3200000 in
set_option maxRecDepth 100000 in
theorem varsSub (e : En) (hf : e.few) (s : List UInt8) (hs : s.length ≤ 13000) (w : World) (hM : ML w) :
    Calls Tryz.prog 11 #[e.v, .string (S s)] w fun x w' => x = .returned (.string (S (subV e s))) ∧ Below w.heap.size w w' := by
  have hsi : (s.length : Int) ≤ 13000 := by omega
  have VR := Lib.hid (fun (t : List UInt8) (ht : t.length ≤ 100000) W (hb : Below w.heap.size w W) => varsRef e hf t ht W (hM.later (GG.of_below hb)))
  have IX := Lib.hid (fun (t : List UInt8) (i : Int) (hi : Lib.index t [36, 40] = i) (ht : t.length ≤ 100000) W (hb : Below w.heap.size w W) => index_S (by omega) hi W (hM.later (GG.of_below hb)))
  have WS := Lib.hid (fun W (l t : List UInt8) (h : Holds W (w.heap.size + 1) l) (hlen : l.length + t.length ≤ 1000000) => writeString_c W h hlen t.length rfl)
  have ST := Lib.hid (fun W (l : List UInt8) (h : Holds W (w.heap.size + 1) l) => builderString_c W h)
  have SP := Lib.hid (fun (t : List UInt8) (h : Lib.index t [36, 40] < 0) => subV_plain e t h)
  have SH := Lib.hid (fun (t : List UInt8) (k : Nat) (h : Lib.index t [36, 40] = k) => subV_head e t k h)
  have SS := Lib.hid (fun (u : List UInt8) (h : 0 < u.length) => stepV_sub e (u := u) h)
  have SB := Lib.hid (fun (u : List UInt8) (h : 0 < u.length) => stepV_big hf (u := u) h)
  have HBX := Lib.hid (show Below (w.heap.size + 1) (w.alloc (.cells #[.string (S e.host), .string (S e.ref), .string (S e.agent), .string (S e.cookie), .string (S e.lang), .string (S e.query)] 23)) (w.alloc (.cells #[.string (S e.host), .string (S e.ref), .string (S e.agent), .string (S e.cookie), .string (S e.lang), .string (S e.query)] 23)) from Below.refl _ _)
  have HF := Lib.hid (Holds.fresh (w.alloc (.cells #[.string (S e.host), .string (S e.ref), .string (S e.agent), .string (S e.cookie), .string (S e.lang), .string (S e.query)] 23)))
  obtain ⟨R, hR⟩ : ∃ R, subV e s = R := ⟨_, rfl⟩
  rw [hR]
  have HR := Lib.hid hR
  clear hM hf hR
  go_enter Tryz.func11, Tryz.ntmps11
  go_wp2
  try simp only [mk_S]
  go_loopw [1] (fun tv wr => ∃ (t a : List UInt8), tv = .string (S t) ∧ t.length ≤ s.length ∧ a.length + 75 * t.length ≤ 75 * s.length ∧ a ++ subV e t = R ∧ Holds wr (w.heap.size + 1) a ∧ Below (w.heap.size + 1) (w.alloc (.cells #[.string (S e.host), .string (S e.ref), .string (S e.agent), .string (S e.cookie), .string (S e.lang), .string (S e.query)] 23)) wr) (fun tv _ => strLen tv)
  case atStart => exact ⟨s, [], rfl, Nat.le_refl _, by simp, by rw [List.nil_append]; exact HR.out, by (have := HF.out); simpa using this, by (have := HBX.out; (repeat (first | with_reducible exact Below.refl _ _ | with_reducible assumption | with_reducible refine Below.drew ?_ | (with_reducible refine Below.setCell ?_ ?_ _; rotate_left; (first | omega | (simp <;> omega))) | (with_reducible refine Below.alloc ?_ ?_ _; rotate_left; (first | omega | (simp <;> omega))) | exact Below.refl _ _ | assumption)))⟩
  case round =>
    obtain ⟨t, a, rfl, htl, hal, hat, hh, hB⟩ := hrel
    have hcc : ∀ o, wr.cell? ⟨w.heap.size, o, none⟩ = (w.alloc (.cells #[.string (S e.host), .string (S e.ref), .string (S e.agent), .string (S e.cookie), .string (S e.lang), .string (S e.query)] 23)).cell? ⟨w.heap.size, o, none⟩ := fun o => hB.cell (p := ⟨w.heap.size, o, none⟩) (by simp)
    have hzw := hB.size
    simp only [World.size_alloc] at hzw
    have hlt := hh.lt
    have HHB := Lib.hid (Below.trans (show Below w.heap.size w (w.alloc (.cells #[.string (S e.host), .string (S e.ref), .string (S e.agent), .string (S e.cookie), .string (S e.lang), .string (S e.query)] 23)) by (repeat (first | with_reducible exact Below.refl _ _ | with_reducible assumption | with_reducible refine Below.drew ?_ | (with_reducible refine Below.setCell ?_ ?_ _; rotate_left; (first | omega | (simp <;> omega))) | (with_reducible refine Below.alloc ?_ ?_ _; rotate_left; (first | omega | (simp <;> omega))) | exact Below.refl _ _ | assumption))) (hB.mono (by omega)))
    have HB := Lib.hid hB
    have HH := Lib.hid hh
    have HAT := Lib.hid hat
    clear hh hB hat
    by_cases ht0 : t = []
    · subst ht0
      go_wp2_with (go_at_call 30; refine Calls.mono (ST.out _ _ HH.out) ?_; rintro x w1 ⟨rfl, hb1⟩; have HB1 := Lib.hid hb1; clear hb1)
      go_ret
      have h := HAT.out
      rw [subV_nil, List.append_nil] at h
      exact ⟨by rw [← h]; rfl, HHB.out.trans (HB1.out.mono (by omega))⟩
    · have hne : (t == []) = false := by simpa using ht0
      have hne2 : t.isEmpty = false := by simpa using ht0
      have hpos : 0 < t.length := List.length_pos_iff.2 ht0
      obtain ⟨i, hi⟩ : ∃ i, Lib.index t [36, 40] = i := ⟨_, rfl⟩
      have HI := Lib.hid hi
      have IX1 := Lib.hid (IX.out t i hi (by omega) wr HHB.out)
      have hti : (t.length : Int) ≤ 13000 := by omega
      clear hi ht0
      by_cases hi0 : i < 0
      · have HRt := Lib.hid (show a ++ t = R by have h := HAT.out; rw [SP.out t (by rw [HI.out]; exact hi0)] at h; exact h)
        have WS1 := Lib.hid (WS.out wr a t HH.out (by omega))
        go_wp2_with (first
          | (go_at_call 28; refine Calls.mono IX1.out ?_; rintro x wq ⟨rfl, hwq⟩; obtain rfl := hwq.symm)
          | (go_at_call 29; refine Calls.mono (by simpa using WS1.out) ?_; rintro x w3 ⟨rfl, hh3, hb3⟩; have HH3 := Lib.hid hh3; have HB3 := Lib.hid (HHB.out.trans (hb3.mono (by omega))); have hz3 := hb3.size; clear hh3 hb3)
          | (go_at_call 30; refine Calls.mono (ST.out _ _ HH3.out) ?_; rintro x w1 ⟨rfl, hb1⟩; have HB1 := Lib.hid hb1; clear hb1)
          | fail)
        go_ret
        exact ⟨by rw [← HRt.out]; rfl, HB3.out.trans (HB1.out.mono (by omega))⟩
      · obtain ⟨k, rfl⟩ : ∃ k : Nat, i = k := ⟨i.toNat, by omega⟩
        have hk := Lib.index_room t [36, 40] (by rw [HI.out]; omega)
        rw [HI.out] at hk
        simp only [List.length_cons, List.length_nil] at hk
        obtain ⟨u, hu⟩ : ∃ u, t.drop k = u := ⟨_, rfl⟩
        have hul : k + u.length = t.length := by rw [← hu, List.length_drop]; omega
        have HRt := Lib.hid (show a ++ (t.take k ++ subV e u) = R by have h := HAT.out; rw [SH.out t k HI.out, hu] at h; exact h)
        have hune : (u == []) = false := by
          have : u ≠ [] := fun h => by rw [h] at hul; simp at hul; omega
          simpa using this
        obtain ⟨q, hq⟩ : ∃ q, t.take k = q := ⟨_, rfl⟩
        have hql : q.length = k := by rw [← hq, List.length_take]; omega
        rw [hq] at HRt
        have WS1 := Lib.hid (WS.out wr a q HH.out (by omega))
        obtain ⟨⟨v, n⟩, hv⟩ : ∃ x, refV e u = x := ⟨_, rfl⟩
        have hnl := (refV_len e u).1
        have VR1 := Lib.hid (fun W hb => VR.out u (by omega) W hb)
        have SS1 := Lib.hid (SS.out u (by omega))
        have SB1 := Lib.hid (SB.out u (by omega))
        unfold stepV at SS1 SB1
        rw [hv] at hnl VR1 SS1 SB1
        simp only at hnl VR1 SS1 SB1
        have hku : (k : Int) + u.length = t.length := by omega
        clear hv
        by_cases hn : n = 0
        · subst hn
          rw [if_pos rfl] at SS1 SB1
          simp only at SS1 SB1
          obtain ⟨c, u', rfl⟩ : ∃ c u', u = c :: u' := by
            cases u with
            | nil => simp at hune
            | cons c u' => exact ⟨c, u', rfl⟩
          simp only [List.length_cons] at hul hku
          go_wp2_with (first
            | (go_at_call 28; refine Calls.mono IX1.out ?_; rintro x wq ⟨rfl, hwq⟩; obtain rfl := hwq.symm)
            | (go_at_call 29; refine Calls.mono (by simpa using WS1.out) ?_; rintro x w3 ⟨rfl, hh3, hb3⟩; have HH3 := Lib.hid hh3; have HB3 := Lib.hid (HB.out.trans hb3); have hz3 := hb3.size; have cc3 : ∀ o, w3.cell? ⟨w.heap.size, o, none⟩ = wr.cell? ⟨w.heap.size, o, none⟩ := (fun o => hb3.cell (p := ⟨w.heap.size, o, none⟩) (by simp)); clear hh3 hb3 WS1)
            | (go_at_call 8; refine Calls.mono (VR1.out _ (Below.trans (show Below w.heap.size w (w.alloc (.cells #[.string (S e.host), .string (S e.ref), .string (S e.agent), .string (S e.cookie), .string (S e.lang), .string (S e.query)] 23)) by (repeat (first | with_reducible exact Below.refl _ _ | with_reducible assumption | with_reducible refine Below.drew ?_ | (with_reducible refine Below.setCell ?_ ?_ _; rotate_left; (first | omega | (simp <;> omega))) | (with_reducible refine Below.alloc ?_ ?_ _; rotate_left; (first | omega | (simp <;> omega))) | exact Below.refl _ _ | assumption))) (HB3.out.mono (by omega)))) ?_; rintro x w4 ⟨rfl, hb4⟩; have HH4 := Lib.hid (HH3.out.below hb4); have HB4 := Lib.hid (HB3.out.trans (hb4.mono (by omega))); have hz4 := hb4.size; clear hb4)
            | (go_at_call 29; refine Calls.mono (by simpa using WS.out _ _ [c] HH4.out (by simp only [List.length_append, List.length_cons, List.length_nil]; omega)) ?_; rintro x w5 ⟨rfl, hh5, hb5⟩; have HH5 := Lib.hid hh5; have HB5 := Lib.hid (HB4.out.trans hb5); clear hh5 hb5)
            | fail)
          go_roundw
          case rel => exact ⟨u', a ++ (q ++ [c]), by first | rfl | simp [go_sem], by omega, by simp only [List.length_append, List.length_cons, List.length_nil] at *; omega, by (have h := HRt.out); rw [SS1.out] at h; simpa using h, HH5.out, HB5.out⟩
          case measure => first | (simp [strLen_S]; omega) | (rw [strLen_S]; simp; omega)
        · rw [if_neg hn] at SS1 SB1
          have hn1 : ((n : Int) == 0) = false := by simp; omega
          have hn2 : ((n : Int) = 0) = False := by simp; omega
          have hni : (n : Int) ≤ u.length := by omega
          simp only at SS1 SB1
          have SB2 := SB1.out
          clear SB1
          go_wp2_with (first
            | (go_at_call 28; refine Calls.mono IX1.out ?_; rintro x wq ⟨rfl, hwq⟩; obtain rfl := hwq.symm)
            | (go_at_call 29; refine Calls.mono (by simpa using WS1.out) ?_; rintro x w3 ⟨rfl, hh3, hb3⟩; have HH3 := Lib.hid hh3; have HB3 := Lib.hid (HB.out.trans hb3); have hz3 := hb3.size; have cc3 : ∀ o, w3.cell? ⟨w.heap.size, o, none⟩ = wr.cell? ⟨w.heap.size, o, none⟩ := (fun o => hb3.cell (p := ⟨w.heap.size, o, none⟩) (by simp)); clear hh3 hb3 WS1)
            | (go_at_call 8; refine Calls.mono (VR1.out _ (Below.trans (show Below w.heap.size w (w.alloc (.cells #[.string (S e.host), .string (S e.ref), .string (S e.agent), .string (S e.cookie), .string (S e.lang), .string (S e.query)] 23)) by (repeat (first | with_reducible exact Below.refl _ _ | with_reducible assumption | with_reducible refine Below.drew ?_ | (with_reducible refine Below.setCell ?_ ?_ _; rotate_left; (first | omega | (simp <;> omega))) | (with_reducible refine Below.alloc ?_ ?_ _; rotate_left; (first | omega | (simp <;> omega))) | exact Below.refl _ _ | assumption))) (HB3.out.mono (by omega)))) ?_; rintro x w4 ⟨rfl, hb4⟩; have HH4 := Lib.hid (HH3.out.below hb4); have HB4 := Lib.hid (HB3.out.trans (hb4.mono (by omega))); have hz4 := hb4.size; clear hb4)
            | (go_at_call 29; refine Calls.mono (by simpa using WS.out _ _ v HH4.out (by simp only [List.length_append]; omega)) ?_; rintro x w5 ⟨rfl, hh5, hb5⟩; have HH5 := Lib.hid hh5; have HB5 := Lib.hid (HB4.out.trans hb5); clear hh5 hb5)
            | fail)
          go_roundw
          case rel => exact ⟨u.drop n, a ++ (q ++ v), by first | rfl | simp [go_sem], by simp only [List.length_drop]; omega, by simp only [List.length_append, List.length_drop]; omega, by (have h := HRt.out); rw [SS1.out] at h; simpa using h, HH5.out, HB5.out⟩
          case measure => first | (simp [strLen_S]; omega) | (rw [strLen_S, strLen_S, List.length_drop]; omega)
end Go.Proofs.YtenflcaalckdfaaGreatDoor
