/- The laws TextWords and TextSmall: their walks. -/
import Derived.Test.YtigohbjbmipccaaDoorTextLaw
namespace Go.Proofs.YtigohbjbmipccaaDoor
open Go.RowKit Go.Sort Go.Shelf
set_option linter.unusedVariables false

set_option maxHeartbeats 1600000 in
set_option maxRecDepth 100000 in
theorem textWords_any (s t : ByteArray) (w : World) (h0 : s.size ≤ maxLen) (h1 : t.size ≤ maxLen) (_hL : True) :
    Calls Tryd.prog 6 #[.string s, .string t] w fun e w' => e = .returned (.bool true) ∧ Below w.heap.size w w' := by
  obtain ⟨l, rfl⟩ := S_of s
  obtain ⟨m, rfl⟩ := S_of t
  rw [S_size] at h0 h1
  have C1 := Lib.hid (fun W => short l h0 W)
  have C2 := Lib.hid (fun W => short m h1 W)
  obtain ⟨x, hx, hxl⟩ : ∃ x, l.take 400 = x ∧ x.length ≤ 400 := ⟨_, rfl, by simp; omega⟩
  obtain ⟨y, hy, hyl⟩ : ∃ y, m.take 400 = y ∧ y.length ≤ 400 := ⟨_, rfl, by simp; omega⟩
  rw [hx] at C1
  rw [hy] at C2
  clear hx hy
  have hsl : (lower x).length ≤ 400 := by rw [lower_len]; exact hxl
  have V1 := Lib.hid (via_of (w := w) fun W => alive W)
  have V2 := Lib.hid (via_of (w := w) fun W => textLower x (by omega) W)
  have V3 := Lib.hid (via_of (w := w) fun W => refLower x (by omega) W)
  have V3' := Lib.hid (via_of (w := w) fun W => refLower y (by omega) W)
  have V4 := Lib.hid (via_of (w := w) fun W => textTrim x (by omega) W)
  have V5 := Lib.hid (via_same (w := w) fun W => refTrim x (by omega) W)
  have V6 := Lib.hid (via_of (w := w) fun W => textToken x (by omega) W)
  have V7 := Lib.hid (via_same (w := w) fun W => refToken x (by omega) W)
  have V8 := Lib.hid (via_of (w := w) fun W => textSame x y (by omega) (by omega) W)
  have V9 := Lib.hid (via_of (w := w) fun W => textSame x (lower x) (by omega) (by omega) W)
  rw [lower_idem] at V9
  obtain ⟨lx, hlx⟩ : ∃ lx, lower x = lx := ⟨_, rfl⟩
  obtain ⟨ly, hly⟩ : ∃ ly, lower y = ly := ⟨_, rfl⟩
  obtain ⟨tx, htx⟩ : ∃ tx, trim x = tx := ⟨_, rfl⟩
  obtain ⟨tk, htk⟩ : ∃ tk, tokenL x = tk := ⟨_, rfl⟩
  rw [hlx] at V2 V3 V8 V9
  rw [hly] at V3' V8
  rw [htx] at V4 V5
  rw [htk] at V6 V7
  have e9 : (lx == lx) = true := by simp
  rw [e9] at V9
  have hb := Below.refl w.heap.size w
  clear hlx hly htx htk e9 hsl
  go_enter Tryd.func6, Tryd.ntmps6
  go_wp2_with (first
    | (go_at_call 9; with_reducible refine (C1.out _).mono ?_; rintro e w' ⟨rfl, rfl⟩)
    | (go_at_call 9; with_reducible refine (C2.out _).mono ?_; rintro e w' ⟨rfl, rfl⟩)
    | (go_at_call 12; with_reducible refine (V1.out _ (by assumption)).mono ?_; rintro e w' ⟨rfl, hb⟩)
    | (go_at_call 16; with_reducible refine (V2.out _ (by assumption)).mono ?_; rintro e w' ⟨rfl, hb⟩)
    | (go_at_call 17; with_reducible refine (V3.out _ (by assumption)).mono ?_; rintro e w' ⟨rfl, hb⟩)
    | (go_at_call 17; with_reducible refine (V3'.out _ (by assumption)).mono ?_; rintro e w' ⟨rfl, hb⟩)
    | (go_at_call 15; with_reducible refine (V4.out _ (by assumption)).mono ?_; rintro e w' ⟨rfl, hb⟩)
    | (go_at_call 14; with_reducible refine (V5.out _ (by assumption)).mono ?_; rintro e w' ⟨rfl, hb⟩)
    | (go_at_call 18; with_reducible refine (V6.out _ (by assumption)).mono ?_; rintro e w' ⟨rfl, hb⟩)
    | (go_at_call 19; with_reducible refine (V7.out _ (by assumption)).mono ?_; rintro e w' ⟨rfl, hb⟩)
    | (go_at_call 20; with_reducible refine (V8.out _ (by assumption)).mono ?_; rintro e w' ⟨rfl, hb⟩)
    | (go_at_call 20; with_reducible refine (V9.out _ (by assumption)).mono ?_; rintro e w' ⟨rfl, hb⟩))
  go_ret
  exact ⟨rfl, by assumption⟩

set_option maxHeartbeats 1600000 in
set_option maxRecDepth 100000 in
theorem textSmall_any (s t : ByteArray) (w : World) (h0 : s.size ≤ maxLen) (h1 : t.size ≤ maxLen) (_hL : True) :
    Calls Tryd.prog 7 #[.string s, .string t] w fun e w' => e = .returned (.bool true) ∧ Below w.heap.size w w' := by
  obtain ⟨l, rfl⟩ := S_of s
  obtain ⟨m, rfl⟩ := S_of t
  rw [S_size] at h0 h1
  have C1 := Lib.hid (fun W => short l h0 W)
  have C2 := Lib.hid (fun W => short m h1 W)
  obtain ⟨x, hx, hxl⟩ : ∃ x, l.take 400 = x ∧ x.length ≤ 400 := ⟨_, rfl, by simp; omega⟩
  obtain ⟨y, hy, hyl⟩ : ∃ y, m.take 400 = y ∧ y.length ≤ 400 := ⟨_, rfl, by simp; omega⟩
  rw [hx] at C1
  rw [hy] at C2
  clear hx hy
  have hsl : (lower x).length = x.length := lower_len x
  have V1 := Lib.hid (via_of (w := w) fun W => alive W)
  have V2 := Lib.hid (via_of (w := w) fun W => textLower x (by omega) W)
  have V3 := Lib.hid (via_of (w := w) fun W => textLower (lower x) (by omega) W)
  have V4 := Lib.hid (via_of (w := w) fun W => textSame x y (by omega) (by omega) W)
  have V5 := Lib.hid (via_of (w := w) fun W => textSame y x (by omega) (by omega) W)
  have V6 := Lib.hid (via_of (w := w) fun W => textSame x (lower x) (by omega) (by omega) W)
  have T1 := Lib.hid (via_of (w := w) fun W => textToken x (by omega) W)
  have T2 := Lib.hid (via_of (w := w) fun W => textToken y (by omega) W)
  have T3 := Lib.hid (via_of (w := w) fun W => textToken (lower x) (by omega) W)
  have T4 := Lib.hid (fun (h : tokenL x = true) (h' : tokenL y = true) => show Via w 18 #[.string (S (x ++ y))] (.bool true) from by
    have := via_of (w := w) fun W => textToken (x ++ y) (by simp; omega) W
    rw [token_append h h'] at this
    exact this)
  have T5 := Lib.hid (fun (h : tokenL x = true) (h' : tokenL y = true) => show ∀ z, z = x ++ 45 :: y → Via w 18 #[.string (S z)] (.bool true) from fun z hz => by
    have := via_of (w := w) fun W => textToken (x ++ 45 :: y) (by simp; omega) W
    rw [token_dash h h'] at this
    rw [hz]
    exact this)
  rw [lower_idem] at V3 V6
  rw [token_lower] at T3
  obtain ⟨lx, hlx⟩ : ∃ lx, lower x = lx := ⟨_, rfl⟩
  obtain ⟨ly, hly⟩ : ∃ ly, lower y = ly := ⟨_, rfl⟩
  rw [hlx] at V2 V3 V4 V5 V6 T3 hsl
  rw [hly] at V4 V5
  have e9 : (lx == lx) = true := by simp
  have e10 : (ly == lx) = (lx == ly) := BEq.comm
  rw [e9] at V6
  rw [e10] at V5
  obtain ⟨sb, hsb⟩ : ∃ sb, (lx == ly) = sb := ⟨_, rfl⟩
  rw [hsb] at V4 V5
  obtain ⟨tx, htx⟩ : ∃ tx, tokenL x = tx := ⟨_, rfl⟩
  obtain ⟨ty, hty⟩ : ∃ ty, tokenL y = ty := ⟨_, rfl⟩
  rw [htx] at T1 T3 T4 T5
  rw [hty] at T2 T4 T5
  have hb := Below.refl w.heap.size w
  clear hlx hly htx hty e9 e10 hsb
  cases tx <;> cases ty
  all_goals
    go_enter Tryd.func7, Tryd.ntmps7
    go_wp2_with (first
      | (go_at_call 9; with_reducible refine (C1.out _).mono ?_; rintro e w' ⟨rfl, rfl⟩)
      | (go_at_call 9; with_reducible refine (C2.out _).mono ?_; rintro e w' ⟨rfl, rfl⟩)
      | (go_at_call 12; with_reducible refine (V1.out _ (by assumption)).mono ?_; rintro e w' ⟨rfl, hb⟩)
      | (go_at_call 16; with_reducible refine (V2.out _ (by assumption)).mono ?_; rintro e w' ⟨rfl, hb⟩)
      | (go_at_call 16; with_reducible refine (V3.out _ (by assumption)).mono ?_; rintro e w' ⟨rfl, hb⟩)
      | (go_at_call 18; with_reducible refine (T1.out _ (by assumption)).mono ?_; rintro e w' ⟨rfl, hb⟩)
      | (go_at_call 18; with_reducible refine (T2.out _ (by assumption)).mono ?_; rintro e w' ⟨rfl, hb⟩)
      | (go_at_call 18; with_reducible refine (T3.out _ (by assumption)).mono ?_; rintro e w' ⟨rfl, hb⟩)
      | (go_at_call 18; with_reducible refine (T4.out trivial trivial _ (by assumption)).mono ?_; rintro e w' ⟨rfl, hb⟩)
      | (go_at_call 18; refine (T5.out trivial trivial _ (by simp) _ (by assumption)).mono ?_; rintro e w' ⟨rfl, hb⟩)
      | (go_at_call 20; with_reducible refine (V4.out _ (by assumption)).mono ?_; rintro e w' ⟨rfl, hb⟩)
      | (go_at_call 20; with_reducible refine (V5.out _ (by assumption)).mono ?_; rintro e w' ⟨rfl, hb⟩)
      | (go_at_call 20; with_reducible refine (V6.out _ (by assumption)).mono ?_; rintro e w' ⟨rfl, hb⟩))
    go_ret
    exact ⟨rfl, by assumption⟩
end Go.Proofs.YtigohbjbmipccaaDoor
