/- An address is read the same, whatever letters its scheme and host are written in; a path that is not there is a slash: plain words. -/
import Derived.Test.YtpglgembgpoeiaaDoorBackMath3
import Derived.Lib.Case
namespace Go.Proofs.YtpglgembgpoeiaaDoor
set_option linter.unusedVariables false

theorem up_facts (c : UInt8) (h : hostB c = true) : slashAsk (Lib.upperB c) = false ∧ Lib.upperB c ≠ 58 ∧ lowB (Lib.upperB c) = c ∧ c.toNat < 128 := by
  have := all_bytes (p := fun c => hostB c = true → slashAsk (Lib.upperB c) = false ∧ Lib.upperB c ≠ 58 ∧ lowB (Lib.upperB c) = c ∧ c.toNat < 128) (by decide +kernel) c h
  exact this
theorem place_any (g h : List UInt8) (n : Nat) (hlow : lower g = h) (hno : (58 : UInt8) ∉ g) (hn : n ≤ 65535) : placeH (hostPort g n) = h ∧ placeN (hostPort g n) = n ∧ placeB (hostPort g n) = true := by
  by_cases h0 : n = 0
  · subst h0
    have hl : lastL g 58 = -1 := lastL_no g 58 hno
    unfold hostPort placeH placeN placeB
    rw [if_pos rfl, List.append_nil, hl, hlow]
    simp
  · have hd : (58 : UInt8) ∉ Lib.decDigits n := fun hm => (dig_facts 58 ((digits_good n).2.2.2 58 hm)).2.1 rfl
    have hl : lastL (g ++ 58 :: Lib.decDigits n) 58 = g.length := lastL_at _ _ _ hd
    have hdl := digits_len 4 n (by omega)
    have hdr : (g ++ 58 :: Lib.decDigits n).drop (g.length + 1) = Lib.decDigits n := by rw [List.drop_append]; simp
    have hlen : (g ++ 58 :: Lib.decDigits n).length = g.length + (Lib.decDigits n).length + 1 := by simp; omega
    unfold hostPort placeH placeN placeB placeR
    rw [if_neg h0, hl, Int.toNat_natCast, hdr, read_digits n hn]
    refine ⟨?_, ?_, ?_⟩
    · rw [if_neg (by omega), ← lower_take, List.take_left, hlow]
    · rw [if_neg (by omega)]
    · rw [hlen]
      simp
      omega
theorem up_begin (r : List UInt8) : httpB (Lib.toUpperA httpL ++ r) = true := by
  unfold httpB
  have h1 : (Lib.toUpperA httpL ++ r).take 7 = Lib.toUpperA httpL := List.take_left (l₁ := Lib.toUpperA httpL)
  rw [h1, List.length_append, show (Lib.toUpperA httpL).length = 7 from rfl, show lower (Lib.toUpperA httpL) = httpL from by decide]
  simp
theorem endOf_all (a : List UInt8) (h : ∀ c ∈ a, slashAsk c = false) : endOf a = a.length := by
  have key : Lib.indexAny a [47, 63] = -1 := by
    induction a with
    | nil => rfl
    | cons b a ih =>
      unfold Lib.indexAny
      show (if slashAsk b = true then _ else _) = _
      rw [if_neg (by rw [h b (by simp)]; simp), ih (fun c hc => h c (by simp [hc]))]
      simp
  unfold endOf
  rw [key, if_pos (by omega)]

/-- What is written, in its parts. -/
theorem write_parts (u : UU) (hok : u.ok = true) (ha : u.a = true) : ∃ (m : Nat) (x : List UInt8), u.n = m ∧ m ≤ 65535 ∧ u.p = 47 :: x ∧ (∀ c ∈ u.h, hostB c = true) ∧ hostL u.h = true ∧ (63 : UInt8) ∉ u.p ∧ (u.q = true ∨ u.y = []) ∧
    writeL u.a u.h u.n.toNat u.p u.q u.y = (httpL ++ u.h) ++ ((if m = 0 then [] else 58 :: Lib.decDigits m) ++ 47 :: (x ++ (if u.q then 63 :: u.y else []))) ∧ (writeL u.a u.h u.n.toNat u.p u.q u.y).length ≤ 500 := by
  have hr := (ok_iff u).1 hok
  obtain ⟨x, hx⟩ := abs_path u hok ha
  obtain ⟨a, h, n, p, q, y⟩ := u
  obtain rfl : a = true := ha
  obtain rfl : p = 47 :: x := hx
  have hH : hostL h = true := by
    have := hr.host
    simp only [if_true, Bool.and_eq_true] at this
    exact this.1
  have hh : ∀ c ∈ h, hostB c = true := by
    have := hr.host
    simp only [if_true, Bool.and_eq_true, hostL] at this
    exact fun c hc => List.all_eq_true.1 this.1.2 c hc
  obtain ⟨m, hm⟩ : ∃ m : Nat, n = m := ⟨n.toNat, by have := hr.n0; simp only at this; omega⟩
  subst hm
  have hm1 : m ≤ 65535 := by have := hr.n1; simp only at this; omega
  refine ⟨m, x, rfl, hm1, rfl, hh, hH, hr.pq, hr.qy, ?_, hr.len⟩
  unfold writeL
  simp
theorem up_app (a b : List UInt8) : Lib.toUpperA (a ++ b) = Lib.toUpperA a ++ Lib.toUpperA b := List.map_append
theorem lower_up (h : List UInt8) (hh : ∀ c ∈ h, hostB c = true) : lower (Lib.toUpperA h) = h := by
  unfold lower Lib.toUpperA
  rw [List.map_map]
  conv => rhs; rw [← List.map_id h]
  exact List.map_congr_left fun c hc => (up_facts c (hh c hc)).2.2.1
/-- Its scheme and host in great letters: it is read the same. -/
theorem parse_up (u : UU) (hok : u.ok = true) (ha : u.a = true) : parseL (Lib.toUpperA ((writeL u.a u.h u.n.toNat u.p u.q u.y).take (7 + u.h.length)) ++ (writeL u.a u.h u.n.toNat u.p u.q u.y).drop (7 + u.h.length)) = (u, 0) := by
  obtain ⟨m, x, h1, h2, h3, h4, h5, h6, h7, h8, h9⟩ := write_parts u hok ha
  rw [h8] at h9 ⊢
  have hl7 : (httpL ++ u.h).length = 7 + u.h.length := by rw [List.length_append]; rfl
  rw [List.take_left' hl7, List.drop_left' hl7, up_app]
  obtain ⟨g, hg⟩ : ∃ g, Lib.toUpperA u.h = g := ⟨_, rfl⟩
  have hlow : lower g = u.h := by rw [← hg]; exact lower_up u.h h4
  have hmem : ∀ c ∈ g, slashAsk c = false ∧ c ≠ 58 := by
    intro c hc
    rw [← hg] at hc
    obtain ⟨d, hd, rfl⟩ := List.mem_map.1 hc
    exact ⟨(up_facts d (h4 d hd)).1, (up_facts d (h4 d hd)).2.1⟩
  have hgl : g.length = u.h.length := by rw [← hg]; simp [Lib.toUpperA]
  rw [hg]
  obtain ⟨Q, hQ⟩ : ∃ Q : List UInt8, (if u.q then 63 :: u.y else []) = Q := ⟨_, rfl⟩
  rw [hQ] at h9 ⊢
  have hT : Lib.toUpperA httpL ++ g ++ ((if m = 0 then [] else 58 :: Lib.decDigits m) ++ 47 :: (x ++ Q)) = Lib.toUpperA httpL ++ (hostPort g m ++ 47 :: (x ++ Q)) := by unfold hostPort; simp
  rw [hT]
  have hlen : (Lib.toUpperA httpL ++ (hostPort g m ++ 47 :: (x ++ Q))).length ≤ 500 := by
    refine Nat.le_trans (Nat.le_of_eq ?_) h9
    unfold hostPort
    simp only [List.length_append, hgl, show (Lib.toUpperA httpL).length = httpL.length from rfl]
    omega
  have hd7 : (Lib.toUpperA httpL ++ (hostPort g m ++ 47 :: (x ++ Q))).drop 7 = hostPort g m ++ 47 :: (x ++ Q) := List.drop_left (l₁ := Lib.toUpperA httpL)
  have hask : ∀ c ∈ hostPort g m, slashAsk c = false := by
    intro c hc
    unfold hostPort at hc
    rcases List.mem_append.1 hc with hc | hc
    · exact (hmem c hc).1
    · split at hc
      · cases hc
      · rcases List.mem_cons.1 hc with rfl | hc
        · decide
        · exact (dig_facts c ((digits_good m).2.2.2 c hc)).1
  have he := endOf_at (hostPort g m) (x ++ Q) hask
  have htk : (hostPort g m ++ 47 :: (x ++ Q)).take (endOf (hostPort g m ++ 47 :: (x ++ Q))) = hostPort g m := by rw [he, List.take_left]
  have hdr : (hostPort g m ++ 47 :: (x ++ Q)).drop (endOf (hostPort g m ++ 47 :: (x ++ Q))) = 47 :: (x ++ Q) := by rw [he, List.drop_left]
  have htl : tailOf (hostPort g m ++ 47 :: (x ++ Q)) = 47 :: x ++ Q := by
    rw [tailOf_ref, hdr, if_pos (head_to _)]; rfl
  obtain ⟨p1, p2, p3⟩ := place_any g u.h m hlow (fun hm => (hmem _ hm).2 rfl) h2
  have hab : absOf (hostPort g m ++ 47 :: (x ++ Q)) = u := by
    unfold absOf
    rw [htk, htl, ← hQ, cut_back (47 :: x) u.y u.q (h3 ▸ h6) h7, p1, p2, ← h3, ← h1]
    obtain ⟨a, h, n, p, q, y⟩ := u
    obtain rfl : a = true := ha
    rfl
  unfold parseL
  rw [if_neg (by omega), up_begin, if_pos rfl, hd7, htk, p3, hab, hok]
  rfl
/-- Its scheme and host alone: its path is a slash. -/
theorem parse_host (u : UU) (hok : u.ok = true) (ha : u.a = true) : parseL ((writeL u.a u.h u.n.toNat u.p u.q u.y).take (7 + u.h.length)) = (⟨true, u.h, 0, [47], false, []⟩, 0) := by
  obtain ⟨m, x, h1, h2, h3, h4, h5, h6, h7, h8, h9⟩ := write_parts u hok ha
  rw [h8] at h9 ⊢
  have hl7 : (httpL ++ u.h).length = 7 + u.h.length := by rw [List.length_append]; rfl
  rw [List.take_left' hl7]
  have hlen : (httpL ++ u.h).length + 1 ≤ 500 := by
    simp only [List.length_append, List.length_cons] at h9 ⊢
    omega
  have hask : ∀ c ∈ u.h, slashAsk c = false := fun c hc => (host_facts c (h4 c hc)).1
  have hd7 : (httpL ++ u.h).drop 7 = u.h := List.drop_left (l₁ := httpL)
  have he := endOf_all u.h hask
  obtain ⟨p1, p2, p3⟩ := place_any u.h u.h 0 (lower_same fun c hc => (host_facts c (h4 c hc)).2.2) (fun hm => (host_facts _ (h4 _ hm)).2.1 rfl) (by omega)
  have hp0 : hostPort u.h 0 = u.h := by unfold hostPort; simp
  rw [hp0] at p1 p2 p3
  have htl : tailOf u.h = [47] := by
    unfold tailOf
    rw [he, List.drop_length, if_pos (.inl rfl)]
  have hab : absOf u.h = ⟨true, u.h, 0, [47], false, []⟩ := by
    unfold absOf
    rw [he, List.take_length, p1, p2, htl]
    rfl
  have hW : writeL true u.h (0 : Int).toNat [47] false [] = (httpL ++ u.h) ++ [47] := by unfold writeL; simp
  have hok2 : UU.ok ⟨true, u.h, 0, [47], false, []⟩ = true := by
    refine (ok_iff _).2 ⟨?_, ?_, ?_, .inr rfl, by show (0 : Int) ≤ 0; omega, by show (0 : Int) ≤ 65535; omega, ?_, ?_⟩
    · intro c hc
      obtain rfl : c = 47 := by simpa using hc
      rfl
    · intro c hc; cases hc
    · show (63 : UInt8) ∉ [47]; decide
    · show (writeL true u.h (0 : Int).toNat [47] false []).length ≤ 500
      rw [hW, List.length_append]; exact hlen
    · show (hostL u.h && Lib.hasPrefix [47] [47]) = true
      rw [h5]; rfl
  unfold parseL
  rw [if_neg (by omega), http_begin, if_pos rfl, hd7, he, List.take_length, p3, hab, hok2]
  rfl
theorem write_long (u : UU) (hok : u.ok = true) (ha : u.a = true) : 7 + u.h.length ≤ (writeL u.a u.h u.n.toNat u.p u.q u.y).length ∧ (writeL u.a u.h u.n.toNat u.p u.q u.y).length ≤ 500 ∧ ∀ b ∈ (writeL u.a u.h u.n.toNat u.p u.q u.y).take (7 + u.h.length), b.toNat < 128 := by
  obtain ⟨m, x, h1, h2, h3, h4, h5, h6, h7, h8, h9⟩ := write_parts u hok ha
  have hl7 : (httpL ++ u.h).length = 7 + u.h.length := by rw [List.length_append]; rfl
  refine ⟨?_, h9, ?_⟩
  · rw [h8, List.length_append, hl7]; omega
  · rw [h8, List.take_left' hl7]
    intro b hb
    rcases List.mem_append.1 hb with hb | hb
    · have : ∀ b ∈ httpL, b.toNat < 128 := by decide
      exact this b hb
    · exact (up_facts b (h4 b hb)).2.2.2
end Go.Proofs.YtpglgembgpoeiaaDoor
