/- What is written is read again: plain words (first part). What is written is read again: addresses with a host. Plain words. -/
import Derived.Test.YtgjemgilanhdiaaGreatDoorRf18
import Derived.Test.YtgjemgilanhdiaaGreatDoorRf19
import Derived.Test.YtgjemgilanhdiaaGreatDoorRf11
namespace Go.Proofs.YtgjemgilanhdiaaGreatDoor
set_option linter.unusedVariables false

theorem parse_bad (s : List UInt8) (h : (parseL s).2 ≠ 0) : (parseL s).1 = UU.nil := by
  unfold parseL at h ⊢
  split
  · rfl
  · rename_i h1
    rw [if_neg h1] at h
    split
    · rename_i h2
      rw [if_pos h2] at h
      split
      · rename_i h3; rw [if_pos h3] at h; exact absurd rfl h
      · rfl
    · rename_i h2
      rw [if_neg h2] at h
      split
      · rename_i h3; rw [if_pos h3] at h; exact absurd rfl h
      · rfl
theorem parse_good (s : List UInt8) (h : (parseL s).2 = 0) : (parseL s).1.ok = true := by
  unfold parseL at h ⊢
  split at h
  · cases h
  · rename_i h1
    rw [if_neg h1]
    split at h
    · rename_i h2
      rw [if_pos h2]
      split at h
      · rename_i h3
        rw [if_pos h3]
        simp only [Bool.and_eq_true] at h3
        exact h3.2
      · cases h
    · rename_i h2
      rw [if_neg h2]
      split at h
      · rename_i h3; rw [if_pos h3]; exact h3
      · cases h

theorem idx_at (a r : List UInt8) (c : UInt8) (h : c ∉ a) : Lib.indexByte (a ++ c :: r) c = a.length := by
  have h0 := Lib.indexByte_ge (a ++ c :: r) c
  have hne : Lib.indexByte (a ++ c :: r) c ≠ -1 := fun e => Lib.indexByte_none e a.length (by simp)
  obtain ⟨i, hi⟩ : ∃ i : Nat, Lib.indexByte (a ++ c :: r) c = i := ⟨(Lib.indexByte (a ++ c :: r) c).toNat, by omega⟩
  obtain ⟨h1, h2⟩ := Lib.indexByte_some hi
  rw [hi]
  rcases Nat.lt_trichotomy i a.length with h3 | h3 | h3
  · rw [List.getElem?_append_left h3] at h1
    exact absurd (List.mem_of_getElem? h1) h
  · rw [h3]
  · exact absurd (by simp) (h2 a.length h3)
theorem cut_back (p y : List UInt8) (q : Bool) (hp : (63 : UInt8) ∉ p) (hq : q = true ∨ y = []) : cut1 (p ++ (if q then 63 :: y else [])) 63 = (p, y, q) := by
  cases q with
  | true =>
    simp only [if_true]
    unfold cut1
    rw [idx_at p y 63 hp, if_pos (by omega), Int.toNat_natCast, List.take_left, List.drop_append]
    simp
  | false =>
    have hy : y = [] := by simpa using hq
    subst hy
    simp only [Bool.false_eq_true, if_false, List.append_nil]
    unfold cut1
    rw [if_neg (by have := idx_neg.2 hp; omega)]

theorem endOf_at (a r : List UInt8) (h : ∀ c ∈ a, slashAsk c = false) : endOf (a ++ 47 :: r) = a.length := by
  have key : Lib.indexAny (a ++ 47 :: r) [47, 63] = a.length := by
    induction a with
    | nil => rfl
    | cons b a ih =>
      rw [List.cons_append]
      unfold Lib.indexAny
      show (if slashAsk b = true then _ else _) = _
      rw [if_neg (by rw [h b (by simp)]; simp), ih (fun c hc => h c (by simp [hc])), if_neg (by simp)]
      simp
  unfold endOf
  rw [key, if_neg (by omega), Int.toNat_natCast]
end Go.Proofs.YtgjemgilanhdiaaGreatDoor
namespace Go.Proofs.YtgjemgilanhdiaaGreatDoor
set_option linter.unusedVariables false

def digB (c : UInt8) : Bool := decide (48 ≤ c.toNat) && decide (c.toNat ≤ 57)
theorem decDigits_step {u : Nat} (h : ¬ u < 10) : ∃ c : UInt8, Lib.decDigits u = Lib.decDigits (u / 10) ++ [c] ∧ decV c.toNat = u % 10 ∧ digB c = true := by
  refine ⟨UInt8.ofNat (48 + u % 10), by rw [Lib.decDigits, dif_neg h], ?_, ?_⟩
  · have : ∀ d : Fin 10, decV (UInt8.ofNat (48 + d.val)).toNat = d.val := by decide
    exact this ⟨u % 10, by omega⟩
  · have : ∀ d : Fin 10, digB (UInt8.ofNat (48 + d.val)) = true := by decide
    exact this ⟨u % 10, by omega⟩
theorem decDigits_first {u : Nat} (h : u < 10) : ∃ c : UInt8, Lib.decDigits u = [c] ∧ decV c.toNat = u ∧ digB c = true := by
  refine ⟨UInt8.ofNat (48 + u), Lib.decDigits_one h, ?_, ?_⟩
  · have : ∀ d : Fin 10, decV (UInt8.ofNat (48 + d.val)).toNat = d.val := by decide
    exact this ⟨u, h⟩
  · have : ∀ d : Fin 10, digB (UInt8.ofNat (48 + d.val)) = true := by decide
    exact this ⟨u, h⟩
theorem digits_good (n : Nat) : valN decV 10 (Lib.decDigits n) = n ∧ badN decV 10 (Lib.decDigits n) = false ∧ Lib.decDigits n ≠ [] ∧ ∀ c ∈ Lib.decDigits n, digB c = true := by
  induction n using Nat.strongRecOn with
  | ind n ih =>
    by_cases h : n < 10
    · obtain ⟨c, e, h1, h2⟩ := decDigits_first h
      rw [e]
      refine ⟨by simp [valN, h1], by simp [badN, h1]; omega, by simp, fun d hd => ?_⟩
      obtain rfl : d = c := by simpa using hd
      exact h2
    · obtain ⟨i1, i2, i3, i4⟩ := ih (n / 10) (by omega)
      obtain ⟨c, e, h1, h2⟩ := decDigits_step h
      rw [e]
      refine ⟨by rw [valN_snoc, i1, h1]; omega, by rw [badN_snoc, i2, h1]; simp; omega, by simp, fun d hd => ?_⟩
      rcases List.mem_append.1 hd with hd | hd
      · exact i4 d hd
      · obtain rfl : d = c := by simpa using hd
        exact h2
theorem digits_len (k : Nat) : ∀ n, n < 10 ^ (k + 1) → (Lib.decDigits n).length ≤ k + 1 := by
  induction k with
  | zero => intro n h; obtain ⟨c, e, _⟩ := decDigits_first (by simpa using h : n < 10); rw [e]; simp
  | succ k ih =>
    intro n h
    by_cases h10 : n < 10
    · obtain ⟨c, e, _⟩ := decDigits_first h10; rw [e]; simp
    · obtain ⟨c, e, _⟩ := decDigits_step h10
      have := ih (n / 10) (by rw [Nat.pow_succ] at h; omega)
      rw [e, List.length_append]
      simp; omega
theorem read_digits (n : Nat) (hn : n ≤ 65535) : readN decV 10 (Lib.decDigits n) = (n, 0) := by
  obtain ⟨h1, h2, h3, _⟩ := digits_good n
  rw [readN_ok h3 h2 (by rw [h1]; omega), h1]

theorem dig_facts (c : UInt8) (h : digB c = true) : slashAsk c = false ∧ c ≠ 58 ∧ lowB c = c := by
  have := all_bytes (p := fun c => digB c = true → slashAsk c = false ∧ c ≠ 58 ∧ lowB c = c) (by decide +kernel) c h
  exact this
theorem host_facts (c : UInt8) (h : hostB c = true) : slashAsk c = false ∧ c ≠ 58 ∧ lowB c = c := by
  have := all_bytes (p := fun c => hostB c = true → slashAsk c = false ∧ c ≠ 58 ∧ lowB c = c) (by decide +kernel) c h
  exact this
theorem lower_same {l : List UInt8} (h : ∀ c ∈ l, lowB c = c) : lower l = l := by
  unfold lower
  conv => rhs; rw [← List.map_id l]
  exact List.map_congr_left fun c hc => h c hc
theorem lastL_no (l : List UInt8) (c : UInt8) (h : c ∉ l) : lastL l c = -1 := by
  have := lastL_miss [] l c h
  rw [List.nil_append] at this
  exact this.trans (lastL_nil c)
def hostPort (h : List UInt8) (n : Nat) : List UInt8 := h ++ (if n = 0 then [] else 58 :: Lib.decDigits n)
theorem place_back (h : List UInt8) (n : Nat) (hh : ∀ c ∈ h, hostB c = true) (hn : n ≤ 65535) : placeH (hostPort h n) = h ∧ placeN (hostPort h n) = n ∧ placeB (hostPort h n) = true := by
  have hno : (58 : UInt8) ∉ h := fun hm => (host_facts 58 (hh 58 hm)).2.1 rfl
  have hlow : lower h = h := lower_same fun c hc => (host_facts c (hh c hc)).2.2
  by_cases h0 : n = 0
  · subst h0
    have hl : lastL h 58 = -1 := lastL_no h 58 hno
    unfold hostPort placeH placeN placeB
    rw [if_pos rfl, List.append_nil, hl, hlow]
    simp
  · have hd : (58 : UInt8) ∉ Lib.decDigits n := fun hm => (dig_facts 58 ((digits_good n).2.2.2 58 hm)).2.1 rfl
    have hl : lastL (h ++ 58 :: Lib.decDigits n) 58 = h.length := lastL_at _ _ _ hd
    have hdl := digits_len 4 n (by omega)
    have hdr : (h ++ 58 :: Lib.decDigits n).drop (h.length + 1) = Lib.decDigits n := by rw [List.drop_append]; simp
    have hlen : (h ++ 58 :: Lib.decDigits n).length = h.length + (Lib.decDigits n).length + 1 := by simp; omega
    unfold hostPort placeH placeN placeB placeR
    rw [if_neg h0, hl, Int.toNat_natCast, hdr, read_digits n hn]
    refine ⟨?_, ?_, ?_⟩
    · rw [if_neg (by omega), ← lower_take, List.take_left, hlow]
    · rw [if_neg (by omega)]
    · rw [hlen]
      simp
      omega

theorem hostPort_ask (h : List UInt8) (n : Nat) (hh : ∀ c ∈ h, hostB c = true) : ∀ c ∈ hostPort h n, slashAsk c = false := by
  intro c hc
  unfold hostPort at hc
  rcases List.mem_append.1 hc with hc | hc
  · exact (host_facts c (hh c hc)).1
  · split at hc
    · cases hc
    · rcases List.mem_cons.1 hc with rfl | hc
      · decide
      · exact (dig_facts c ((digits_good n).2.2.2 c hc)).1
theorem http_begin (r : List UInt8) : httpB (httpL ++ r) = true := by
  unfold httpB
  have h1 : (httpL ++ r).take 7 = httpL := List.take_left (l₁ := httpL)
  rw [h1, lower_http, List.length_append, show httpL.length = 7 from rfl]
  simp
theorem write_back_abs (u : UU) (hok : u.ok = true) (ha : u.a = true) : parseL (writeL u.a u.h u.n.toNat u.p u.q u.y) = (u, 0) := by
  have hr := (ok_iff u).1 hok
  obtain ⟨x, hx⟩ := abs_path u hok ha
  obtain ⟨a, h, n, p, q, y⟩ := u
  obtain rfl : a = true := ha
  obtain rfl : p = 47 :: x := hx
  have hh : ∀ c ∈ h, hostB c = true := by
    have := hr.host
    simp only [if_true, Bool.and_eq_true, hostL] at this
    exact fun c hc => List.all_eq_true.1 this.1.2 c hc
  obtain ⟨m, hm⟩ : ∃ m : Nat, n = m := ⟨n.toNat, by have := hr.n0; simp only at this; omega⟩
  subst hm
  have hm1 : m ≤ 65535 := by have := hr.n1; simp only at this; omega
  obtain ⟨Q, hQ⟩ : ∃ Q : List UInt8, (if q then 63 :: y else []) = Q := ⟨_, rfl⟩
  have hW : writeL true h (m : Int).toNat (47 :: x) q y = httpL ++ (hostPort h m ++ 47 :: (x ++ Q)) := by
    unfold writeL hostPort
    rw [hQ, Int.toNat_natCast]
    simp
  have hlen := hr.len
  simp only at hlen ⊢
  rw [hW] at hlen ⊢
  have hd7 : (httpL ++ (hostPort h m ++ 47 :: (x ++ Q))).drop 7 = hostPort h m ++ 47 :: (x ++ Q) := List.drop_left (l₁ := httpL)
  have he := endOf_at (hostPort h m) (x ++ Q) (hostPort_ask h m hh)
  have htk : (hostPort h m ++ 47 :: (x ++ Q)).take (endOf (hostPort h m ++ 47 :: (x ++ Q))) = hostPort h m := by rw [he, List.take_left]
  have hdr : (hostPort h m ++ 47 :: (x ++ Q)).drop (endOf (hostPort h m ++ 47 :: (x ++ Q))) = 47 :: (x ++ Q) := by rw [he, List.drop_left]
  have htl : tailOf (hostPort h m ++ 47 :: (x ++ Q)) = 47 :: x ++ Q := by
    rw [tailOf_ref, hdr, if_pos (head_to _)]; rfl
  obtain ⟨p1, p2, p3⟩ := place_back h m hh hm1
  have hab : absOf (hostPort h m ++ 47 :: (x ++ Q)) = ⟨true, h, m, 47 :: x, q, y⟩ := by
    unfold absOf
    rw [htk, htl, ← hQ, cut_back (47 :: x) y q hr.pq hr.qy, p1, p2]
  unfold parseL
  rw [if_neg (by omega), http_begin, if_pos rfl, hd7, htk, p3, hab, hok]
  rfl
end Go.Proofs.YtgjemgilanhdiaaGreatDoor
