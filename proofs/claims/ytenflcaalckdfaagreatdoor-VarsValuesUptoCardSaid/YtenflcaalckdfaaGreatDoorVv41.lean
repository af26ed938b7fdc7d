/- A variable's value, the document's: the walk of Value. Printed by tools/docvalue.py. -/
import Derived.Test.YtenflcaalckdfaaGreatDoorVv40
namespace Go.Proofs.YtenflcaalckdfaaGreatDoor
open Go Go.RowKit Go.Sort Go.Shelf
set_option linter.unusedVariables false
set_option linter.unusedSimpArgs false

theorem val_host (e : En) (key : List UInt8) : valV e hostN key = onlyV e.host key  := if_pos rfl
theorem val_ref (e : En) (key : List UInt8) : valV e refN key = onlyV e.ref key  := (if_neg (by decide)).trans (if_pos rfl)
theorem val_agent (e : En) (key : List UInt8) : valV e agentN key = keyedV e.agent key (someV (agentK e.agent key)) := (if_neg (by decide)).trans ((if_neg (by decide)).trans (if_pos rfl))
theorem val_cookie (e : En) (key : List UInt8) : valV e cookieN key = keyedV e.cookie key (findV (cookiesL e.cookie) key) := (if_neg (by decide)).trans ((if_neg (by decide)).trans ((if_neg (by decide)).trans (if_pos rfl)))
theorem val_query (e : En) (key : List UInt8) : valV e queryN key = keyedV e.query key (findV (queryL e.query) key) := (if_neg (by decide)).trans ((if_neg (by decide)).trans ((if_neg (by decide)).trans ((if_neg (by decide)).trans (if_pos rfl))))
theorem val_lang (e : En) (key : List UInt8) : valV e langN' key = keyedV e.lang key (langV e.lang key) := (if_neg (by decide)).trans ((if_neg (by decide)).trans ((if_neg (by decide)).trans ((if_neg (by decide)).trans ((if_neg (by decide)).trans (if_pos rfl)))))

theorem langV_mem (s key : List UInt8) : langV s key = if lower key ∈ langsL s then ([116, 114, 117, 101], true) else ([102, 97, 108, 115, 101], true) := rfl
set_option maxHeartbeats 3200000 in
set_option maxRecDepth 100000 in
theorem docValue (e : En) (hf : e.few) (name key : List UInt8) (hk : key.length ≤ 1000000) (w : World) :
    Calls Tryz.prog 14 #[e.v, .string (S name), .string (S key)] w fun x w' => x = .returned (pairV (valV e name key)) ∧ Below w.heap.size w w' := by
  obtain ⟨q1, q2, q3, q4, q5, q6⟩ := hf
  have AG := Lib.hid (fun W => docAgent e.agent key (by omega) W)
  have CO := Lib.hid (fun W => refPCookies e.cookie (by omega) W)
  have QU := Lib.hid (fun W => refPQuery e.query (by omega) W)
  have LA := Lib.hid (fun W => refPLanguages e.lang (by omega) W)
  have FI := Lib.hid (fun v L W h => docFind v L key W h)
  have LO := Lib.hid (fun W => refLower key (by omega) W)
  clear q1 q2 q3 q4 q5 q6
  by_cases hke : key = []
  · subst hke
    clear AG CO QU LA FI LO
    by_cases h0 : name = hostN
    · subst h0
      rw [val_host]
      show Calls _ _ _ _ fun x w' => x = .returned (pairV (someV e.host)) ∧ _
      unfold someV
      obtain ⟨z, hz⟩ : ∃ z, e.host = z := ⟨_, rfl⟩
      rw [hz]
      cases hze : z.isEmpty with
      | true =>
        obtain rfl : z = [] := by simpa using hze
        unfold hostN
        go_enter Tryz.func14, Tryz.ntmps14
        go_wp2
        go_ret2
        exact ⟨rfl, by (repeat (first | with_reducible exact Below.refl _ _ | with_reducible assumption | with_reducible refine Below.drew ?_ | (with_reducible refine Below.setCell ?_ ?_ _; rotate_left; (first | omega | (simp <;> omega))) | (with_reducible refine Below.alloc ?_ ?_ _; rotate_left; (first | omega | (simp <;> omega))) | exact Below.refl _ _ | assumption))⟩
      | false =>
        have hzb : (z == []) = false := by cases z with | nil => simp at hze | cons a b => rfl
        unfold hostN
        go_enter Tryz.func14, Tryz.ntmps14
        go_wp2
        go_ret2
        exact ⟨rfl, by (repeat (first | with_reducible exact Below.refl _ _ | with_reducible assumption | with_reducible refine Below.drew ?_ | (with_reducible refine Below.setCell ?_ ?_ _; rotate_left; (first | omega | (simp <;> omega))) | (with_reducible refine Below.alloc ?_ ?_ _; rotate_left; (first | omega | (simp <;> omega))) | exact Below.refl _ _ | assumption))⟩
    · have b0 : (name == hostN) = false := by simpa using h0
      by_cases h1 : name = refN
      · subst h1
        rw [val_ref]
        show Calls _ _ _ _ fun x w' => x = .returned (pairV (someV e.ref)) ∧ _
        unfold someV
        obtain ⟨z, hz⟩ : ∃ z, e.ref = z := ⟨_, rfl⟩
        rw [hz]
        cases hze : z.isEmpty with
        | true =>
          obtain rfl : z = [] := by simpa using hze
          unfold refN
          go_enter Tryz.func14, Tryz.ntmps14
          go_wp2
          go_ret2
          exact ⟨rfl, by (repeat (first | with_reducible exact Below.refl _ _ | with_reducible assumption | with_reducible refine Below.drew ?_ | (with_reducible refine Below.setCell ?_ ?_ _; rotate_left; (first | omega | (simp <;> omega))) | (with_reducible refine Below.alloc ?_ ?_ _; rotate_left; (first | omega | (simp <;> omega))) | exact Below.refl _ _ | assumption))⟩
        | false =>
          have hzb : (z == []) = false := by cases z with | nil => simp at hze | cons a b => rfl
          unfold refN
          go_enter Tryz.func14, Tryz.ntmps14
          go_wp2
          go_ret2
          exact ⟨rfl, by (repeat (first | with_reducible exact Below.refl _ _ | with_reducible assumption | with_reducible refine Below.drew ?_ | (with_reducible refine Below.setCell ?_ ?_ _; rotate_left; (first | omega | (simp <;> omega))) | (with_reducible refine Below.alloc ?_ ?_ _; rotate_left; (first | omega | (simp <;> omega))) | exact Below.refl _ _ | assumption))⟩
      · have b1 : (name == refN) = false := by simpa using h1
        by_cases h2 : name = agentN
        · subst h2
          rw [val_agent]
          show Calls _ _ _ _ fun x w' => x = .returned (pairV (someV e.agent)) ∧ _
          unfold someV
          obtain ⟨z, hz⟩ : ∃ z, e.agent = z := ⟨_, rfl⟩
          rw [hz]
          cases hze : z.isEmpty with
          | true =>
            obtain rfl : z = [] := by simpa using hze
            unfold agentN
            go_enter Tryz.func14, Tryz.ntmps14
            go_wp2
            go_ret2
            exact ⟨rfl, by (repeat (first | with_reducible exact Below.refl _ _ | with_reducible assumption | with_reducible refine Below.drew ?_ | (with_reducible refine Below.setCell ?_ ?_ _; rotate_left; (first | omega | (simp <;> omega))) | (with_reducible refine Below.alloc ?_ ?_ _; rotate_left; (first | omega | (simp <;> omega))) | exact Below.refl _ _ | assumption))⟩
          | false =>
            have hzb : (z == []) = false := by cases z with | nil => simp at hze | cons a b => rfl
            unfold agentN
            go_enter Tryz.func14, Tryz.ntmps14
            go_wp2
            go_ret2
            exact ⟨rfl, by (repeat (first | with_reducible exact Below.refl _ _ | with_reducible assumption | with_reducible refine Below.drew ?_ | (with_reducible refine Below.setCell ?_ ?_ _; rotate_left; (first | omega | (simp <;> omega))) | (with_reducible refine Below.alloc ?_ ?_ _; rotate_left; (first | omega | (simp <;> omega))) | exact Below.refl _ _ | assumption))⟩
        · have b2 : (name == agentN) = false := by simpa using h2
          by_cases h3 : name = cookieN
          · subst h3
            rw [val_cookie]
            show Calls _ _ _ _ fun x w' => x = .returned (pairV (someV e.cookie)) ∧ _
            unfold someV
            obtain ⟨z, hz⟩ : ∃ z, e.cookie = z := ⟨_, rfl⟩
            rw [hz]
            cases hze : z.isEmpty with
            | true =>
              obtain rfl : z = [] := by simpa using hze
              unfold cookieN
              go_enter Tryz.func14, Tryz.ntmps14
              go_wp2
              go_ret2
              exact ⟨rfl, by (repeat (first | with_reducible exact Below.refl _ _ | with_reducible assumption | with_reducible refine Below.drew ?_ | (with_reducible refine Below.setCell ?_ ?_ _; rotate_left; (first | omega | (simp <;> omega))) | (with_reducible refine Below.alloc ?_ ?_ _; rotate_left; (first | omega | (simp <;> omega))) | exact Below.refl _ _ | assumption))⟩
            | false =>
              have hzb : (z == []) = false := by cases z with | nil => simp at hze | cons a b => rfl
              unfold cookieN
              go_enter Tryz.func14, Tryz.ntmps14
              go_wp2
              go_ret2
              exact ⟨rfl, by (repeat (first | with_reducible exact Below.refl _ _ | with_reducible assumption | with_reducible refine Below.drew ?_ | (with_reducible refine Below.setCell ?_ ?_ _; rotate_left; (first | omega | (simp <;> omega))) | (with_reducible refine Below.alloc ?_ ?_ _; rotate_left; (first | omega | (simp <;> omega))) | exact Below.refl _ _ | assumption))⟩
          · have b3 : (name == cookieN) = false := by simpa using h3
            by_cases h4 : name = queryN
            · subst h4
              rw [val_query]
              show Calls _ _ _ _ fun x w' => x = .returned (pairV (someV e.query)) ∧ _
              unfold someV
              obtain ⟨z, hz⟩ : ∃ z, e.query = z := ⟨_, rfl⟩
              rw [hz]
              cases hze : z.isEmpty with
              | true =>
                obtain rfl : z = [] := by simpa using hze
                unfold queryN
                go_enter Tryz.func14, Tryz.ntmps14
                go_wp2
                go_ret2
                exact ⟨rfl, by (repeat (first | with_reducible exact Below.refl _ _ | with_reducible assumption | with_reducible refine Below.drew ?_ | (with_reducible refine Below.setCell ?_ ?_ _; rotate_left; (first | omega | (simp <;> omega))) | (with_reducible refine Below.alloc ?_ ?_ _; rotate_left; (first | omega | (simp <;> omega))) | exact Below.refl _ _ | assumption))⟩
              | false =>
                have hzb : (z == []) = false := by cases z with | nil => simp at hze | cons a b => rfl
                unfold queryN
                go_enter Tryz.func14, Tryz.ntmps14
                go_wp2
                go_ret2
                exact ⟨rfl, by (repeat (first | with_reducible exact Below.refl _ _ | with_reducible assumption | with_reducible refine Below.drew ?_ | (with_reducible refine Below.setCell ?_ ?_ _; rotate_left; (first | omega | (simp <;> omega))) | (with_reducible refine Below.alloc ?_ ?_ _; rotate_left; (first | omega | (simp <;> omega))) | exact Below.refl _ _ | assumption))⟩
            · have b4 : (name == queryN) = false := by simpa using h4
              by_cases h5 : name = langN'
              · subst h5
                rw [val_lang]
                show Calls _ _ _ _ fun x w' => x = .returned (pairV (someV e.lang)) ∧ _
                unfold someV
                obtain ⟨z, hz⟩ : ∃ z, e.lang = z := ⟨_, rfl⟩
                rw [hz]
                cases hze : z.isEmpty with
                | true =>
                  obtain rfl : z = [] := by simpa using hze
                  unfold langN'
                  go_enter Tryz.func14, Tryz.ntmps14
                  go_wp2
                  go_ret2
                  exact ⟨rfl, by (repeat (first | with_reducible exact Below.refl _ _ | with_reducible assumption | with_reducible refine Below.drew ?_ | (with_reducible refine Below.setCell ?_ ?_ _; rotate_left; (first | omega | (simp <;> omega))) | (with_reducible refine Below.alloc ?_ ?_ _; rotate_left; (first | omega | (simp <;> omega))) | exact Below.refl _ _ | assumption))⟩
                | false =>
                  have hzb : (z == []) = false := by cases z with | nil => simp at hze | cons a b => rfl
                  unfold langN'
                  go_enter Tryz.func14, Tryz.ntmps14
                  go_wp2
                  go_ret2
                  exact ⟨rfl, by (repeat (first | with_reducible exact Below.refl _ _ | with_reducible assumption | with_reducible refine Below.drew ?_ | (with_reducible refine Below.setCell ?_ ?_ _; rotate_left; (first | omega | (simp <;> omega))) | (with_reducible refine Below.alloc ?_ ?_ _; rotate_left; (first | omega | (simp <;> omega))) | exact Below.refl _ _ | assumption))⟩
              · have b5 : (name == langN') = false := by simpa using h5
                have hv : valV e name [] = ([], false) := by unfold valV; rw [if_neg h0, if_neg h1, if_neg h2, if_neg h3, if_neg h4, if_neg h5]
                rw [hv]
                unfold hostN at b0
                unfold refN at b1
                unfold agentN at b2
                unfold cookieN at b3
                unfold queryN at b4
                unfold langN' at b5
                clear h0 h1 h2 h3 h4 h5
                go_enter Tryz.func14, Tryz.ntmps14
                go_wp2
                go_ret2
                exact ⟨rfl, by (repeat (first | with_reducible exact Below.refl _ _ | with_reducible assumption | with_reducible refine Below.drew ?_ | (with_reducible refine Below.setCell ?_ ?_ _; rotate_left; (first | omega | (simp <;> omega))) | (with_reducible refine Below.alloc ?_ ?_ _; rotate_left; (first | omega | (simp <;> omega))) | exact Below.refl _ _ | assumption))⟩
  · have hkb : (key == []) = false := by simpa using hke
    by_cases h0 : name = hostN
    · subst h0
      rw [val_host]
      have hr : onlyV e.host key = ([], false) := if_neg (by simpa using hke)
      rw [hr]
      unfold hostN
      go_enter Tryz.func14, Tryz.ntmps14
      go_wp2
      go_ret2
      exact ⟨rfl, by (repeat (first | with_reducible exact Below.refl _ _ | with_reducible assumption | with_reducible refine Below.drew ?_ | (with_reducible refine Below.setCell ?_ ?_ _; rotate_left; (first | omega | (simp <;> omega))) | (with_reducible refine Below.alloc ?_ ?_ _; rotate_left; (first | omega | (simp <;> omega))) | exact Below.refl _ _ | assumption))⟩
    · have b0 : (name == hostN) = false := by simpa using h0
      by_cases h1 : name = refN
      · subst h1
        rw [val_ref]
        have hr : onlyV e.ref key = ([], false) := if_neg (by simpa using hke)
        rw [hr]
        unfold refN
        go_enter Tryz.func14, Tryz.ntmps14
        go_wp2
        go_ret2
        exact ⟨rfl, by (repeat (first | with_reducible exact Below.refl _ _ | with_reducible assumption | with_reducible refine Below.drew ?_ | (with_reducible refine Below.setCell ?_ ?_ _; rotate_left; (first | omega | (simp <;> omega))) | (with_reducible refine Below.alloc ?_ ?_ _; rotate_left; (first | omega | (simp <;> omega))) | exact Below.refl _ _ | assumption))⟩
      · have b1 : (name == refN) = false := by simpa using h1
        by_cases h2 : name = agentN
        · subst h2
          rw [val_agent]
          have hr : keyedV e.agent key (someV (agentK e.agent key)) = (someV (agentK e.agent key)) := if_neg (by simpa using hke)
          rw [hr]
          unfold someV
          obtain ⟨z, hz⟩ : ∃ z, agentK e.agent key = z := ⟨_, rfl⟩
          rw [hz] at AG ⊢
          cases hze : z.isEmpty with
          | true =>
            obtain rfl : z = [] := by simpa using hze
            unfold agentN
            go_enter Tryz.func14, Tryz.ntmps14
            go_wp2_with (go_at_call 32; refine Calls.mono (AG.out _) ?_; rintro x w1 ⟨rfl, hb1⟩)
            go_ret2
            exact ⟨rfl, Below.trans (by (repeat (first | with_reducible exact Below.refl _ _ | with_reducible assumption | with_reducible refine Below.drew ?_ | (with_reducible refine Below.setCell ?_ ?_ _; rotate_left; (first | omega | (simp <;> omega))) | (with_reducible refine Below.alloc ?_ ?_ _; rotate_left; (first | omega | (simp <;> omega))) | exact Below.refl _ _ | assumption))) (hb1.mono (by simp))⟩
          | false =>
            have hzb : (z == []) = false := by cases z with | nil => simp at hze | cons a b => rfl
            unfold agentN
            go_enter Tryz.func14, Tryz.ntmps14
            go_wp2_with (go_at_call 32; refine Calls.mono (AG.out _) ?_; rintro x w1 ⟨rfl, hb1⟩)
            go_ret2
            exact ⟨rfl, Below.trans (by (repeat (first | with_reducible exact Below.refl _ _ | with_reducible assumption | with_reducible refine Below.drew ?_ | (with_reducible refine Below.setCell ?_ ?_ _; rotate_left; (first | omega | (simp <;> omega))) | (with_reducible refine Below.alloc ?_ ?_ _; rotate_left; (first | omega | (simp <;> omega))) | exact Below.refl _ _ | assumption))) (hb1.mono (by simp))⟩
        · have b2 : (name == agentN) = false := by simpa using h2
          by_cases h3 : name = cookieN
          · subst h3
            rw [val_cookie]
            have hr : keyedV e.cookie key (findV (cookiesL e.cookie) key) = (findV (cookiesL e.cookie) key) := if_neg (by simpa using hke)
            rw [hr]
            unfold cookieN
            go_enter Tryz.func14, Tryz.ntmps14
            go_wp2_with (first | (go_at_call 34; refine Calls.mono (CO.out _) ?_; rintro x w1 ⟨v1, rfl, hown, hb1⟩; have HR := Lib.hid hown.reads; clear hown) | (go_at_call 33; refine Calls.mono (FI.out _ _ _ HR.out) ?_; rintro x w2 ⟨rfl, hb2⟩) | fail)
            have hz1 := hb1.size
            simp at hz1
            go_ret2
            exact ⟨rfl, Below.trans (by (repeat (first | with_reducible exact Below.refl _ _ | with_reducible assumption | with_reducible refine Below.drew ?_ | (with_reducible refine Below.setCell ?_ ?_ _; rotate_left; (first | omega | (simp <;> omega))) | (with_reducible refine Below.alloc ?_ ?_ _; rotate_left; (first | omega | (simp <;> omega))) | exact Below.refl _ _ | assumption))) ((hb1.trans (hb2.mono hb1.size)).mono (by simp))⟩
          · have b3 : (name == cookieN) = false := by simpa using h3
            by_cases h4 : name = queryN
            · subst h4
              rw [val_query]
              have hr : keyedV e.query key (findV (queryL e.query) key) = (findV (queryL e.query) key) := if_neg (by simpa using hke)
              rw [hr]
              unfold queryN
              go_enter Tryz.func14, Tryz.ntmps14
              go_wp2_with (first | (go_at_call 35; refine Calls.mono (QU.out _) ?_; rintro x w1 ⟨v1, rfl, hown, hb1⟩; have HR := Lib.hid hown.reads; clear hown) | (go_at_call 33; refine Calls.mono (FI.out _ _ _ HR.out) ?_; rintro x w2 ⟨rfl, hb2⟩) | fail)
              have hz1 := hb1.size
              simp at hz1
              go_ret2
              exact ⟨rfl, Below.trans (by (repeat (first | with_reducible exact Below.refl _ _ | with_reducible assumption | with_reducible refine Below.drew ?_ | (with_reducible refine Below.setCell ?_ ?_ _; rotate_left; (first | omega | (simp <;> omega))) | (with_reducible refine Below.alloc ?_ ?_ _; rotate_left; (first | omega | (simp <;> omega))) | exact Below.refl _ _ | assumption))) ((hb1.trans (hb2.mono hb1.size)).mono (by simp))⟩
            · have b4 : (name == queryN) = false := by simpa using h4
              by_cases h5 : name = langN'
              · subst h5
                rw [val_lang]
                have hr : keyedV e.lang key (langV e.lang key) = (langV e.lang key) := if_neg (by simpa using hke)
                rw [hr]
                rw [langV_mem]
                obtain ⟨L, hL⟩ : ∃ L, langsL e.lang = L := ⟨_, rfl⟩
                rw [hL] at LA ⊢
                obtain ⟨lk, hlk⟩ : ∃ q, lower key = q := ⟨_, rfl⟩
                rw [hlk] at LO ⊢
                clear hL hlk
                obtain ⟨R, hR⟩ : ∃ R, (if lk ∈ L then (([116, 114, 117, 101] : List UInt8), true) else ([102, 97, 108, 115, 101], true)) = R := ⟨_, rfl⟩
                rw [hR]
                have HR := Lib.hid hR
                clear hR
                unfold langN'
                go_enter Tryz.func14, Tryz.ntmps14
                go_wp2_with (first | (go_at_call 36; refine Calls.mono (LA.out _) ?_; rintro x w1 ⟨v1, rfl, hown, hb1⟩; obtain ⟨ao, cap, rfl, hc1, hc2, hcell⟩ := hown.reads; have HC := Lib.hid hcell; clear hown hcell) | fail)
                have hm : maxLen = 9223372036854775807 := rfl
                rw [hm] at hc2
                clear hm
                have HB1 := Lib.hid (show Below w.heap.size w w1 from Below.trans (by (repeat (first | with_reducible exact Below.refl _ _ | with_reducible assumption | with_reducible refine Below.drew ?_ | (with_reducible refine Below.setCell ?_ ?_ _; rotate_left; (first | omega | (simp <;> omega))) | (with_reducible refine Below.alloc ?_ ?_ _; rotate_left; (first | omega | (simp <;> omega))) | exact Below.refl _ _ | assumption))) (hb1.mono (by simp)))
                have hz1 := hb1.size
                simp at hz1
                clear hb1
                try simp only [mk_S]
                go_loopw [76] (fun iv wr => ∃ j : Nat, iv = .int .i64 j ∧ j ≤ L.length ∧ (if lk ∈ L.drop j then (([116, 114, 117, 101] : List UInt8), true) else ([102, 97, 108, 115, 101], true)) = R ∧ Below w1.heap.size w1 wr) (fun iv _ => L.length - (intOf iv).toNat)
                case atStart => exact ⟨0, rfl, Nat.zero_le _, HR.out, Below.refl _ _⟩
                case round =>
                  obtain ⟨j, rfl, hj, hRj, hB⟩ := hrel
                  have HRJ := Lib.hid hRj
                  have HB := Lib.hid hB
                  have hzw := hB.size
                  clear hRj
                  by_cases hjl : j < L.length
                  · obtain ⟨b, off, rfl, hb, hcl⟩ := HC.out (by omega)
                    have e1 := hcl j hjl
                    rw [← hB.cell (p := ⟨b, off + j, none⟩) hb] at e1
                    have hdr : L.drop j = L[j] :: L.drop (j + 1) := List.drop_eq_getElem_cons hjl
                    obtain ⟨x, hx⟩ : ∃ x, L[j] = x := ⟨_, rfl⟩
                    rw [hx] at e1 hdr
                    clear hcl hx hB
                    by_cases hxl : x = lk
                    · have HR2 := HRJ.out
                      rw [hdr, if_pos (by rw [hxl]; simp)] at HR2
                      subst HR2
                      have hxb : (x == lk) = true := by simpa using hxl
                      clear hdr
                      go_wp2_with (first | (go_at_call 37; refine Calls.mono (LO.out _) ?_; rintro x w2 ⟨rfl, hb2⟩) | fail)
                      try rw [Exit.noGoto_ret]
                      go_ret2
                      exact ⟨rfl, HB1.out.trans ((HB.out.trans (hb2.mono (by omega))).mono (by omega))⟩
                    · have HR2 := Lib.hid (show (if lk ∈ L.drop (j + 1) then (([116, 114, 117, 101] : List UInt8), true) else ([102, 97, 108, 115, 101], true)) = R by have h := HRJ.out; rw [hdr] at h; simpa [Ne.symm hxl] using h)
                      have hxb : (x == lk) = false := by simpa using hxl
                      clear hdr
                      go_wp2_with (first | (go_at_call 37; refine Calls.mono (LO.out _) ?_; rintro x w2 ⟨rfl, hb2⟩; have HB2 := Lib.hid (HB.out.trans (hb2.mono (by omega))); clear hb2) | fail)
                      go_roundw
                      case rel => exact ⟨j + 1, by go_num, by omega, HR2.out, HB2.out⟩
                      case measure => simp [intOf]; omega
                  · obtain rfl : j = L.length := by omega
                    have HR2 := HRJ.out
                    rw [List.drop_length, if_neg (by simp)] at HR2
                    subst HR2
                    go_wp2
                    go_ret2
                    exact ⟨rfl, HB1.out.trans (HB.out.mono (by omega))⟩
              · have b5 : (name == langN') = false := by simpa using h5
                have hv : valV e name key = ([], false) := by unfold valV; rw [if_neg h0, if_neg h1, if_neg h2, if_neg h3, if_neg h4, if_neg h5]
                rw [hv]
                unfold hostN at b0
                unfold refN at b1
                unfold agentN at b2
                unfold cookieN at b3
                unfold queryN at b4
                unfold langN' at b5
                clear h0 h1 h2 h3 h4 h5
                go_enter Tryz.func14, Tryz.ntmps14
                go_wp2
                go_ret2
                exact ⟨rfl, by (repeat (first | with_reducible exact Below.refl _ _ | with_reducible assumption | with_reducible refine Below.drew ?_ | (with_reducible refine Below.setCell ?_ ?_ _; rotate_left; (first | omega | (simp <;> omega))) | (with_reducible refine Below.alloc ?_ ?_ _; rotate_left; (first | omega | (simp <;> omega))) | exact Below.refl _ _ | assumption))⟩
end Go.Proofs.YtenflcaalckdfaaGreatDoor
