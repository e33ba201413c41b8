/-
  Known returns what the reference returns; what was known of what was known: the law's walk.
-/
import Derived.Test.YtnphlekailodkaaGreatDoorKn
namespace Go.Proofs.YtnphlekailodkaaGreatDoor
open Go.RowKit

/-- An own row of entries, ready to be read. -/
theorem own_known {w : World} {base m : Nat} {v : Value} {k : List Pe.Ent} (h : w.ownsRow base 31 10 v m (eRow k)) (hm : m = k.length) (hok : ∀ x ∈ k, EOk x) : ∃ B cB, v = .slice B m cB ∧ m ≤ cB ∧ (B = none → m = 0) ∧ EntsAt w B m k := by
  obtain ⟨B, cB, rfl, hE⟩ := own_ents h hm hok
  obtain ⟨_, _, e, hlc, _⟩ := own_shape h
  have hlc : m ≤ cB := by injection e with _ _ e3; rw [e3]; exact hlc
  refine ⟨B, cB, rfl, hlc, fun hB => ?_, hE⟩
  by_cases h0 : m = 0
  · exact h0
  · obtain ⟨g, cap, hv, _⟩ := own_form h (by omega)
    rw [hB] at hv
    cases hv

set_option maxRecDepth 1000000 in
set_option maxHeartbeats 8000000 in
theorem known_law (A : Option Addr) (n c : Nat) (l : List Pe.Ent) (d o : Int) (w : World) (h : EntsAt w A n l) (hc : n ≤ c) (hA : A = none → n = 0) (hn : n * 88 ≤ 140737488355328) (hL : Laid w) :
    Calls Tryz.prog 3 #[.slice A n c, .int .i64 d, .int .i64 o] w (Law w) := by
  have hk := fun e w0 (hb : Below w.heap.size w w0) => Known_calls A n c l e w0 (h.below hb) hc hA hn
  have hr := rKnown_calls A n c l d
  have HK := Lib.hid hk
  have H := Lib.hid (And.intro h (And.intro hL (And.intro hn hr)))
  clear h hc hA hn hL hk hr
  obtain ⟨k, hk⟩ : ∃ k, k = Pe.known l d := ⟨_, rfl⟩
  have hk1 := HK.out d w (Below.refl _ _)
  have hk2 := fun w0 (hb : Below w.heap.size w w0) => H.out.2.2.2 w0 (H.out.1.below hb) H.out.2.2.1
  rw [← hk] at hk1 hk2
  obtain ⟨m, hm⟩ : ∃ m, m = k.length := ⟨_, rfl⟩
  rw [← hm] at hk1 hk2
  have HK1 := Lib.hid (And.intro hk1 (And.intro hk2 (And.intro hm (And.intro hk (show ∀ x ∈ k, EOk x from fun x hx => H.out.1.ok x (Pe.known_mem (by rw [← hk]; exact hx)))))))
  clear hk1 hk2 hm hk
  go_enter Tryz.func3, Tryz.ntmps3
  go_wp2_with fail
  refine HK1.out.1.mono ?_
  rintro e w1 ⟨v, rfl, hown, hb1⟩
  obtain ⟨B, cB, rfl, hlc, hBn, hE⟩ := own_known hown HK1.out.2.2.1 HK1.out.2.2.2.2
  have H1 := Lib.hid (And.intro hb1 (And.intro hE (And.intro hlc hBn)))
  clear hown hb1 hE hlc hBn
  dsimp only
  go_wp2_with fail
  refine (HK1.out.2.1 w1 H1.out.1).mono ?_
  rintro e w2 ⟨v, rfl, hown, hb2⟩
  obtain ⟨C, cC, rfl, _, _, hE⟩ := own_known hown HK1.out.2.2.1 HK1.out.2.2.2.2
  have H2 := Lib.hid (And.intro (H1.out.1.trans (hb2.mono H1.out.1.size)) (And.intro (H1.out.2.1.below hb2) hE))
  clear hown hb2 hE
  dsimp only
  have hs := SameEntries_calls B C m cB m cC k k w2 H2.out.2.1 H2.out.2.2
  rw [show decide (k = k) = true by simp] at hs
  have HS := Lib.hid hs
  clear hs
  go_wp2_with fail
  refine HS.out.mono ?_
  rintro e w3 ⟨rfl, hb3⟩
  have H3 := Lib.hid (And.intro (H2.out.1.trans (hb3.mono H2.out.1.size)) (H2.out.2.1.below hb3))
  clear hb3
  dsimp only
  go_wp2_with fail
  refine (alive_calls w3 (H.out.2.1.below H3.out.1)).mono ?_
  rintro e w4 ⟨rfl, hb4⟩
  have H4 := Lib.hid (And.intro (H3.out.1.trans (hb4.mono H3.out.1.size)) (H3.out.2.below hb4))
  clear hb4
  dsimp only
  obtain ⟨q, hq⟩ : ∃ q, q = Pe.known k o := ⟨_, rfl⟩
  obtain ⟨mq, hmq⟩ : ∃ mq, mq = q.length := ⟨_, rfl⟩
  have hkq := Known_calls B m cB k o w4 H4.out.2 H1.out.2.2.1 H1.out.2.2.2 (by have h1 := Pe.known_le l d; have h2 := HK1.out.2.2.1; have h3 := HK1.out.2.2.2.1; have h4 := H.out.1.len; have h5 := H.out.2.2.1; rw [← h3, ← h2, ← h4] at h1; omega)
  rw [← hq, ← hmq] at hkq
  have HQ := Lib.hid (And.intro hkq (And.intro hq (And.intro hmq (show ∀ x ∈ q, EOk x from fun x hx => HK1.out.2.2.2.2 x (Pe.known_mem (by rw [← hq]; exact hx))))))
  clear hkq hq hmq
  go_wp2_with fail
  refine HQ.out.1.mono ?_
  rintro e w5 ⟨v, rfl, hown, hb5⟩
  obtain ⟨D, cD, rfl, _, _, hE⟩ := own_known hown HQ.out.2.2.1 HQ.out.2.2.2
  have H5 := Lib.hid (And.intro (H4.out.1.trans (hb5.mono H4.out.1.size)) hE)
  clear hown hb5 hE
  dsimp only
  have hk3 := HK.out (if d ≤ o then d else o) w5 H5.out.1
  rw [show Pe.known l (if d ≤ o then d else o) = q by rw [HQ.out.2.1, HK1.out.2.2.2.1]; exact (Pe.known_known l d o).symm, ← HQ.out.2.2.1] at hk3
  have HK3 := Lib.hid hk3
  clear hk3
  by_cases hdo : d ≤ o
  · have hk4 := HK3.out
    rw [if_pos hdo] at hk4
    have HK4 := Lib.hid hk4
    have hmn : min d o = d := by omega
    have hd9 : decide (d ≤ o) = true := by simpa using hdo
    clear hk4
    go_wp2_with fail
    refine HK4.out.mono ?_
    rintro e w6 ⟨v, rfl, hown, hb6⟩
    obtain ⟨E, cE, rfl, _, _, hE⟩ := own_known hown HQ.out.2.2.1 HQ.out.2.2.2
    have H6 := Lib.hid (And.intro (H5.out.1.trans (hb6.mono H5.out.1.size)) (And.intro (H5.out.2.below hb6) hE))
    clear hown hb6 hE
    dsimp only
    have hs := SameEntries_calls D E mq cD mq cE q q w6 H6.out.2.1 H6.out.2.2
    rw [show decide (q = q) = true by simp] at hs
    have HS2 := Lib.hid hs
    clear hs
    go_wp2_with fail
    refine HS2.out.mono ?_
    rintro e w7 ⟨rfl, hb7⟩
    have H7 := Lib.hid (H6.out.1.trans (hb7.mono H6.out.1.size))
    clear hb7
    dsimp only
    go_wp2
    go_ret
    exact ⟨rfl, H7.out⟩
  · have hk4 := HK3.out
    rw [if_neg hdo] at hk4
    have HK4 := Lib.hid hk4
    have hmn : min d o = o := by omega
    have hd9 : decide (d ≤ o) = false := by simpa using hdo
    clear hk4
    go_wp2_with fail
    refine HK4.out.mono ?_
    rintro e w6 ⟨v, rfl, hown, hb6⟩
    obtain ⟨E, cE, rfl, _, _, hE⟩ := own_known hown HQ.out.2.2.1 HQ.out.2.2.2
    have H6 := Lib.hid (And.intro (H5.out.1.trans (hb6.mono H5.out.1.size)) (And.intro (H5.out.2.below hb6) hE))
    clear hown hb6 hE
    dsimp only
    have hs := SameEntries_calls D E mq cD mq cE q q w6 H6.out.2.1 H6.out.2.2
    rw [show decide (q = q) = true by simp] at hs
    have HS2 := Lib.hid hs
    clear hs
    go_wp2_with fail
    refine HS2.out.mono ?_
    rintro e w7 ⟨rfl, hb7⟩
    have H7 := Lib.hid (H6.out.1.trans (hb7.mono H6.out.1.size))
    clear hb7
    dsimp only
    go_wp2
    go_ret
    exact ⟨rfl, H7.out⟩

end Go.Proofs.YtnphlekailodkaaGreatDoor
