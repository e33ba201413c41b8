/-
  Append makes new memory: what its result is made to hold leaves the list as it was.
-/
import Derived.Test.YtfalajomfcfliaaGreatDoorLv0
namespace Go.Proofs.YtfalajomfcfliaaGreatDoor
open Go.RowKit

theorem Pe.append_err {l : List Pe.Ent} {x : Pe.Ent} (h : (Pe.check l).2 = 0) : Pe.nextR l x = (Pe.check (l ++ [x])).2 := by
  have hv := Pe.check_valid h
  have hf : Pe.AllFormed l := fun y hy => by
    obtain ⟨i, hi⟩ := List.mem_iff_getElem?.1 hy
    exact Pe.next_formed (hv i y hi)
  rw [Pe.next_eq hf hv.short, Pe.check_snoc h]
  by_cases hn : Pe.next l x = 0
  · rw [if_neg (by simp [hn]), hn]
  · rw [if_pos hn]
set_option maxRecDepth 1000000 in
set_option maxHeartbeats 8000000 in
theorem appends_law (A : Option Addr) (n c : Nat) (l : List Pe.Ent) (x : Pe.Ent) (w : World) (h : EntsAt w A n l) (hc : n ≤ c) (hA : A = none → n = 0 ∧ c = 0) (hx : EOk x) (hsz : n * 88 ≤ 140737488355328) (hL : Laid w) :
    Calls Tryz.prog 4 #[.slice A n c, .agg (eCells x)] w (Law w) := by
  obtain ⟨i0, hi0, hz0, hz1, hz2⟩ := info_parts infoEntry
  have HI0 := Lib.hid (And.intro hi0 (And.intro hz0 (And.intro hz1 hz2)))
  have H := Lib.hid (And.intro h (And.intro hc (And.intro hA (And.intro hx (And.intro hsz hL)))))
  have hmost := h.most
  clear hi0 hz0 hz1 hz2 h hc hA hx hsz hL
  go_enter Tryz.func4, Tryz.ntmps4
  unfold eCells
  go_upto_region 1 with fail
  obtain ⟨ex, hex⟩ : ∃ ex, ex = w.heap.size := ⟨_, rfl⟩
  obtain ⟨w1, hw1⟩ : ∃ w1, w1 = w.alloc (.cells (eCells x) 29) := ⟨_, rfl⟩
  have hb1 : Below w.heap.size w w1 := by rw [hw1]; exact (Below.refl _ w).alloc (Nat.le_refl _) _
  have hx1 : Blk w1 ex 29 (eCells x) := by rw [hw1, hex]; exact Blk.fresh _ _ _
  have hs1 : w1.heap.size = ex + 1 := by rw [hw1, hex]; simp
  unfold eCells at hw1
  rw [← hex, ← hw1]
  have H1 := Lib.hid (And.intro hb1 (And.intro hx1 (And.intro hs1 hex)))
  clear hb1 hx1 hw1 hex hs1
  go_cut [5] (fun s5 wx => ∃ (B : Option Addr) (d : Nat), s5 = .slice B n d ∧ Hid (wx.ownsRow (ex + 1) 29 10 (.slice B n d) n (eRow l) ∧ Below w1.heap.size w1 wx))
  case first =>
    have hown0 : (w1.alloc (.cells #[] 29)).ownsRow (ex + 1) 29 10 (.slice (some ⟨w1.heap.size, 0, none⟩) 0 0) 0 [] := own_weaken (World.ownsRow_made w1 #[] 0 (Nat.le_refl _) (Nat.zero_le _) (by simp)) (by have := H1.out.2.2.1; omega)
    have hB3 : Below w1.heap.size w1 (w1.alloc (.cells #[] 29)) := (Below.refl _ w1).alloc (Nat.le_refl _) _
    have H3 := Lib.hid (And.intro hown0 hB3)
    clear hown0 hB3
    cases A with
    | none =>
      obtain ⟨rfl, rfl⟩ := H.out.2.2.1 rfl
      have hl0 : l = [] := List.eq_nil_of_length_eq_zero H.out.1.len.symm
      go_wp2_with (at_builtin; refine wpList_append_own_none rfl _ _ 22 rfl (ex + 1) 29 i0 10 Tryz.underlying22 HI0.out.1 _ _ _ rfl H3.out.1 rfl ?_)
      go_meet
      exact ⟨_, _, rfl, Lib.hid ⟨by rw [hl0]; exact H3.out.1, H3.out.2⟩⟩
    | some ad =>
      have hsrc : ∀ j u, (eRow l)[j]? = some u → (w1.alloc (.cells #[] 29)).cell? (ad.add j) = some u := (H.out.1.below (H1.out.1.trans (H3.out.2.mono H1.out.1.size))).src
      have HS := Lib.hid hsrc
      clear hsrc
      go_wp2_with (at_builtin; refine wpList_append_own _ rfl _ _ 22 rfl (ex + 1) 29 i0 _ 10 88 Tryz.underlying22 HI0.out.1 HI0.out.2.1 HI0.out.2.2.1 HI0.out.2.2.2 rfl (by decide) _ _ _ rfl H3.out.1 ad n c (eRow l) rfl ?qc1 ?qc2 ?qc3 ?qc4 ?qc5 ?qc6 ?_)
      case qc1 => rw [eRow_len, ← H.out.1.len]
      case qc2 => exact HS.out
      case qc3 => exact eRow_one l
      case qc4 => simp only [maxLen]; have := H.out.2.2.2.2.1; omega
      case qc5 => have := H.out.2.2.2.2.1; omega
      case qc6 => have := H1.out.2.2.1; have := H3.out.2.size; omega
      intro v' w4 hown hgrow hnil
      have hown2 : w4.ownsRow (ex + 1) 29 10 v' n (eRow l) := by simpa using hown
      obtain ⟨B, d, rfl, _⟩ := own_shape hown2
      go_wp2
      go_meet
      exact ⟨_, _, rfl, Lib.hid ⟨hown2, H3.out.2.grown hgrow H3.out.2.size (by intro k hk; simp [Value.ownBlock] at hk; omega)⟩⟩
  case rest =>
  obtain ⟨B, d, rfl, HZ⟩ := hcut
  obtain ⟨w2, rfl⟩ : ∃ w2 : World, w2 = wc := ⟨_, rfl⟩
  have hb2 := H1.out.1.trans (HZ.out.2.mono H1.out.1.size)
  have H2 := Lib.hid (And.intro HZ.out.1 (And.intro hb2 (H1.out.2.1.below HZ.out.2 H1.out.2.1.lt)))
  clear HZ hb2
  apply_assumption
  have hcheck := Pe.check_eq l
  obtain ⟨f, hf⟩ : ∃ f, f = (Pe.check l).2 := ⟨_, rfl⟩
  have hac := fun w0 (hb : Below w.heap.size w w0) => Append_calls A n c l x w0 (H.out.1.below hb) (fun e => (H.out.2.2.1 e).1) H.out.2.2.2.1
  have hrc := fun w0 (hb : Below w.heap.size w w0) => rAppend_calls A n c l x w0 (H.out.1.below hb) H.out.2.1 H.out.2.2.1 H.out.2.2.2.1
  rw [hcheck, ← hf] at hrc
  rw [← hf] at hac
  have HA := Lib.hid (And.intro hac (And.intro hrc hf))
  clear hac hrc hf hcheck
  have c0 : w2.cell? ⟨ex, 0, none⟩ = some (.int .i64 x.day) := H2.out.2.2.cell 0
  have c1 : w2.cell? ⟨ex, 1, none⟩ = some (.int .u8 (x.kind : Int)) := H2.out.2.2.cell 1
  have c2 : w2.cell? ⟨ex, 2, none⟩ = some (.int .i64 x.since) := H2.out.2.2.cell 2
  have c3 : w2.cell? ⟨ex, 3, none⟩ = some (.int .i64 x.til) := H2.out.2.2.cell 3
  have c4 : w2.cell? ⟨ex, 4, none⟩ = some (.int .i64 x.person) := H2.out.2.2.cell 4
  have c5 : w2.cell? ⟨ex, 5, none⟩ = some (.int .i64 x.place) := H2.out.2.2.cell 5
  have c6 : w2.cell? ⟨ex, 6, none⟩ = some (.int .i64 x.other) := H2.out.2.2.cell 6
  have c7 : w2.cell? ⟨ex, 7, none⟩ = some (.int .i64 x.at_) := H2.out.2.2.cell 7
  have c8 : w2.cell? ⟨ex, 8, none⟩ = some (.int .i64 x.order) := H2.out.2.2.cell 8
  have c9 : w2.cell? ⟨ex, 9, none⟩ = some (.string (bs x.name)) := H2.out.2.2.cell 9
  go_wp2_with fail
  refine (HA.out.1 w2 H2.out.2.1).mono ?_
  rintro e w3 ⟨hb3, h3⟩
  have H3 := Lib.hid (And.intro (H2.out.2.1.trans (hb3.mono H2.out.2.1.size)) (And.intro (own_below H2.out.1 hb3) (H2.out.2.2.below hb3 H2.out.2.2.lt)))
  have hz23 : w2.heap.size ≤ w3.heap.size := hb3.size
  clear hb3
  clear c0 c1 c2 c3 c4 c5 c6 c7 c8 c9
  have c0 : w3.cell? ⟨ex, 0, none⟩ = some (.int .i64 x.day) := H3.out.2.2.cell 0
  have c1 : w3.cell? ⟨ex, 1, none⟩ = some (.int .u8 (x.kind : Int)) := H3.out.2.2.cell 1
  have c2 : w3.cell? ⟨ex, 2, none⟩ = some (.int .i64 x.since) := H3.out.2.2.cell 2
  have c3 : w3.cell? ⟨ex, 3, none⟩ = some (.int .i64 x.til) := H3.out.2.2.cell 3
  have c4 : w3.cell? ⟨ex, 4, none⟩ = some (.int .i64 x.person) := H3.out.2.2.cell 4
  have c5 : w3.cell? ⟨ex, 5, none⟩ = some (.int .i64 x.place) := H3.out.2.2.cell 5
  have c6 : w3.cell? ⟨ex, 6, none⟩ = some (.int .i64 x.other) := H3.out.2.2.cell 6
  have c7 : w3.cell? ⟨ex, 7, none⟩ = some (.int .i64 x.at_) := H3.out.2.2.cell 7
  have c8 : w3.cell? ⟨ex, 8, none⟩ = some (.int .i64 x.order) := H3.out.2.2.cell 8
  have c9 : w3.cell? ⟨ex, 9, none⟩ = some (.string (bs x.name)) := H3.out.2.2.cell 9
  rcases h3 with ⟨h3, rfl⟩ | ⟨h3, h3b, rfl⟩ | ⟨h3, h3b, v, rfl, hown⟩
  · dsimp only
    go_wp2_with fail
    refine (HA.out.2.1 w3 H3.out.1).mono ?_
    rintro e w4 ⟨hb4, h4⟩
    have H4 := Lib.hid (And.intro (H3.out.1.trans (hb4.mono H3.out.1.size)) (own_below H3.out.2.1 hb4))
    clear hb4
    clear c0 c1 c2 c3 c4 c5 c6 c7 c8 c9
    rcases h4 with ⟨h4, rfl⟩ | ⟨h4, _, _⟩ | ⟨h4, _, _, _, _⟩
    · clear h3 h4
      dsimp only
      go_wp2_with fail
      refine (same_calls none none 0 0 0 0 [] w4 ⟨rfl, by omega, .inl rfl, fun y hy => by cases hy⟩ ⟨rfl, by omega, .inl rfl, fun y hy => by cases hy⟩).mono ?_
      rintro e w5 ⟨rfl, hb5⟩
      have H5 := Lib.hid (And.intro (H4.out.1.trans (hb5.mono H4.out.1.size)) (own_below H4.out.2 hb5))
      clear hb5
      dsimp only
      go_wp2_with fail
      go_loopg [37] 0 (fun q s37 wr => s37 = .int .i64 0 ∧ wr = w5)
      case atStart => exact ⟨rfl, rfl⟩
      case round =>
        obtain ⟨rfl, rfl⟩ := hrel
        go_wp2_with fail
        refine (alive_calls wr (H.out.2.2.2.2.2.below H5.out.1)).mono ?_
        rintro e wy ⟨rfl, hby⟩
        have HY := Lib.hid (And.intro (H5.out.1.trans (hby.mono H5.out.1.size)) (own_below H5.out.2 hby))
        clear hby
        dsimp only
        obtain ⟨B2, d2, hBd, hEw⟩ := own_ents HY.out.2 H.out.1.len (fun y hy => H.out.1.ok y hy)
        obtain ⟨rfl, rfl⟩ : B = B2 ∧ d = d2 := by injection hBd with h1 h2 h3; exact ⟨h1, h3⟩
        have HW := Lib.hid hEw
        clear hBd hEw
        go_wp2_with fail
        refine (same_calls A B n c n d l wy (H.out.1.below HY.out.1) HW.out).mono ?_
        rintro e wz ⟨rfl, hbz⟩
        have HZ := Lib.hid (HY.out.1.trans (hbz.mono HY.out.1.size))
        clear hbz
        dsimp only
        go_wp2
        go_ret
        exact ⟨rfl, HZ.out⟩
    · exact absurd h4 h3
    · exact absurd h4 h3
  · obtain ⟨f2, hf2⟩ : ∃ f2, f2 = (Pe.check (l ++ [x])).2 := ⟨_, rfl⟩
    have hne := Pe.append_err (x := x) (by rw [← HA.out.2.2]; exact h3)
    rw [← hf2] at hne h3b ⊢
    have HN := Lib.hid (And.intro hne (And.intro h3 h3b))
    clear hne h3 h3b hf2
    dsimp only
    go_wp2_with fail
    refine (HA.out.2.1 w3 H3.out.1).mono ?_
    rintro e w4 ⟨hb4, h4⟩
    have H4 := Lib.hid (And.intro (H3.out.1.trans (hb4.mono H3.out.1.size)) (own_below H3.out.2.1 hb4))
    clear hb4
    clear c0 c1 c2 c3 c4 c5 c6 c7 c8 c9
    rcases h4 with ⟨h4, _⟩ | ⟨_, h4, rfl⟩ | ⟨_, h4, _, _, _⟩
    · exact absurd HN.out.2.1 h4
    · rw [HN.out.1]
      clear h4
      dsimp only
      go_wp2_with fail
      refine (same_calls none none 0 0 0 0 [] w4 ⟨rfl, by omega, .inl rfl, fun y hy => by cases hy⟩ ⟨rfl, by omega, .inl rfl, fun y hy => by cases hy⟩).mono ?_
      rintro e w5 ⟨rfl, hb5⟩
      have H5 := Lib.hid (And.intro (H4.out.1.trans (hb5.mono H4.out.1.size)) (own_below H4.out.2 hb5))
      clear hb5
      dsimp only
      go_wp2_with fail
      go_loopg [37] 0 (fun q s37 wr => s37 = .int .i64 0 ∧ wr = w5)
      case atStart => exact ⟨rfl, rfl⟩
      case round =>
        obtain ⟨rfl, rfl⟩ := hrel
        go_wp2_with fail
        refine (alive_calls wr (H.out.2.2.2.2.2.below H5.out.1)).mono ?_
        rintro e wy ⟨rfl, hby⟩
        have HY := Lib.hid (And.intro (H5.out.1.trans (hby.mono H5.out.1.size)) (own_below H5.out.2 hby))
        clear hby
        dsimp only
        obtain ⟨B2, d2, hBd, hEw⟩ := own_ents HY.out.2 H.out.1.len (fun y hy => H.out.1.ok y hy)
        obtain ⟨rfl, rfl⟩ : B = B2 ∧ d = d2 := by injection hBd with h1 h2 h3; exact ⟨h1, h3⟩
        have HW := Lib.hid hEw
        clear hBd hEw
        go_wp2_with fail
        refine (same_calls A B n c n d l wy (H.out.1.below HY.out.1) HW.out).mono ?_
        rintro e wz ⟨rfl, hbz⟩
        have HZ := Lib.hid (HY.out.1.trans (hbz.mono HY.out.1.size))
        clear hbz
        dsimp only
        go_wp2
        go_ret
        exact ⟨rfl, HZ.out⟩
    · exact absurd (HN.out.1.symm.trans h4) HN.out.2.2
  · have hne := Pe.append_err (x := x) (by rw [← HA.out.2.2]; exact h3)
    rw [h3b] at hne
    have HN := Lib.hid (And.intro hne h3)
    obtain ⟨g, cap, rfl, hbg, hlt, hcap, hcm⟩ := own_form hown (by omega)
    obtain ⟨cur, hg3, _, _, _, hcs, _, _⟩ := own_parts hown
    have hex2 : ex + 1 ≤ w2.heap.size := by have := H2.out.2.2.lt; omega
    have hok2 : ∀ y ∈ l ++ [x], EOk y := fun y hy => by
      rcases List.mem_append.1 hy with hy | hy
      · exact H.out.1.ok y hy
      · rw [List.mem_singleton.1 hy]; exact H.out.2.2.2.1
    have HG := Lib.hid (And.intro hg3 (And.intro hcs (And.intro hown (And.intro hok2 (And.intro hbg (And.intro hex2 hcap))))))
    clear hne h3 h3b hg3 hcs hown hok2 hbg hlt hcap hcm hex2
    dsimp only
    go_wp2_with fail
    refine (HA.out.2.1 w3 H3.out.1).mono ?_
    rintro e w4 ⟨hb4, h4⟩
    have H4 := Lib.hid (And.intro (H3.out.1.trans (hb4.mono H3.out.1.size)) (And.intro (own_below H3.out.2.1 hb4) (And.intro (HG.out.1.below hb4 HG.out.1.lt) (own_below HG.out.2.2.1 hb4))))
    clear hb4
    clear c0 c1 c2 c3 c4 c5 c6 c7 c8 c9
    rcases h4 with ⟨h4, _⟩ | ⟨_, h4, _⟩ | ⟨_, h4, v', rfl, hown'⟩
    · exact absurd HN.out.2 h4
    · exact absurd HN.out.1 h4
    clear h4
    obtain ⟨A1, c1, hv1, hE1⟩ := own_ents H4.out.2.2.2 (by have := H.out.1.len; simp; omega) HG.out.2.2.2.1
    obtain ⟨A2, c2, rfl, hE2⟩ := own_ents hown' (by have := H.out.1.len; simp; omega) HG.out.2.2.2.1
    obtain ⟨rfl, rfl⟩ : some ⟨g, 0, none⟩ = A1 ∧ cap = c1 := by injection hv1 with h1 h2 h3; exact ⟨h1, h3⟩
    have HE := Lib.hid (And.intro hE1 hE2)
    clear hE1 hE2 hv1 hown'
    dsimp only
    go_wp2_with fail
    refine (same_calls (some ⟨g, 0, none⟩) A2 (n + 1) cap (n + 1) c2 (l ++ [x]) w4 HE.out.1 HE.out.2).mono ?_
    rintro e w5 ⟨rfl, hb5⟩
    have H5 := Lib.hid (And.intro (H4.out.1.trans (hb5.mono H4.out.1.size)) (And.intro (own_below H4.out.2.1 hb5) (H4.out.2.2.1.below hb5 H4.out.2.2.1.lt)))
    clear hb5
    dsimp only
    go_wp2_with fail
    obtain ⟨ad, had⟩ : ∃ ad : Addr, ad = ⟨g, 0, none⟩ := ⟨_, rfl⟩
    rw [← had]
    have HAD := Lib.hid had
    clear had
    go_loopg [37] (n + 1) (fun q s37 wr => ∃ (i : Nat) (cr : Array Value), s37 = .int .i64 (i : Int) ∧ i + q = n + 1 ∧ Hid (Blk wr g 29 cr ∧ cr.size = cap * 10 ∧ Chg (fun b => b = g) w5 wr))
    case atStart => exact ⟨0, cur, by go_num, by omega, Lib.hid ⟨H5.out.2.2, HG.out.2.1, Chg.refl _ _⟩⟩
    case round =>
      obtain ⟨i, cr, rfl, hi, hR⟩ := hrel
      by_cases hgo : i < n + 1
      case neg =>
        have hd1 : decide ((i : Int) < (n : Int) + 1) = false := by simp; omega
        have hd2 : decide ((i : Int) < ((n + 1 : Nat) : Int)) = false := by simp; omega
        have HT := Lib.hid (And.intro (H5.out.1.trans (hR.out.2.2.below (fun b hb => by have := H2.out.2.1.size; have := HG.out.2.2.2.2.1; omega) H5.out.1.size)) (hR.out.2.2.own H5.out.2.1 (fun k hk hkg => by
          have h1 := (H2.out.1.lt k hk).2
          have h2 := HG.out.2.2.2.2.1
          omega)))
        go_wp2_with fail
        refine (alive_calls wr (H.out.2.2.2.2.2.below HT.out.1)).mono ?_
        rintro e wy ⟨rfl, hby⟩
        have HY := Lib.hid (And.intro (HT.out.1.trans (hby.mono HT.out.1.size)) (own_below HT.out.2 hby))
        clear hby
        dsimp only
        obtain ⟨B2, d2, hBd, hEw⟩ := own_ents HY.out.2 H.out.1.len (fun y hy => H.out.1.ok y hy)
        obtain ⟨rfl, rfl⟩ : B = B2 ∧ d = d2 := by injection hBd with h1 h2 h3; exact ⟨h1, h3⟩
        have HW := Lib.hid hEw
        clear hBd hEw
        go_wp2_with fail
        refine (same_calls A B n c n d l wy (H.out.1.below HY.out.1) HW.out).mono ?_
        rintro e wz ⟨rfl, hbz⟩
        have HZ := Lib.hid (HY.out.1.trans (hbz.mono HY.out.1.size))
        clear hbz
        dsimp only
        go_wp2
        go_ret
        exact ⟨rfl, HZ.out⟩
      have hd1 : decide ((i : Int) < (n : Int) + 1) = true := by simp; omega
      have hd2 : decide ((i : Int) < ((n + 1 : Nat) : Int)) = true := by simp; omega
      have hadd : ad.add (i * 10) = ⟨g, i * 10, none⟩ := by rw [HAD.out]; unfold Addr.add; split <;> simp_all
      have hcz : i * 10 + 10 ≤ cr.size := by have h1 := hR.out.2.1; have h2 := HG.out.2.2.2.2.2.2; omega
      have HADD := Lib.hid (And.intro hadd hcz)
      clear hadd hcz
      have hn8 : n + 1 ≤ 9223372036854775807 := by have := H.out.2.2.2.2.1; omega
      go_upto_region 9 with fail
      go_wp2_with (refine wpList_store_at (op := ⟨none, _, _, _, _, _⟩) rfl 29 (.tmp 44) (.tmp 43) rfl g (i * 10) [.int .i64 (i : Int), .int .u8 99, .int .i64 0, .int .i64 0, .int .i64 0, .int .i64 0, .int .i64 0, .int .i64 0, .int .i64 0, .string ⟨#[]⟩] (congrArg (fun p => Value.pointer (some p)) HADD.out.1) rfl (hR.out.1.there_ (i * 10) 10 HADD.out.2) infoEntryN (by simp [Value.oneCell']) ?_; intro w6 hw6; have H6 := Lib.hid (And.intro (hR.out.1.setCells (o := i * 10) (vs := [.int .i64 (i : Int), .int .u8 99, .int .i64 0, .int .i64 0, .int .i64 0, .int .i64 0, .int .i64 0, .int .i64 0, .int .i64 0, .string ⟨#[]⟩]) HADD.out.2) (hR.out.2.2.setCells (b := g) (.inl rfl) (i * 10) [.int .i64 (i : Int), .int .u8 99, .int .i64 0, .int .i64 0, .int .i64 0, .int .i64 0, .int .i64 0, .int .i64 0, .int .i64 0, .string ⟨#[]⟩])); rw [← hw6.out] at H6; clear hw6)
      go_roundg (gk - 1)
      case measure => omega
      case rel =>
        refine ⟨i + 1, _, by go_num, by omega, Lib.hid ⟨H6.out.1, ?_, H6.out.2⟩⟩
        have h1 := hR.out.2.1
        have h2 := HADD.out.2
        simp [splice]
        omega

end Go.Proofs.YtfalajomfcfliaaGreatDoor
