/-
  Late entries change nothing of what was known before: the plain law, and the law's walk.
-/
import Derived.Test.YtnphlekailodkaaGreatDoorLk
import Derived.Test.YtnphlekailodkaaGreatDoorHp
import Derived.Test.YtnphlekailodkaaGreatDoorFw
namespace Go.Proofs.YtnphlekailodkaaGreatDoor
open Go.RowKit

namespace Pe
def late (l more : List Ent) (d : Int) : List Ent := l ++ more.filter fun x => decide (d < x.day)
theorem known_late (more : List Ent) (d : Int) : ∀ l : List Ent, known (late l more d) d = known l d
  | [] => by
    unfold late known
    rw [List.nil_append]
    cases hf : more.filter (fun x => decide (d < x.day)) with
    | nil => rfl
    | cons y r =>
      have hy : y ∈ more.filter (fun x => decide (d < x.day)) := by rw [hf]; simp
      have h1 := (List.mem_filter.1 hy).2
      simp only [decide_eq_true_eq] at h1
      rw [List.takeWhile_cons, if_neg (by simp; omega)]; rfl
  | x :: r => by
    have ih := known_late more d r
    unfold late known at ih ⊢
    rw [List.cons_append]
    by_cases h : x.day ≤ d
    · rw [List.takeWhile_cons, if_pos (by simpa using h), ih, List.takeWhile_cons, if_pos (by simpa using h)]
    · rw [List.takeWhile_cons, if_neg (by simpa using h), List.takeWhile_cons, if_neg (by simpa using h)]
theorem late_on {l more : List Ent} {d : Int} {i : Nat} {x : Ent} (h : more[i]? = some x) (hd : ¬ d < x.day) : late l (more.take (i + 1)) d = late l (more.take i) d := by
  unfold late
  rw [List.take_add_one, h]
  show l ++ List.filter _ (more.take i ++ [x]) = _
  rw [List.filter_append, List.filter_cons, if_neg (by simpa using hd)]; simp
theorem late_put {l more : List Ent} {d : Int} {i : Nat} {x : Ent} (h : more[i]? = some x) (hd : d < x.day) : late l (more.take (i + 1)) d = late l (more.take i) d ++ [x] := by
  unfold late
  rw [List.take_add_one, h]
  show l ++ List.filter _ (more.take i ++ [x]) = _
  rw [List.filter_append, List.filter_cons, if_pos (by simpa using hd), List.append_assoc]; rfl
theorem late_mem {l more : List Ent} {d : Int} {x : Ent} (h : x ∈ late l more d) : x ∈ l ∨ x ∈ more := by
  unfold late at h
  rcases List.mem_append.1 h with h | h
  · exact .inl h
  · exact .inr (List.mem_filter.1 h).1
theorem from_short {l : List Ent} {s d : Int} {c : Pair} : ∀ (k : Nat) (at_ : Pair) (hs : List Hop), (followFrom l s d k at_ hs).hops.length ≤ hs.length + k
  | 0, at_, hs => by simp [followFrom]
  | k + 1, at_, hs => by
    unfold followFrom
    repeat' split
    all_goals
      first
        | (have := from_short (l := l) (s := s) (d := d) (c := c) k (step l at_ d).1.to (hs ++ [(step l at_ d).1]); simp at this; omega)
        | (simp; omega)
        | simp
theorem follow_short {l : List Ent} {c : Pair} {s d : Int} {R : Route} {q : Int} (h : (R, q) = follow l c s d) : R.hops.length ≤ l.length + 2 := by
  unfold follow at h
  split at h
  · injection h with h1 _
    rw [h1]
    have := from_short (l := l) (s := s) (d := d) (c := c) (l.length + 2) c []
    simpa using this
  · injection h with h1 _
    rw [h1]; simp [noRoute]
end Pe

set_option maxRecDepth 1000000 in
set_option maxHeartbeats 8000000 in
theorem late_law (A M : Option Addr) (n c m cm : Nat) (l more : List Pe.Ent) (cd : Pe.Pair) (d : Int) (w : World) (h : EntsAt w A n l) (hm : EntsAt w M m more) (hc : n ≤ c) (hA : A = none → n = 0 ∧ c = 0) (hL : Laid w) :
    Calls Tryz.prog 4 #[.slice A n c, .slice M m cm, .agg (pCells cd), .int .i64 d] w (Law w) := by
  obtain ⟨i0, hi0, hz0, hz1, hz2⟩ := info_parts infoEntry
  have HI0 := Lib.hid (And.intro hi0 (And.intro hz0 (And.intro hz1 hz2)))
  have H := Lib.hid (And.intro h (And.intro hm (And.intro hc (And.intro hA hL))))
  clear hi0 hz0 hz1 hz2 h hm hc hA hL
  have hfe := fun w0 => Few_calls A n c w0
  have hfe2 := fun w0 => Few_calls M m cm w0
  have HFE := Lib.hid (And.intro hfe hfe2)
  clear hfe hfe2
  go_enter Tryz.func4, Tryz.ntmps4
  unfold pCells
  go_upto_region 1 with fail
  obtain ⟨b, hb⟩ : ∃ b, b = w.heap.size := ⟨_, rfl⟩
  obtain ⟨w1, hw1⟩ : ∃ w1, w1 = w.alloc (.cells (pCells cd) 28) := ⟨_, rfl⟩
  have hb1 : Below w.heap.size w w1 := by rw [hw1]; exact (Below.refl _ w).alloc (Nat.le_refl _) _
  have hc1 : Blk w1 b 28 (pCells cd) := by rw [hw1, hb]; exact Blk.fresh _ _ _
  unfold pCells at hw1
  rw [← hb, ← hw1]
  have H1 := Lib.hid (And.intro hb1 hc1)
  clear hb1 hc1 hw1 hb
  by_cases hfew : n ≤ 60
  case neg =>
    have d1 : decide (n ≤ 60) = false := by simpa using hfew
    have HD := Lib.hid d1
    clear d1 hfew
    go_wp2_with fail
    refine (HFE.out.1 w1).mono ?_
    rintro e w2 ⟨rfl, rfl⟩
    rw [HD.out]
    dsimp only
    go_wp2_with fail
    refine (alive_calls w2 (H.out.2.2.2.2.below H1.out.1)).mono ?_
    rintro e wy ⟨rfl, hby⟩
    have HY := Lib.hid (H1.out.1.trans (hby.mono H1.out.1.size))
    clear hby
    dsimp only
    go_wp2
    go_ret
    exact ⟨rfl, HY.out⟩
  have d1 : decide (n ≤ 60) = true := by simpa using hfew
  have HD := Lib.hid d1
  have HN := Lib.hid hfew
  clear d1 hfew
  by_cases hfew2 : m ≤ 60
  case neg =>
    have d1 : decide (m ≤ 60) = false := by simpa using hfew2
    have HD2 := Lib.hid d1
    clear d1 hfew2
    go_wp2_with fail
    refine (HFE.out.1 w1).mono ?_
    rintro e w2 ⟨rfl, rfl⟩
    rw [HD.out]
    dsimp only
    go_wp2_with fail
    refine (HFE.out.2 w2).mono ?_
    rintro e w3 ⟨rfl, rfl⟩
    rw [HD2.out]
    dsimp only
    go_wp2_with fail
    refine (alive_calls w3 (H.out.2.2.2.2.below H1.out.1)).mono ?_
    rintro e wy ⟨rfl, hby⟩
    have HY := Lib.hid (H1.out.1.trans (hby.mono H1.out.1.size))
    clear hby
    dsimp only
    go_wp2
    go_ret
    exact ⟨rfl, HY.out⟩
  have d1 : decide (m ≤ 60) = true := by simpa using hfew2
  have HD2 := Lib.hid d1
  have HM := Lib.hid hfew2
  clear d1 hfew2
  go_wp2_with fail
  refine (HFE.out.1 w1).mono ?_
  rintro e w2 ⟨rfl, rfl⟩
  rw [HD.out]
  dsimp only
  go_wp2_with fail
  refine (HFE.out.2 w2).mono ?_
  rintro e w3 ⟨rfl, rfl⟩
  rw [HD2.out]
  dsimp only
  go_upto_region 3 with fail
  obtain ⟨e1, he1⟩ : ∃ e1, e1 = w3.heap.size := ⟨_, rfl⟩
  have HE1 := Lib.hid he1
  have hwe : w.heap.size ≤ e1 := by rw [he1]; exact H1.out.1.size
  clear he1
  go_cut [9] (fun s9 wx => ∃ (B : Option Addr) (kc : Nat), s9 = .slice B n kc ∧ Hid (wx.ownsRow e1 31 10 (.slice B n kc) n (eRow l) ∧ Below w3.heap.size w3 wx))
  case first =>
    have hown0 : (w3.alloc (.cells #[] 31)).ownsRow e1 31 10 (.slice (some ⟨w3.heap.size, 0, none⟩) 0 0) 0 [] := own_weaken (World.ownsRow_made w3 #[] 0 (Nat.le_refl _) (Nat.zero_le _) (by simp)) (by rw [HE1.out]; exact Nat.le_refl _)
    have hB3 : Below w3.heap.size w3 (w3.alloc (.cells #[] 31)) := (Below.refl _ w3).alloc (Nat.le_refl _) _
    have H3 := Lib.hid (And.intro hown0 hB3)
    clear hown0 hB3
    cases A with
    | none =>
      obtain ⟨rfl, rfl⟩ := H.out.2.2.2.1 rfl
      have hl0 : l = [] := List.eq_nil_of_length_eq_zero H.out.1.len.symm
      go_wp2_with (at_builtin; refine wpList_append_own_none rfl _ _ 22 rfl e1 31 i0 10 Tryz.underlying22 HI0.out.1 _ _ _ rfl H3.out.1 rfl ?_)
      go_meet
      exact ⟨_, _, rfl, Lib.hid ⟨by rw [hl0]; exact H3.out.1, H3.out.2⟩⟩
    | some ad =>
      have hsrc : ∀ j u, (eRow l)[j]? = some u → (w3.alloc (.cells #[] 31)).cell? (ad.add j) = some u := (H.out.1.below (H1.out.1.trans (H3.out.2.mono H1.out.1.size))).src
      have HS := Lib.hid hsrc
      clear hsrc
      go_wp2_with (at_builtin; refine wpList_append_own _ rfl _ _ 22 rfl e1 31 i0 _ 10 88 Tryz.underlying22 HI0.out.1 HI0.out.2.1 HI0.out.2.2.1 HI0.out.2.2.2 rfl (by decide) _ _ _ rfl H3.out.1 ad n c (eRow l) rfl ?qc1 ?qc2 ?qc3 ?qc4 ?qc5 ?qc6 ?_)
      case qc1 => rw [eRow_len, ← H.out.1.len]
      case qc2 => exact HS.out
      case qc3 => exact eRow_one l
      case qc4 => simp only [maxLen]; have := HN.out; omega
      case qc5 => have := HN.out; omega
      case qc6 => have := HE1.out; have := H3.out.2.size; omega
      intro v' w4 hown hgrow hnil
      have hown2 : w4.ownsRow e1 31 10 v' n (eRow l) := by simpa using hown
      obtain ⟨B, kc, rfl, _⟩ := own_shape hown2
      go_wp2
      go_meet
      exact ⟨_, _, rfl, Lib.hid ⟨hown2, H3.out.2.grown hgrow H3.out.2.size (by intro k hk; simp [Value.ownBlock] at hk; omega)⟩⟩
  case rest =>
  obtain ⟨B, kc, rfl, HZ⟩ := hcut
  obtain ⟨w4, rfl⟩ : ∃ w4 : World, w4 = wc := ⟨_, rfl⟩
  have H4 := Lib.hid (And.intro (H1.out.1.trans (HZ.out.2.mono H1.out.1.size)) (And.intro HZ.out.1 (And.intro (H1.out.2.below HZ.out.2 H1.out.2.lt) (show e1 ≤ w4.heap.size by have h1 := HE1.out; have h2 := HZ.out.2.size; omega))))
  clear HZ
  apply_assumption
  go_wp2_with fail
  have hn60 := HN.out
  have hm60 := HM.out
  go_loopg [9, 32] m (fun q s9 s32 wr => ∃ (i kn : Nat) (B' : Option Addr) (kc' : Nat), s9 = .slice B' kn kc' ∧ s32 = .int .i64 (i : Int) ∧ i + q = m ∧ kn ≤ n + i ∧ Hid (Below w.heap.size w wr ∧ wr.ownsRow e1 31 10 (.slice B' kn kc') kn (eRow (Pe.late l (more.take i) d)) ∧ Blk wr b 28 (pCells cd) ∧ kn = (Pe.late l (more.take i) d).length ∧ e1 ≤ wr.heap.size))
  case atStart => exact ⟨0, n, B, kc, rfl, by go_num, by omega, by omega, Lib.hid ⟨H4.out.1, by simpa [Pe.late] using H4.out.2.1, H4.out.2.2.1, by simpa [Pe.late] using H.out.1.len, H4.out.2.2.2⟩⟩
  case round =>
    obtain ⟨i, kn, B', kc', rfl, rfl, hi, hkn, hR⟩ := hrel
    by_cases hgo : i < m
    case pos =>
      have hd1 : decide ((i : Int) < (m : Int)) = true := by simp; omega
      obtain ⟨x, ad, hx, rfl, hok, hcw⟩ := (H.out.2.1.below hR.out.1).one hgo
      have g0 : wr.cell? (ad.add (i * 10)) = some (.int .i64 x.day) := hcw 0 _ rfl
      have g1 : wr.cell? ⟨(ad.add (i * 10)).block, (ad.add (i * 10)).off + 1, none⟩ = some (.int .u8 (x.kind : Int)) := hcw 1 _ rfl
      have g2 : wr.cell? ⟨(ad.add (i * 10)).block, (ad.add (i * 10)).off + 2, none⟩ = some (.int .i64 x.since) := hcw 2 _ rfl
      have g3 : wr.cell? ⟨(ad.add (i * 10)).block, (ad.add (i * 10)).off + 3, none⟩ = some (.int .i64 x.til) := hcw 3 _ rfl
      have g4 : wr.cell? ⟨(ad.add (i * 10)).block, (ad.add (i * 10)).off + 4, none⟩ = some (.int .i64 x.person) := hcw 4 _ rfl
      have g5 : wr.cell? ⟨(ad.add (i * 10)).block, (ad.add (i * 10)).off + 5, none⟩ = some (.int .i64 x.place) := hcw 5 _ rfl
      have g6 : wr.cell? ⟨(ad.add (i * 10)).block, (ad.add (i * 10)).off + 6, none⟩ = some (.int .i64 x.other) := hcw 6 _ rfl
      have g7 : wr.cell? ⟨(ad.add (i * 10)).block, (ad.add (i * 10)).off + 7, none⟩ = some (.int .i64 x.at_) := hcw 7 _ rfl
      have g8 : wr.cell? ⟨(ad.add (i * 10)).block, (ad.add (i * 10)).off + 8, none⟩ = some (.int .i64 x.order) := hcw 8 _ rfl
      have g9 : wr.cell? ⟨(ad.add (i * 10)).block, (ad.add (i * 10)).off + 9, none⟩ = some (.string (bs x.name)) := hcw 9 _ rfl
      have HX := Lib.hid hx
      clear hx hcw hok
      go_upto_region 7 with fail
      obtain ⟨xb, hg⟩ : ∃ g, g = wr.heap.size := ⟨_, rfl⟩
      obtain ⟨w5, hw⟩ : ∃ w0, w0 = wr.alloc (.cells (eCells x) 31) := ⟨_, rfl⟩
      have hbl : Below wr.heap.size wr w5 := by rw [hw]; exact (Below.refl _ wr).alloc (Nat.le_refl _) _
      have hgb : Blk w5 xb 31 (eCells x) := by rw [hw, hg]; exact Blk.fresh _ _ _
      unfold eCells at hw
      rw [← hg, ← hw]
      have H5 := Lib.hid (And.intro (hR.out.1.trans (hbl.mono hR.out.1.size)) (And.intro (own_below hR.out.2.1 hbl) (And.intro (hR.out.2.2.1.below hbl hR.out.2.2.1.lt) (And.intro hgb (Nat.le_trans hR.out.2.2.2.2 hbl.size)))))
      clear g0 g1 g2 g3 g4 g5 g6 g7 g8 g9
      clear hbl hgb hg hw
      have g0 : w5.cell? ⟨xb, 0, none⟩ = some (.int .i64 x.day) := H5.out.2.2.2.1.cell 0
      have g1 : w5.cell? ⟨xb, 1, none⟩ = some (.int .u8 (x.kind : Int)) := H5.out.2.2.2.1.cell 1
      have g2 : w5.cell? ⟨xb, 2, none⟩ = some (.int .i64 x.since) := H5.out.2.2.2.1.cell 2
      have g3 : w5.cell? ⟨xb, 3, none⟩ = some (.int .i64 x.til) := H5.out.2.2.2.1.cell 3
      have g4 : w5.cell? ⟨xb, 4, none⟩ = some (.int .i64 x.person) := H5.out.2.2.2.1.cell 4
      have g5 : w5.cell? ⟨xb, 5, none⟩ = some (.int .i64 x.place) := H5.out.2.2.2.1.cell 5
      have g6 : w5.cell? ⟨xb, 6, none⟩ = some (.int .i64 x.other) := H5.out.2.2.2.1.cell 6
      have g7 : w5.cell? ⟨xb, 7, none⟩ = some (.int .i64 x.at_) := H5.out.2.2.2.1.cell 7
      have g8 : w5.cell? ⟨xb, 8, none⟩ = some (.int .i64 x.order) := H5.out.2.2.2.1.cell 8
      have g9 : w5.cell? ⟨xb, 9, none⟩ = some (.string (bs x.name)) := H5.out.2.2.2.1.cell 9
      by_cases hday : d < x.day
      · have hd2 : decide (d < x.day) = true := by simpa using hday
        have HDY := Lib.hid hday
        clear hday
        go_wp2_with (at_builtin; refine wpList_append_lies _ rfl _ _ 22 rfl e1 31 i0 _ 10 88 Tryz.underlying22 HI0.out.1 HI0.out.2.1 HI0.out.2.2.1 HI0.out.2.2.2 (by rfl) (by decide) (.slice B' kn kc') kn (eRow (Pe.late l (more.take i) d)) rfl (own_below H5.out.2.1 ((Below.refl _ w5).alloc (Nat.le_refl _) _)) ⟨w5.heap.size, 0, none⟩ 1 1 (eCells x).toList rfl rfl (World.news_of_block (cs := eCells x) (t := 31) (fr := (0, 0)) (heap_alloc_new w5 _)) ?o1 (by decide) ?o2 ?o3 ?o4 _ rfl ?_)
        case o1 => simp [eCells, Value.oneCell']
        case o2 => simp only [maxLen]; omega
        case o3 => omega
        case o4 => have := H5.out.2.2.2.2; simp; omega
        intro gn cn W2 hown hgr _ hlt
        have HA := Lib.hid (And.intro (show W2.ownsRow e1 31 10 (.slice (some ⟨gn, 0, none⟩) (kn + 1) cn) (kn + 1) (eRow (Pe.late l (more.take (i + 1)) d)) by rw [Pe.late_put HX.out HDY.out, eRow_snoc]; exact hown) (And.intro ((H5.out.1.alloc H5.out.1.size _).grown hgr (H5.out.1.alloc H5.out.1.size _).size (fun z hz => by have := (H5.out.2.1.lt z hz).1; omega)) (And.intro ((H5.out.2.2.1.alloc _).grown hgr (fun e => by have h1 := (H5.out.2.1.lt b e.symm).1; have h2 := H1.out.2.lt; have h3 := HE1.out; omega)) (Nat.le_trans H5.out.2.2.2.2 (Nat.le_trans (by simp) hgr.size)))))
        clear hown hgr hlt
        clear g0 g1 g2 g3 g4 g5 g6 g7 g8 g9
        go_wp2
        go_roundg (gk - 1)
        case measure => omega
        case rel => exact ⟨i + 1, kn + 1, some ⟨gn, 0, none⟩, cn, rfl, by go_num, by omega, by omega, Lib.hid ⟨HA.out.2.1, HA.out.1, HA.out.2.2.1, by rw [Pe.late_put HX.out HDY.out]; simp; exact hR.out.2.2.2.1, HA.out.2.2.2⟩⟩
      · have hd2 : decide (d < x.day) = false := by simpa using hday
        have HDY := Lib.hid hday
        clear hday
        go_wp2
        go_roundg (gk - 1)
        case measure => omega
        case rel => exact ⟨i + 1, kn, B', kc', rfl, by go_num, by omega, by omega, Lib.hid ⟨H5.out.1, by rw [Pe.late_on HX.out (Int.not_lt.2 HDY.out)]; exact H5.out.2.1, H5.out.2.2.1, by rw [Pe.late_on HX.out (Int.not_lt.2 HDY.out)]; exact hR.out.2.2.2.1, H5.out.2.2.2.2⟩⟩
    have hd1 : decide ((i : Int) < (m : Int)) = false := by simp; omega
    have hfull : more.take i = more := List.take_of_length_le (by have := H.out.2.1.len; omega)
    obtain ⟨K, hK⟩ : ∃ K, K = Pe.known l d := ⟨_, rfl⟩
    obtain ⟨mk, hmk⟩ : ∃ mk, mk = K.length := ⟨_, rfl⟩
    have hmk60 : mk ≤ 60 := by have h1 := Pe.known_le l d; have h2 := H.out.1.len; rw [hmk, hK]; omega
    obtain ⟨B2, c2k, e2, hcap, hBn, hE2⟩ := own_known hR.out.2.1 hR.out.2.2.2.1 (fun z hz => by
      rcases Pe.late_mem hz with hz | hz
      · exact H.out.1.ok z hz
      · exact H.out.2.1.ok z (List.mem_of_mem_take hz))
    obtain ⟨rfl, rfl⟩ : B' = B2 ∧ kc' = c2k := by injection e2 with h1 _ h3; exact ⟨h1, h3⟩
    have hk1 := Known_calls A n c l d wr (H.out.1.below hR.out.1) H.out.2.2.1 (fun e => (H.out.2.2.2.1 e).1) (by omega)
    have hk2 := fun w0 (hb : Below wr.heap.size wr w0) => Known_calls B' kn kc' (Pe.late l (more.take i) d) d w0 (hE2.below hb) hcap hBn (by omega)
    rw [Pe.known_late, ← hK, ← hmk] at hk2
    rw [← hK, ← hmk] at hk1
    have HK := Lib.hid (And.intro hk1 (And.intro hk2 (And.intro hmk (show ∀ x ∈ K, EOk x from fun x hx => H.out.1.ok x (Pe.known_mem (by rw [← hK]; exact hx))))))
    have HB := Lib.hid (And.intro hR.out.1 hR.out.2.2.1)
    clear hk1 hk2 hmk hK hfull e2 hcap hBn hE2 hR hkn hi
    go_wp2_with fail
    refine HK.out.1.mono ?_
    rintro e w6 ⟨v, rfl, hown, hb6⟩
    obtain ⟨C, cC, rfl, _, _, hE⟩ := own_known hown HK.out.2.2.1 HK.out.2.2.2
    have H6 := Lib.hid (And.intro hb6 (And.intro hE (HB.out.2.below hb6 HB.out.2.lt)))
    clear hown hb6 hE
    dsimp only
    go_wp2_with fail
    refine (HK.out.2.1 w6 H6.out.1).mono ?_
    rintro e w7 ⟨v, rfl, hown, hb7⟩
    obtain ⟨D, cD, rfl, _, _, hE⟩ := own_known hown HK.out.2.2.1 HK.out.2.2.2
    have H7 := Lib.hid (And.intro (HB.out.1.trans ((H6.out.1.trans (hb7.mono H6.out.1.size)).mono HB.out.1.size)) (And.intro (H6.out.2.1.below hb7) (And.intro (H6.out.2.2.below hb7 H6.out.2.2.lt) hE)))
    clear hown hb7 hE
    dsimp only
    have hs := SameEntries_calls C D mk cC mk cD K K w7 H7.out.2.1 H7.out.2.2.2
    rw [show decide (K = K) = true by simp] at hs
    have HS := Lib.hid hs
    clear hs
    go_wp2_with fail
    refine HS.out.mono ?_
    rintro e w8 ⟨rfl, hb8⟩
    have H8 := Lib.hid (And.intro (H7.out.1.trans (hb8.mono H7.out.1.size)) (And.intro (H7.out.2.1.below hb8) (And.intro (H7.out.2.2.1.below hb8 H7.out.2.2.1.lt) (H7.out.2.2.2.below hb8))))
    clear hb8
    dsimp only
    obtain ⟨⟨R, q⟩, hRR⟩ : ∃ z, z = Pe.follow K cd 0 d := ⟨_, rfl⟩
    have hf1 := Follow_calls C mk cC K cd 0 d w8 H8.out.2.1 (by omega)
    have hf2 := fun w0 (hb : Below w8.heap.size w8 w0) => Follow_calls D mk cD K cd 0 d w0 (H8.out.2.2.2.below hb) (by omega)
    rw [← hRR] at hf1 hf2
    have HQ := Lib.hid (Pe.follow_short hRR)
    unfold pCells at hf1 hf2
    have HF := Lib.hid (And.intro hf1 hf2)
    clear hf1 hf2 hRR
    have k0 : w8.cell? ⟨b, 0, none⟩ = some (.int .i64 cd.1) := H8.out.2.2.1.cell 0
    have k1 : w8.cell? ⟨b, 1, none⟩ = some (.int .i64 cd.2) := H8.out.2.2.1.cell 1
    go_wp2_with fail
    refine HF.out.1.mono ?_
    rintro e w9 ⟨⟨v, rfl, ho⟩, hb9⟩
    dsimp only at ho
    obtain ⟨nh, hnh⟩ : ∃ nh, nh = R.hops.length := ⟨_, rfl⟩
    rw [← hnh] at ho
    obtain ⟨A3, c3, rfl, hHA, _⟩ := own_hops ho hnh
    have H9 := Lib.hid (And.intro hb9 (And.intro (H8.out.2.2.1.below hb9 H8.out.2.2.1.lt) hHA))
    have HN2 := Lib.hid hnh
    clear ho hb9 hHA hnh k0 k1
    unfold rCells
    dsimp only
    go_upto_region 14 with fail
    obtain ⟨g, hg⟩ : ∃ g, g = w9.heap.size := ⟨_, rfl⟩
    obtain ⟨wa, hw⟩ : ∃ w0, w0 = w9.alloc (.cells #[.int .u8 (R.kind : Int), .int .i64 R.fin.1, .int .i64 R.fin.2, .slice A3 nh c3, .int .i64 (R.back : Int)] 34) := ⟨_, rfl⟩
    have hbl : Below w9.heap.size w9 wa := by rw [hw]; exact (Below.refl _ w9).alloc (Nat.le_refl _) _
    have hgb : Blk wa g 34 #[.int .u8 (R.kind : Int), .int .i64 R.fin.1, .int .i64 R.fin.2, .slice A3 nh c3, .int .i64 (R.back : Int)] := by rw [hw, hg]; exact Blk.fresh _ _ _
    rw [← hg, ← hw]
    clear hg hw
    have Ha := Lib.hid (And.intro (H9.out.1.trans (hbl.mono H9.out.1.size)) (And.intro (H9.out.2.1.below hbl H9.out.2.1.lt) (And.intro (H9.out.2.2.below hbl) hgb)))
    clear hbl hgb
    have k0 : wa.cell? ⟨b, 0, none⟩ = some (.int .i64 cd.1) := Ha.out.2.1.cell 0
    have k1 : wa.cell? ⟨b, 1, none⟩ = some (.int .i64 cd.2) := Ha.out.2.1.cell 1
    go_wp2_with fail
    refine (HF.out.2 wa Ha.out.1).mono ?_
    rintro e wb ⟨⟨v, rfl, ho⟩, hb5⟩
    dsimp only at ho
    rw [← HN2.out] at ho
    obtain ⟨A5, c5, rfl, hHA, _⟩ := own_hops ho HN2.out
    have Hb := Lib.hid (And.intro (Ha.out.1.trans (hb5.mono Ha.out.1.size)) (And.intro (Ha.out.2.2.1.below hb5) (And.intro (Ha.out.2.2.2.below hb5 Ha.out.2.2.2.lt) hHA)))
    clear ho hb5 hHA k0 k1
    unfold rCells
    dsimp only
    go_upto_region 15 with fail
    obtain ⟨g2, hg⟩ : ∃ g, g = wb.heap.size := ⟨_, rfl⟩
    obtain ⟨wd, hw⟩ : ∃ w0, w0 = wb.alloc (.cells #[.int .u8 (R.kind : Int), .int .i64 R.fin.1, .int .i64 R.fin.2, .slice A5 nh c5, .int .i64 (R.back : Int)] 34) := ⟨_, rfl⟩
    have hbl : Below wb.heap.size wb wd := by rw [hw]; exact (Below.refl _ wb).alloc (Nat.le_refl _) _
    have hgb : Blk wd g2 34 #[.int .u8 (R.kind : Int), .int .i64 R.fin.1, .int .i64 R.fin.2, .slice A5 nh c5, .int .i64 (R.back : Int)] := by rw [hw, hg]; exact Blk.fresh _ _ _
    rw [← hg, ← hw]
    clear hg hw
    have Hd := Lib.hid (And.intro (Hb.out.1.trans (hbl.mono Hb.out.1.size)) (And.intro (Hb.out.2.1.below hbl) (And.intro (Hb.out.2.2.1.below hbl Hb.out.2.2.1.lt) (And.intro (Hb.out.2.2.2.below hbl) hgb))))
    clear hbl hgb
    go_wp2_with fail
    refine (alive_calls wd (H.out.2.2.2.2.below (H8.out.1.trans (Hd.out.1.mono H8.out.1.size)))).mono ?_
    rintro e we ⟨rfl, hb7⟩
    have He := Lib.hid (And.intro (Hd.out.1.trans (hb7.mono Hd.out.1.size)) (And.intro (Hd.out.2.1.below hb7) (And.intro (Hd.out.2.2.1.below hb7 Hd.out.2.2.1.lt) (And.intro (Hd.out.2.2.2.1.below hb7) (Hd.out.2.2.2.2.below hb7 Hd.out.2.2.2.2.lt)))))
    clear hb7
    dsimp only
    have a0 : we.cell? ⟨g, 0, none⟩ = some (.int .u8 (R.kind : Int)) := He.out.2.2.1.cell 0
    have a1 : we.cell? ⟨g, 1, none⟩ = some (.int .i64 R.fin.1) := He.out.2.2.1.cell 1
    have a2 : we.cell? ⟨g, 2, none⟩ = some (.int .i64 R.fin.2) := He.out.2.2.1.cell 2
    have a3 : we.cell? ⟨g, 3, none⟩ = some (.slice A3 nh c3) := He.out.2.2.1.cell 3
    have a4 : we.cell? ⟨g, 4, none⟩ = some (.int .i64 (R.back : Int)) := He.out.2.2.1.cell 4
    have b0 : we.cell? ⟨g2, 0, none⟩ = some (.int .u8 (R.kind : Int)) := He.out.2.2.2.2.cell 0
    have b1 : we.cell? ⟨g2, 1, none⟩ = some (.int .i64 R.fin.1) := He.out.2.2.2.2.cell 1
    have b2 : we.cell? ⟨g2, 2, none⟩ = some (.int .i64 R.fin.2) := He.out.2.2.2.2.cell 2
    have b3 : we.cell? ⟨g2, 3, none⟩ = some (.slice A5 nh c5) := He.out.2.2.2.2.cell 3
    have b4 : we.cell? ⟨g2, 4, none⟩ = some (.int .i64 (R.back : Int)) := He.out.2.2.2.2.cell 4
    have hlen : nh ≤ 1000000 := by have h1 := HQ.out; have h2 := HN2.out; have h3 := HK.out.2.2.1; omega
    have hsc := rSameRoute_calls A3 A5 nh c3 nh c5 R R we He.out.2.1 He.out.2.2.2.1 hlen
    rw [show decide (R = R) = true by simp] at hsc
    unfold rCells at hsc
    have HSC := Lib.hid hsc
    clear hsc hlen
    go_wp2_with fail
    refine HSC.out.mono ?_
    rintro e wf ⟨rfl, hbf⟩
    have Hf := Lib.hid (H8.out.1.trans ((He.out.1.trans (hbf.mono He.out.1.size)).mono H8.out.1.size))
    clear hbf
    dsimp only
    go_wp2
    go_ret
    exact ⟨rfl, Hf.out⟩

end Go.Proofs.YtnphlekailodkaaGreatDoor
