/-
  The reference's Append.
-/
import Derived.Test.YtfalajomfcfliaaGreatDoorPr7
import Derived.Test.YtfalajomfcfliaaGreatDoorPa
import Derived.Deep.AppendLies
import Derived.Laws.AppendOwnNone
namespace Go.Proofs.YtfalajomfcfliaaGreatDoor
open Go.RowKit

set_option maxRecDepth 1000000 in
set_option maxHeartbeats 4000000 in
theorem rAppend_calls (A : Option Addr) (n c : Nat) (l : List Pe.Ent) (x : Pe.Ent) (w : World) (h : EntsAt w A n l) (hc : n ≤ c) (hA : A = none → n = 0 ∧ c = 0) (hx : EOk x) :
    Calls Tryz.prog 17 #[.slice A n c, .agg (eCells x)] w fun e w' => Below w.heap.size w w' ∧
      (((Pe.checkR l).2 ≠ 0 ∧ e = .returned (.tuple #[.slice none 0 0, .int .i64 (Pe.checkR l).2])) ∨
       ((Pe.checkR l).2 = 0 ∧ Pe.nextR l x ≠ 0 ∧ e = .returned (.tuple #[.slice none 0 0, .int .i64 (Pe.nextR l x)])) ∨
       ((Pe.checkR l).2 = 0 ∧ Pe.nextR l x = 0 ∧ ∃ v, e = .returned (.tuple #[v, .int .i64 0]) ∧ w'.ownsRow w.heap.size 29 10 v (n + 1) (eRow (l ++ [x])))) := by
  obtain ⟨i0, hi0, hz0, hz1, hz2⟩ := info_parts infoEntry
  have HI0 := Lib.hid (And.intro hi0 (And.intro hz0 (And.intro hz1 hz2)))
  obtain ⟨f, hf⟩ : ∃ f, f = (Pe.checkR l).2 := ⟨_, rfl⟩
  obtain ⟨f0, hf00⟩ : ∃ f0, f0 = (Pe.checkR l).1 := ⟨_, rfl⟩
  have hcc := fun w0 (hb : Below w.heap.size w w0) => rCheck_calls A n c l w0 (h.below hb) hc
  have hnc := fun w0 (hb : Below w.heap.size w w0) => rnext_calls A n c l x w0 (h.below hb) hx
  obtain ⟨f2, hf2⟩ : ∃ f2, f2 = Pe.nextR l x := ⟨_, rfl⟩
  rw [← hf] at hcc ⊢
  rw [← hf2] at hnc ⊢
  rw [← hf00] at hcc
  have hsh : f = 0 → n ≤ 400 := fun e => by
    rw [h.len]
    refine (Pe.check_valid ?_).short
    rw [← Pe.check_eq, ← hf, e]
  have H := Lib.hid (And.intro h (And.intro hA (And.intro hx (And.intro hcc (And.intro hnc hsh)))))
  clear hi0 hz0 hz1 hz2 h hA hx hf hcc hf00 hf2 hnc hsh hc
  go_enter Tryz.func17, Tryz.ntmps17
  unfold eCells
  go_upto_region 1 with fail
  obtain ⟨ex, hex⟩ : ∃ ex, ex = w.heap.size := ⟨_, rfl⟩
  obtain ⟨w0, hw0⟩ : ∃ w0, w0 = w.alloc (.cells (eCells x) 29) := ⟨_, rfl⟩
  have hB0 : Below w.heap.size w w0 := by rw [hw0]; exact (Below.refl _ w).alloc (Nat.le_refl _) _
  have hE0 : Blk w0 ex 29 (eCells x) := by rw [hw0, hex]; exact Blk.fresh _ _ _
  unfold eCells at hw0
  rw [← hw0, ← hex]
  have H0 := Lib.hid (And.intro hB0 (And.intro hE0 hex))
  clear hB0 hE0 hw0 hex
  go_wp2_with fail
  refine (H.out.2.2.2.1 w0 H0.out.1).mono ?_
  rintro e w1 ⟨rfl, hB1⟩
  have H1 := Lib.hid (And.intro (H0.out.1.trans (hB1.mono H0.out.1.size)) (H0.out.2.1.below hB1 H0.out.2.1.lt))
  clear hB1
  dsimp only
  by_cases hf0 : f = 0
  case neg =>
    have hd1 : (f != 0) = true := by simpa using hf0
    have HF := Lib.hid hf0
    clear hf0
    go_wp2
    go_ret2
    exact ⟨H1.out.1, .inl ⟨HF.out, rfl⟩⟩
  subst hf0
  have hn4 : n ≤ 400 := H.out.2.2.2.2.2 rfl
  have c0 : w1.cell? ⟨ex, 0, none⟩ = some (.int .i64 x.day) := H1.out.2.cell 0
  have c1 : w1.cell? ⟨ex, 1, none⟩ = some (.int .u8 (x.kind : Int)) := H1.out.2.cell 1
  have c2 : w1.cell? ⟨ex, 2, none⟩ = some (.int .i64 x.since) := H1.out.2.cell 2
  have c3 : w1.cell? ⟨ex, 3, none⟩ = some (.int .i64 x.til) := H1.out.2.cell 3
  have c4 : w1.cell? ⟨ex, 4, none⟩ = some (.int .i64 x.person) := H1.out.2.cell 4
  have c5 : w1.cell? ⟨ex, 5, none⟩ = some (.int .i64 x.place) := H1.out.2.cell 5
  have c6 : w1.cell? ⟨ex, 6, none⟩ = some (.int .i64 x.other) := H1.out.2.cell 6
  have c7 : w1.cell? ⟨ex, 7, none⟩ = some (.int .i64 x.at_) := H1.out.2.cell 7
  have c8 : w1.cell? ⟨ex, 8, none⟩ = some (.int .i64 x.order) := H1.out.2.cell 8
  have c9 : w1.cell? ⟨ex, 9, none⟩ = some (.string (bs x.name)) := H1.out.2.cell 9
  go_wp2_with fail
  refine (H.out.2.2.2.2.1 w1 H1.out.1).mono ?_
  rintro e w2 ⟨rfl, hB2⟩
  have H2 := Lib.hid (And.intro (H1.out.1.trans (hB2.mono H1.out.1.size)) (H1.out.2.below hB2 H1.out.2.lt))
  clear hB2
  clear c0 c1 c2 c3 c4 c5 c6 c7 c8 c9
  dsimp only
  by_cases hf0 : f2 = 0
  case neg =>
    have hd1 : (f2 != 0) = true := by simpa using hf0
    have HF := Lib.hid hf0
    clear hf0
    go_wp2
    go_ret2
    refine ⟨H2.out.1, ?_⟩
    first | exact .inl ⟨HF.out, rfl⟩ | exact .inr (.inl ⟨rfl, HF.out, rfl⟩)
  subst hf0
  go_upto_region 7 with fail
  go_cut [9] (fun s9 wx => Hid (wx.ownsRow w.heap.size 29 10 s9 n (eRow l) ∧ Below w.heap.size w wx ∧ Blk wx ex 29 (eCells x)))
  case first =>
    have hown0 : (w2.alloc (.cells #[] 29)).ownsRow w.heap.size 29 10 (.slice (some ⟨w2.heap.size, 0, none⟩) 0 0) 0 [] := own_weaken (World.ownsRow_made w2 #[] 0 (Nat.le_refl _) (Nat.zero_le _) (by simp)) H2.out.1.size
    have hB3 : Below w.heap.size w (w2.alloc (.cells #[] 29)) := H2.out.1.alloc H2.out.1.size _
    have hE3 : Blk (w2.alloc (.cells #[] 29)) ex 29 (eCells x) := H2.out.2.alloc _
    have H3 := Lib.hid (And.intro hown0 (And.intro hB3 hE3))
    clear hown0 hB3 hE3
    have hexl : ex < w2.heap.size := H2.out.2.lt
    cases A with
    | none =>
      obtain ⟨rfl, rfl⟩ := H.out.2.1 rfl
      have hl0 : l = [] := List.eq_nil_of_length_eq_zero H.out.1.len.symm
      go_wp2_with (at_builtin; refine wpList_append_own_none rfl _ _ 22 rfl w.heap.size 29 i0 10 Tryz.underlying22 HI0.out.1 _ _ _ rfl H3.out.1 rfl ?_)
      go_meet
      exact Lib.hid ⟨by rw [hl0]; exact H3.out.1, H3.out.2⟩
    | some ad =>
      have hsrc : ∀ j u, (eRow l)[j]? = some u → (w2.alloc (.cells #[] 29)).cell? (ad.add j) = some u := (H.out.1.below H3.out.2.1).src
      have HS := Lib.hid hsrc
      clear hsrc
      go_wp2_with (at_builtin; refine wpList_append_own _ rfl _ _ 22 rfl w.heap.size 29 i0 _ 10 88 Tryz.underlying22 HI0.out.1 HI0.out.2.1 HI0.out.2.2.1 HI0.out.2.2.2 rfl (by decide) _ _ _ rfl H3.out.1 ad n c (eRow l) rfl ?qc1 ?qc2 ?qc3 ?qc4 ?qc5 ?qc6 ?_)
      case qc1 => rw [eRow_len, ← H.out.1.len]
      case qc2 => exact HS.out
      case qc3 => exact eRow_one l
      case qc4 => simp only [maxLen]; omega
      case qc5 => omega
      case qc6 => exact H3.out.2.1.size
      intro v' w4 hown hgrow hnil
      go_wp2
      go_meet
      refine Lib.hid ⟨by simpa using hown, H3.out.2.1.grown hgrow H3.out.2.1.size (by intro k hk; simp [Value.ownBlock] at hk; have := H2.out.1.size; omega), H3.out.2.2.grown hgrow (by simp [Value.ownBlock]; omega)⟩
  case rest =>
  obtain ⟨w3, rfl⟩ : ∃ w3 : World, w3 = wc := ⟨_, rfl⟩
  have H3 := Lib.hid hcut.out
  clear hcut
  have hexl : ex < w3.heap.size := H3.out.2.2.lt
  apply_assumption
  have c0 : w3.cell? ⟨ex, 0, none⟩ = some (.int .i64 x.day) := H3.out.2.2.cell 0
  have c1 : w3.cell? ⟨ex, 1, none⟩ = some (.int .u8 (x.kind : Int)) := H3.out.2.2.cell 1
  have c2 : w3.cell? ⟨ex, 2, none⟩ = some (.int .i64 x.since) := H3.out.2.2.cell 2
  have c3 : w3.cell? ⟨ex, 3, none⟩ = some (.int .i64 x.til) := H3.out.2.2.cell 3
  have c4 : w3.cell? ⟨ex, 4, none⟩ = some (.int .i64 x.person) := H3.out.2.2.cell 4
  have c5 : w3.cell? ⟨ex, 5, none⟩ = some (.int .i64 x.place) := H3.out.2.2.cell 5
  have c6 : w3.cell? ⟨ex, 6, none⟩ = some (.int .i64 x.other) := H3.out.2.2.cell 6
  have c7 : w3.cell? ⟨ex, 7, none⟩ = some (.int .i64 x.at_) := H3.out.2.2.cell 7
  have c8 : w3.cell? ⟨ex, 8, none⟩ = some (.int .i64 x.order) := H3.out.2.2.cell 8
  have c9 : w3.cell? ⟨ex, 9, none⟩ = some (.string (bs x.name)) := H3.out.2.2.cell 9
  have H4 := Lib.hid (And.intro (H3.out.1.alloc (.cells (eCells x) 29)) (H3.out.2.1.alloc H3.out.2.1.size (.cells (eCells x) 29)))
  go_wp2_with (at_builtin; refine wpList_append_own _ rfl _ _ 22 rfl w.heap.size 29 i0 _ 10 88 Tryz.underlying22 HI0.out.1 HI0.out.2.1 HI0.out.2.2.1 HI0.out.2.2.2 rfl (by decide) _ _ _ rfl H4.out.1 ⟨w3.heap.size, 0, none⟩ 1 1 (eCells x).toList rfl ?qc1 ?qc2 ?qc3 ?qc4 ?qc5 ?qc6 ?_)
  case qc1 => rfl
  case qc2 => exact World.news_of_block (cs := eCells x) (t := 29) (fr := (0, 0)) (heap_alloc_new w3 _)
  case qc3 => have := eRow_one [x]; simpa [eRow] using this
  case qc4 => simp only [maxLen]; omega
  case qc5 => omega
  case qc6 => exact H4.out.2.size
  intro v' w4 hown hgrow hnil
  go_wp2
  go_ret2
  have hb := H4.out.2.grown hgrow H4.out.2.size (fun k hk => (H3.out.1.lt k hk).1)
  have hown' : w4.ownsRow w.heap.size 29 10 v' (n + 1) (eRow (l ++ [x])) := by rw [eRow_snoc]; exact hown
  refine ⟨hb, ?_⟩
  first | exact ⟨_, rfl, hown'⟩ | exact .inr ⟨rfl, _, rfl, hown'⟩ | exact .inr (.inr ⟨rfl, rfl, _, rfl, hown'⟩)

end Go.Proofs.YtfalajomfcfliaaGreatDoor
