/-
  A list is valid exactly if it can be appended entry by entry: the law's walk.
-/
import Derived.Test.YtfalajomfcfliaaGreatDoorLv0
namespace Go.Proofs.YtfalajomfcfliaaGreatDoor
open Go.RowKit

set_option maxRecDepth 1000000 in
set_option maxHeartbeats 8000000 in
theorem valid_law (A : Option Addr) (n c : Nat) (l : List Pe.Ent) (w : World) (h : EntsAt w A n l) (hL : Laid w) : Calls Tryz.prog 5 #[.slice A n c] w (Law w) := by
  have H := Lib.hid (And.intro h hL)
  have hmost := h.most
  clear h hL
  go_enter Tryz.func5, Tryz.ntmps5
  go_wp2_with fail
  refine (Check_calls A n c l w H.out.1).mono ?_
  rintro e w1 ⟨rfl, hb1⟩
  have H1 := Lib.hid hb1
  clear hb1
  obtain ⟨⟨ci, ce⟩, hce⟩ : ∃ z, z = Pe.check l := ⟨_, rfl⟩
  rw [← hce]
  have HC := Lib.hid hce
  clear hce
  dsimp only
  go_wp2_with fail
  go_loopg [5, 19] n (fun q s5 s19 wr => ∃ (k : Nat) (B : Option Addr) (d : Nat), s5 = .slice B k d ∧ s19 = .int .i64 (k : Int) ∧ k + q = n ∧ Hid (EntsAt wr B k (l.take k) ∧ (B = none → k = 0) ∧ (Pe.check (l.take k)).2 = 0 ∧ Below w.heap.size w wr))
  case atStart => exact ⟨0, none, 0, rfl, by go_num, by omega, Lib.hid ⟨⟨rfl, by omega, .inl rfl, fun x hx => by simp at hx⟩, fun _ => rfl, rfl, H1.out⟩⟩
  case round =>
    obtain ⟨k, B, d, rfl, rfl, hk, hR⟩ := hrel
    by_cases hgo : k < n
    case neg =>
      have hd1 : decide ((k : Int) < (n : Int)) = false := by simp; omega
      have hle := H.out.1.len
      have htk : l.take k = l := List.take_of_length_le (by omega)
      have hz := Pe.check_zero hR.out.2.2.1
      rw [htk, ← HC.out] at hz
      obtain ⟨rfl, rfl⟩ : ci = 0 ∧ ce = 0 := by injection hz with h1 h2; exact ⟨h1, h2⟩
      have hE := hR.out.1
      rw [htk] at hE
      have HE := Lib.hid hE
      clear hz hE htk hle
      go_wp2_with fail
      refine (alive_calls wr (H.out.2.below hR.out.2.2.2)).mono ?_
      rintro e w2 ⟨rfl, hb2⟩
      have H2 := Lib.hid (And.intro (HE.out.below hb2) (And.intro (H.out.1.below (hR.out.2.2.2.trans (hb2.mono hR.out.2.2.2.size))) (hR.out.2.2.2.trans (hb2.mono hR.out.2.2.2.size))))
      clear hb2
      dsimp only
      go_wp2_with fail
      refine (same_calls B A k d n c l w2 H2.out.1 H2.out.2.1).mono ?_
      rintro e w3 ⟨rfl, hb3⟩
      have H3 := Lib.hid (H2.out.2.2.trans (hb3.mono H2.out.2.2.size))
      clear hb3
      dsimp only
      go_wp2
      go_ret
      exact ⟨rfl, H3.out⟩
    have hd1 : decide ((k : Int) < (n : Int)) = true := by simp; omega
    obtain ⟨x, ad, hx, rfl, hok, hcw⟩ := (H.out.1.below hR.out.2.2.2).one hgo
    have g0 : wr.cell? (ad.add (k * 10)) = some (.int .i64 x.day) := hcw 0 _ rfl
    have g1 : wr.cell? ⟨(ad.add (k * 10)).block, (ad.add (k * 10)).off + 1, none⟩ = some (.int .u8 (x.kind : Int)) := hcw 1 _ rfl
    have g2 : wr.cell? ⟨(ad.add (k * 10)).block, (ad.add (k * 10)).off + 2, none⟩ = some (.int .i64 x.since) := hcw 2 _ rfl
    have g3 : wr.cell? ⟨(ad.add (k * 10)).block, (ad.add (k * 10)).off + 3, none⟩ = some (.int .i64 x.til) := hcw 3 _ rfl
    have g4 : wr.cell? ⟨(ad.add (k * 10)).block, (ad.add (k * 10)).off + 4, none⟩ = some (.int .i64 x.person) := hcw 4 _ rfl
    have g5 : wr.cell? ⟨(ad.add (k * 10)).block, (ad.add (k * 10)).off + 5, none⟩ = some (.int .i64 x.place) := hcw 5 _ rfl
    have g6 : wr.cell? ⟨(ad.add (k * 10)).block, (ad.add (k * 10)).off + 6, none⟩ = some (.int .i64 x.other) := hcw 6 _ rfl
    have g7 : wr.cell? ⟨(ad.add (k * 10)).block, (ad.add (k * 10)).off + 7, none⟩ = some (.int .i64 x.at_) := hcw 7 _ rfl
    have g8 : wr.cell? ⟨(ad.add (k * 10)).block, (ad.add (k * 10)).off + 8, none⟩ = some (.int .i64 x.order) := hcw 8 _ rfl
    have g9 : wr.cell? ⟨(ad.add (k * 10)).block, (ad.add (k * 10)).off + 9, none⟩ = some (.string (bs x.name)) := hcw 9 _ rfl
    have HX := Lib.hid (And.intro hx hok)
    clear hx hcw hok
    go_upto_region 6 with fail
    obtain ⟨xb, hxb⟩ : ∃ xb, xb = wr.heap.size := ⟨_, rfl⟩
    obtain ⟨w2, hw2⟩ : ∃ w2, w2 = wr.alloc (.cells (eCells x) 29) := ⟨_, rfl⟩
    have hb2 : Below wr.heap.size wr w2 := by rw [hw2]; exact (Below.refl _ wr).alloc (Nat.le_refl _) _
    have hx2 : Blk w2 xb 29 (eCells x) := by rw [hw2, hxb]; exact Blk.fresh _ _ _
    unfold eCells at hw2
    rw [← hxb, ← hw2]
    have H2 := Lib.hid (And.intro hb2 hx2)
    clear hb2 hx2 hw2 hxb
    clear g0 g1 g2 g3 g4 g5 g6 g7 g8 g9
    have c0 : w2.cell? ⟨xb, 0, none⟩ = some (.int .i64 x.day) := H2.out.2.cell 0
    have c1 : w2.cell? ⟨xb, 1, none⟩ = some (.int .u8 (x.kind : Int)) := H2.out.2.cell 1
    have c2 : w2.cell? ⟨xb, 2, none⟩ = some (.int .i64 x.since) := H2.out.2.cell 2
    have c3 : w2.cell? ⟨xb, 3, none⟩ = some (.int .i64 x.til) := H2.out.2.cell 3
    have c4 : w2.cell? ⟨xb, 4, none⟩ = some (.int .i64 x.person) := H2.out.2.cell 4
    have c5 : w2.cell? ⟨xb, 5, none⟩ = some (.int .i64 x.place) := H2.out.2.cell 5
    have c6 : w2.cell? ⟨xb, 6, none⟩ = some (.int .i64 x.other) := H2.out.2.cell 6
    have c7 : w2.cell? ⟨xb, 7, none⟩ = some (.int .i64 x.at_) := H2.out.2.cell 7
    have c8 : w2.cell? ⟨xb, 8, none⟩ = some (.int .i64 x.order) := H2.out.2.cell 8
    have c9 : w2.cell? ⟨xb, 9, none⟩ = some (.string (bs x.name)) := H2.out.2.cell 9
    obtain ⟨f, hf⟩ : ∃ f, f = (Pe.check (l.take k ++ [x])).2 := ⟨_, rfl⟩
    have hac := Append_calls B k d (l.take k) x w2 (hR.out.1.below H2.out.1) hR.out.2.1 HX.out.2
    rw [← hf] at hac
    have HAC := Lib.hid hac
    have HF := Lib.hid hf
    clear hac hf
    go_wp2_with fail
    refine HAC.out.mono ?_
    rintro e w4 ⟨hb4, h4⟩
    have hb24 := hR.out.2.2.2.trans ((H2.out.1.trans (hb4.mono H2.out.1.size)).mono hR.out.2.2.2.size)
    rcases h4 with ⟨h4, _⟩ | ⟨_, h4, rfl⟩ | ⟨_, h4, v, rfl, hown⟩
    · exact absurd hR.out.2.2.1 h4
    · have hst := Pe.check_stop HX.out.1 hR.out.2.2.1 (by rw [← HF.out]; exact h4)
      rw [← HC.out, ← HF.out] at hst
      obtain ⟨rfl, rfl⟩ : ci = k ∧ ce = f := by injection hst with h1 h2; exact ⟨h1, h2⟩
      have hd2 : (ce != 0) = true := by simpa using h4
      have HB := Lib.hid hb24
      clear hst h4 hb4 hb24
      clear c0 c1 c2 c3 c4 c5 c6 c7 c8 c9
      dsimp only
      go_wp2_with fail
      refine (alive_calls w4 (H.out.2.below HB.out)).mono ?_
      rintro e w5 ⟨rfl, hb5⟩
      have H5 := Lib.hid (HB.out.trans (hb5.mono HB.out.size))
      clear hb5
      dsimp only
      go_wp2
      go_ret
      exact ⟨rfl, H5.out⟩
    · have htk : l.take (k + 1) = l.take k ++ [x] := by rw [List.take_add_one, HX.out.1]; rfl
      obtain ⟨B', d', rfl, hE⟩ := own_ents hown (by rw [← htk, List.length_take]; have := H.out.1.len; omega) (fun y hy => H.out.1.ok y (by rw [← htk] at hy; exact List.mem_of_mem_take hy))
      have hB' : B' = none → k + 1 = 0 := by
        rintro rfl
        rcases hE.at_ with h0 | ⟨ad, h0, _⟩
        · simp at h0
        · cases h0
      have hz : (Pe.check (l.take (k + 1))).2 = 0 := by rw [htk, ← HF.out]; exact h4
      rw [← htk] at hE
      have hcc := Check_calls B' (k + 1) d' (l.take (k + 1)) w4 hE
      rw [Pe.check_zero hz] at hcc
      have H4 := Lib.hid (And.intro hE (And.intro hB' (And.intro hz hb24)))
      have HCC := Lib.hid hcc
      subst h4
      have hk1 : ((k + 1 : Nat) : Int) = (k : Int) + 1 := by omega
      clear hcc hE hB' hz hb24 hb4 hown htk
      clear c0 c1 c2 c3 c4 c5 c6 c7 c8 c9
      dsimp only
      go_wp2_with fail
      refine HCC.out.mono ?_
      rintro e w5 ⟨rfl, hb5⟩
      have H5 := Lib.hid (And.intro (H4.out.1.below hb5) (H4.out.2.2.2.trans (hb5.mono H4.out.2.2.2.size)))
      clear hb5
      dsimp only
      go_wp2
      go_roundg (gk - 1)
      case measure => omega
      case rel => exact ⟨k + 1, B', d', rfl, by go_num, by omega, Lib.hid ⟨H5.out.1, H4.out.2.1, H4.out.2.2.1, H5.out.2⟩⟩

end Go.Proofs.YtfalajomfcfliaaGreatDoor
