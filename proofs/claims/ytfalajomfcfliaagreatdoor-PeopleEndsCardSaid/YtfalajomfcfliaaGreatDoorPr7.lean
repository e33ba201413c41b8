/-
  The reference's Check.
-/
import Derived.Test.YtfalajomfcfliaaGreatDoorPr6
namespace Go.Proofs.YtfalajomfcfliaaGreatDoor
open Go.RowKit

theorem EntsAt.take {w : World} {A : Option Addr} {n : Nat} {l : List Pe.Ent} (h : EntsAt w A n l) {i : Nat} (hi : i ≤ n) : EntsAt w A i (l.take i) := by
  have hl := h.len
  have hm := h.most
  refine ⟨by rw [List.length_take]; omega, by omega, ?_, fun x hx => h.ok x (List.mem_of_mem_take hx)⟩
  rcases h.at_ with h0 | ⟨ad, hA, hb, hc⟩
  · left; rw [h0]; simp
  · right
    refine ⟨ad, hA, hb, fun k x hx => ?_⟩
    rw [List.getElem?_take] at hx
    split at hx
    · exact hc k x hx
    · cases hx

set_option maxRecDepth 1000000 in
set_option maxHeartbeats 4000000 in
theorem rCheck_calls (A : Option Addr) (n c : Nat) (l : List Pe.Ent) (w : World) (h : EntsAt w A n l) (hc : n ≤ c) :
    Calls Tryz.prog 14 #[.slice A n c] w fun e w' => e = .returned (.tuple #[.int .i64 ((Pe.checkR l).1 : Int), .int .i64 (Pe.checkR l).2]) ∧ Below w.heap.size w w' := by
  have hmost := h.most
  have H := Lib.hid h
  clear h
  go_enter Tryz.func14, Tryz.ntmps14
  go_wp2_with fail
  go_loopg [4] n (fun q s4 wr => ∃ i : Nat, s4 = .int .i64 (i : Int) ∧ i + q = n ∧ Hid (Below w.heap.size w wr ∧ Pe.checkR l = Pe.checkRFrom l i (l.drop i)))
  case atStart => exact ⟨0, by go_num, by omega, Lib.hid ⟨Below.refl _ _, rfl⟩⟩
  case round =>
    obtain ⟨i, rfl, hi, hR⟩ := hrel
    by_cases hgo : i < n
    case neg =>
      have hd1 : decide ((i : Int) < (n : Int)) = false := by simp; omega
      go_wp2
      go_ret2
      have hc : Pe.checkR l = (0, 0) := by
        rw [hR.out.2, List.drop_of_length_le (by have := H.out.len; omega)]; rfl
      exact ⟨by rw [hc]; rfl, hR.out.1⟩
    have hd1 : decide ((i : Int) < (n : Int)) = true := by simp; omega
    have hH1 := H.out.below hR.out.1
    obtain ⟨x, ad, hx, rfl, hok, hcw⟩ := hH1.one hgo
    obtain ⟨f, hf⟩ : ∃ f, f = Pe.nextR (l.take i) x := ⟨_, rfl⟩
    have hcall := fun w0 (hb : Below wr.heap.size wr w0) => rnext_calls (some ad) i c (l.take i) x w0 ((hH1.below hb).take (by omega)) hok
    rw [← hf] at hcall
    have hck : Pe.checkR l = if f ≠ 0 then (i, f) else Pe.checkRFrom l (i + 1) (l.drop (i + 1)) := by
      have hl : i < l.length := (List.getElem?_eq_some_iff.1 hx).1
      have hd : l.drop i = x :: l.drop (i + 1) := by
        rw [List.drop_eq_getElem_cons hl]
        congr 1
        rw [List.getElem?_eq_getElem hl] at hx
        injection hx
      rw [hR.out.2, hd, Pe.checkRFrom, ← hf]
    have g0 : wr.cell? (ad.add (i * 10)) = some (.int .i64 x.day) := hcw 0 _ rfl
    have g1 : wr.cell? ⟨(ad.add (i * 10)).block, (ad.add (i * 10)).off + 1, none⟩ = some (.int .u8 (x.kind : Int)) := hcw 1 _ rfl
    have g2 : wr.cell? ⟨(ad.add (i * 10)).block, (ad.add (i * 10)).off + 2, none⟩ = some (.int .i64 x.since) := hcw 2 _ rfl
    have g3 : wr.cell? ⟨(ad.add (i * 10)).block, (ad.add (i * 10)).off + 3, none⟩ = some (.int .i64 x.til) := hcw 3 _ rfl
    have g4 : wr.cell? ⟨(ad.add (i * 10)).block, (ad.add (i * 10)).off + 4, none⟩ = some (.int .i64 x.person) := hcw 4 _ rfl
    have g5 : wr.cell? ⟨(ad.add (i * 10)).block, (ad.add (i * 10)).off + 5, none⟩ = some (.int .i64 x.place) := hcw 5 _ rfl
    have g6 : wr.cell? ⟨(ad.add (i * 10)).block, (ad.add (i * 10)).off + 6, none⟩ = some (.int .i64 x.other) := hcw 6 _ rfl
    have g7 : wr.cell? ⟨(ad.add (i * 10)).block, (ad.add (i * 10)).off + 7, none⟩ = some (.int .i64 x.at_) := hcw 7 _ rfl
    have g8 : wr.cell? ⟨(ad.add (i * 10)).block, (ad.add (i * 10)).off + 8, none⟩ = some (.int .i64 x.order) := hcw 8 _ rfl
    have g9 : wr.cell? ⟨(ad.add (i * 10)).block, (ad.add (i * 10)).off + 9, none⟩ = some (.string (bs x.name)) := hcw 9 _ rfl
    have HX := Lib.hid (And.intro hcall hck)
    clear hx hcw hok hcall hck hH1 hf
    go_upto_region 4 with fail
    go_cut [5] (fun s5 wx => s5 = .int .i64 f ∧ Hid (Below w.heap.size w wx))
    case first =>
      refine wp_region_R (RL []) (by kernel_rfl) (RL_nil _) (fun hp => ?_)
      refine wpAnyR_take (i := 0) (oi := ⟨some 12, _, _, _, _, _⟩) (v := ?_) rfl (by kernel_rfl) (by kernel_rfl) (by kernel_rfl) (fun _ _ _ h => h) hp (.inl ⟨by rfl, fun w _ => ?_⟩) (fun hq => ?_)
      rotate_left
      · go_simp
        with_reducible rfl
      clear hp; have hp := hq; clear hq
      try simp only [Act.put, List.setIfInBounds_toArray, List.set_cons_zero, List.set_cons_succ]
      refine wpAnyR_take (i := 1) (oi := ⟨some 13, _, _, _, _, _⟩) (v := ?_) rfl (by kernel_rfl) (by kernel_rfl) (by kernel_rfl) (fun _ _ _ h => h) hp (.inl ⟨by rfl, fun w _ => ?_⟩) (fun hq => ?_)
      rotate_left
      · go_simp
        with_reducible rfl
      clear hp; have hp := hq; clear hq
      try simp only [Act.put, List.setIfInBounds_toArray, List.set_cons_zero, List.set_cons_succ]
      refine wpAnyR_take (i := 2) (oi := ⟨some 14, _, _, _, _, _⟩) (v := ?_) rfl (by kernel_rfl) (by kernel_rfl) (by kernel_rfl) (fun _ _ _ h => h) hp (.inl ⟨by rfl, fun w _ => ?_⟩) (fun hq => ?_)
      rotate_left
      · go_simp
        rw [if_pos (show i ≤ c by omega)]
      clear hp; have hp := hq; clear hq
      try simp only [Act.put, List.setIfInBounds_toArray, List.set_cons_zero, List.set_cons_succ]
      refine wpAnyR_take (i := 3) (oi := ⟨some 15, _, _, _, _, _⟩) (v := ?_) rfl (by kernel_rfl) (by kernel_rfl) (by kernel_rfl) (fun _ _ _ h => h) hp (.inl ⟨by rfl, fun w _ => ?_⟩) (fun hq => ?_)
      rotate_left
      · go_simp
        with_reducible rfl
      clear hp; have hp := hq; clear hq
      try simp only [Act.put, List.setIfInBounds_toArray, List.set_cons_zero, List.set_cons_succ]
      refine wpAnyR_take (i := 4) (oi := ⟨some 16, _, _, _, _, _⟩) (v := ?_) rfl (by kernel_rfl) (by kernel_rfl) (by kernel_rfl) (fun _ _ _ h => h) hp (.inl ⟨by rfl, fun w _ => ?_⟩) (fun hq => ?_)
      rotate_left
      · go_simp
        with_reducible rfl
      clear hp; have hp := hq; clear hq
      try simp only [Act.put, List.setIfInBounds_toArray, List.set_cons_zero, List.set_cons_succ]
      refine wpAnyR_take (i := 5) (oi := ⟨some 17, _, _, _, _, _⟩) (v := ?_) rfl (by kernel_rfl) (by kernel_rfl) (by kernel_rfl) (fun _ _ _ h => h) hp (.inl ⟨by rfl, fun w _ => ?_⟩) (fun hq => ?_)
      rotate_left
      · go_simp
        with_reducible rfl
      clear hp; have hp := hq; clear hq
      try simp only [Act.put, List.setIfInBounds_toArray, List.set_cons_zero, List.set_cons_succ]
      refine wpAnyR_step (i := 6) (o := ⟨some 18, _, _, _, _, _⟩) (by kernel_rfl) rfl (by rfl) (fun K hK => ?_) -- Op.load 29 (Operand.tmp 17)
      go_simp
      refine hK _ _ pend_nil (fun hq => ?_)
      clear hp hK K; have hp := hq; clear hq
      try simp only [Act.put, List.setIfInBounds_toArray, List.set_cons_zero, List.set_cons_succ]
      refine wpAnyR_step (i := 7) (o := ⟨some 19, _, _, _, _, _⟩) (by kernel_rfl) rfl (by rfl) (fun K hK => ?_) -- Op.call { callee := Callee.value (Operand.func 37), args := #[Operand.tmp 14, Operand.tmp 18], argTypes := #[2
      go_simp
      refine (HX.out.1 wr.drew (Below.refl _ wr).drew).mono ?_
      rintro e w3 ⟨rfl, hB3⟩
      show K _ _
      have HZ3 := Lib.hid ((hR.out.1.drew).trans (hB3.mono hR.out.1.size))
      clear hB3
      refine hK _ _ pend_nil (fun hq => ?_)
      clear hp hK K; have hp := hq; clear hq
      try simp only [Act.put, List.setIfInBounds_toArray, List.set_cons_zero, List.set_cons_succ]
      refine wpAnyR_take (i := 8) (oi := ⟨some 5, _, _, _, _, _⟩) (v := ?_) rfl (by kernel_rfl) (by kernel_rfl) (by kernel_rfl) (fun _ _ _ h => h) hp (.inl ⟨by rfl, fun w _ => ?_⟩) (fun hq => ?_)
      rotate_left
      · go_simp
        with_reducible rfl
      clear hp; have hp := hq; clear hq
      try simp only [Act.put, List.setIfInBounds_toArray, List.set_cons_zero, List.set_cons_succ]
      refine wpAnyR_done (by kernel_rfl) ?_ _
      clear hp
      go_wp2_with fail
      go_meet
      exact ⟨rfl, HZ3⟩
    case rest =>
    obtain ⟨rfl, HB⟩ := hcut
    apply_assumption
    clear g0 g1 g2 g3 g4 g5 g6 g7 g8 g9
    by_cases hf0 : f = 0
    case neg =>
      have hd2 : (f != 0) = true := by simpa using hf0
      have HF := Lib.hid hf0
      clear hf0
      go_wp2
      go_ret2
      exact ⟨by rw [HX.out.2, if_pos HF.out]; rfl, HB.out⟩
    subst hf0
    go_wp2
    go_roundg (gk - 1)
    case measure => omega
    case rel => exact ⟨i + 1, by go_num, by omega, Lib.hid ⟨HB.out, by rw [HX.out.2, if_neg (by simp)]⟩⟩

end Go.Proofs.YtfalajomfcfliaaGreatDoor
