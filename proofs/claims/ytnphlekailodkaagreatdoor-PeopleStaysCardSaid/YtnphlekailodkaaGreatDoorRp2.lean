/-
  The reference's questions, walked: who is dead, what is cancelled, heirs, homes, refusals.
-/
import Derived.Test.YtnphlekailodkaaGreatDoorAy
import Derived.Test.YtnphlekailodkaaGreatDoorFo
import Derived.Test.YtnphlekailodkaaGreatDoorRc
namespace Go.Proofs.YtnphlekailodkaaGreatDoor
open Go.RowKit

set_option maxRecDepth 1000000 in
set_option maxHeartbeats 4000000 in
theorem rHolds_calls (x : Pe.Ent) (d : Int) (w : World) :
    Calls Tryz.prog 41 #[.agg (eCells x), .int .i64 d] w fun e w' => e = .returned (.bool (x.on d)) ∧ Below w.heap.size w w' := by
  obtain ⟨V, hV⟩ : ∃ V, V = x.on d := ⟨_, rfl⟩
  rw [← hV]
  unfold Pe.Ent.on at hV
  go_enter Tryz.func41, Tryz.ntmps41
  unfold eCells
  go_upto_region 1 with fail
  obtain ⟨b, hb⟩ : ∃ b, b = w.heap.size := ⟨_, rfl⟩
  obtain ⟨w1, hw1⟩ : ∃ w1, w1 = w.alloc (.cells (eCells x) 31) := ⟨_, rfl⟩
  have hb1 : Below w.heap.size w w1 := by rw [hw1]; exact (Below.refl _ w).alloc (Nat.le_refl _) _
  have hc1 : Blk w1 b 31 (eCells x) := by rw [hw1, hb]; exact Blk.fresh _ _ _
  unfold eCells at hw1
  rw [← hb, ← hw1]
  have k2 : w1.cell? ⟨b, 2, none⟩ = some (.int .i64 x.since) := hc1.cell 2
  have k3 : w1.cell? ⟨b, 3, none⟩ = some (.int .i64 x.til) := hc1.cell 3
  have HV := Lib.hid hV
  have H1 := Lib.hid hb1
  clear hb1 hc1 hw1 hb hV
  cases h1 : decide (x.since ≤ d)
  · have HQ := Lib.hid h1
    go_wp2
    go_ret
    exact ⟨by rw [HV.out, HQ.out]; rfl, H1.out⟩
  cases h2 : (x.til == 0)
  · cases h3 : decide (d < x.til)
    all_goals
      have HQ := Lib.hid (And.intro h1 (And.intro h2 h3))
      go_wp2
      go_ret
      exact ⟨by rw [HV.out, HQ.out.1, HQ.out.2.1, HQ.out.2.2]; rfl, H1.out⟩
  · have HQ := Lib.hid (And.intro h1 h2)
    go_wp2
    go_ret
    exact ⟨by rw [HV.out, HQ.out.1, HQ.out.2]; rfl, H1.out⟩

set_option maxRecDepth 1000000 in
set_option maxHeartbeats 4000000 in
theorem rDead_calls (A : Option Addr) (n c : Nat) (l : List Pe.Ent) (p d : Int) (w : World) (h : EntsAt w A n l) :
    Calls Tryz.prog 42 #[.slice A n c, .int .i64 p, .int .i64 d] w fun e w' => e = .returned (.bool (Pe.dead l p d)) ∧ Below w.heap.size w w' := by
  have H := Lib.hid h
  have hmost := h.most
  rw [Pe.dead_eq]
  clear h
  go_enter Tryz.func42, Tryz.ntmps42
  go_wp2_with fail
  go_loopg [7, 8] n (fun q s7 s8 wr => ∃ i : Nat, s7 = .int .i64 (i : Int) ∧ i + q = n ∧ Hid (Below w.heap.size w wr ∧ (l.take i).any (fun x => x.kind == 3 && x.person == p && x.on d) = false))
  case atStart => exact ⟨0, by go_num, by omega, Lib.hid ⟨Below.refl _ _, by simp⟩⟩
  case round =>
    obtain ⟨i, rfl, hi, hR⟩ := hrel
    have hE := Lib.hid (H.out.below hR.out.1)
    by_cases hgo : i < n
    case neg =>
      have hd1 : decide ((i : Int) < (n : Int)) = false := by simp; omega
      go_wp2
      go_ret
      exact ⟨by rw [← any_end hR.out.2 (by have := H.out.len; omega)]; rfl, hR.out.1⟩
    have hd1 : decide ((i : Int) < (n : Int)) = true := by simp; omega
    obtain ⟨x, ad, hx, rfl, hok, hcw⟩ := hE.out.one hgo
    have g0 : wr.cell? (ad.add (i * 10)) = some (.int .i64 x.day) := hcw 0 _ rfl
    have g1 : wr.cell? ⟨(ad.add (i * 10)).block, (ad.add (i * 10)).off + 1, none⟩ = some (.int .u8 (x.kind : Int)) := hcw 1 _ rfl
    have g2 : wr.cell? ⟨(ad.add (i * 10)).block, (ad.add (i * 10)).off + 2, none⟩ = some (.int .i64 x.since) := hcw 2 _ rfl
    have g3 : wr.cell? ⟨(ad.add (i * 10)).block, (ad.add (i * 10)).off + 3, none⟩ = some (.int .i64 x.til) := hcw 3 _ rfl
    have g4 : wr.cell? ⟨(ad.add (i * 10)).block, (ad.add (i * 10)).off + 4, none⟩ = some (.int .i64 x.person) := hcw 4 _ rfl
    have g5 : wr.cell? ⟨(ad.add (i * 10)).block, (ad.add (i * 10)).off + 5, none⟩ = some (.int .i64 x.place) := hcw 5 _ rfl
    have g6 : wr.cell? ⟨(ad.add (i * 10)).block, (ad.add (i * 10)).off + 6, none⟩ = some (.int .i64 x.other) := hcw 6 _ rfl
    have g7 : wr.cell? ⟨(ad.add (i * 10)).block, (ad.add (i * 10)).off + 7, none⟩ = some (.int .i64 x.at_) := hcw 7 _ rfl
    have g8 : wr.cell? ⟨(ad.add (i * 10)).block, (ad.add (i * 10)).off + 8, none⟩ = some (.int .i64 x.order) := hcw 8 _ rfl
    have g9 : wr.cell? ⟨(ad.add (i * 10)).block, (ad.add (i * 10)).off + 9, none⟩ = some (.string (bs x.name)) := hcw 9 _ rfl
    have HX := Lib.hid hx
    clear hx hcw hok
    obtain ⟨ov, hov⟩ : ∃ ov, ov = x.on d := ⟨_, rfl⟩
    have hhc := rHolds_calls x d wr
    rw [← hov] at hhc
    unfold eCells at hhc
    have HHC := Lib.hid hhc
    have HOV := Lib.hid hov
    clear hhc hov
    go_wp2_with fail
    refine HHC.out.mono ?_
    rintro e w2 ⟨rfl, hb2⟩
    have hc2 := (hE.out.below hb2).get HX.out
    have HB := Lib.hid (hR.out.1.trans (hb2.mono hR.out.1.size))
    clear g0 g1 g2 g3 g4 g5 g6 g7 g8 g9
    have g0 : w2.cell? (ad.add (i * 10)) = some (.int .i64 x.day) := hc2 0 _ rfl
    have g1 : w2.cell? ⟨(ad.add (i * 10)).block, (ad.add (i * 10)).off + 1, none⟩ = some (.int .u8 (x.kind : Int)) := hc2 1 _ rfl
    have g2 : w2.cell? ⟨(ad.add (i * 10)).block, (ad.add (i * 10)).off + 2, none⟩ = some (.int .i64 x.since) := hc2 2 _ rfl
    have g3 : w2.cell? ⟨(ad.add (i * 10)).block, (ad.add (i * 10)).off + 3, none⟩ = some (.int .i64 x.til) := hc2 3 _ rfl
    have g4 : w2.cell? ⟨(ad.add (i * 10)).block, (ad.add (i * 10)).off + 4, none⟩ = some (.int .i64 x.person) := hc2 4 _ rfl
    have g5 : w2.cell? ⟨(ad.add (i * 10)).block, (ad.add (i * 10)).off + 5, none⟩ = some (.int .i64 x.place) := hc2 5 _ rfl
    have g6 : w2.cell? ⟨(ad.add (i * 10)).block, (ad.add (i * 10)).off + 6, none⟩ = some (.int .i64 x.other) := hc2 6 _ rfl
    have g7 : w2.cell? ⟨(ad.add (i * 10)).block, (ad.add (i * 10)).off + 7, none⟩ = some (.int .i64 x.at_) := hc2 7 _ rfl
    have g8 : w2.cell? ⟨(ad.add (i * 10)).block, (ad.add (i * 10)).off + 8, none⟩ = some (.int .i64 x.order) := hc2 8 _ rfl
    have g9 : w2.cell? ⟨(ad.add (i * 10)).block, (ad.add (i * 10)).off + 9, none⟩ = some (.string (bs x.name)) := hc2 9 _ rfl
    clear hc2 hb2
    dsimp only
    have k1 := nat_beq x.kind 3
    cases h1 : (x.kind == 3)
    · have q1 : ((x.kind : Int) == 3) = false := k1.trans h1
      have HQ := Lib.hid h1
      clear h1 k1
      go_wp2
      go_roundg (gk - 1)
      case measure => omega
      case rel => exact ⟨i + 1, by go_num, by omega, Lib.hid ⟨HB.out, any_on HX.out hR.out.2 (by rw [HQ.out]; rfl)⟩⟩
    cases h2 : (x.person == p)
    · have q1 : ((x.kind : Int) == 3) = true := k1.trans h1
      have HQ := Lib.hid h2
      clear h1 k1
      go_wp2
      go_roundg (gk - 1)
      case measure => omega
      case rel => exact ⟨i + 1, by go_num, by omega, Lib.hid ⟨HB.out, any_on HX.out hR.out.2 (by rw [HQ.out, Bool.and_false]; rfl)⟩⟩
    have q1 : ((x.kind : Int) == 3) = true := k1.trans h1
    have HQ := Lib.hid (And.intro h1 h2)
    clear h1 k1
    cases ov
    · skip
      go_wp2
      go_roundg (gk - 1)
      case measure => omega
      case rel => exact ⟨i + 1, by go_num, by omega, Lib.hid ⟨HB.out, any_on HX.out hR.out.2 (by rw [← HOV.out, Bool.and_false])⟩⟩
    · go_wp2
      go_ret
      exact ⟨by rw [any_yes HX.out (by rw [HQ.out.1, HQ.out.2, ← HOV.out]; rfl)]; rfl, HB.out⟩

set_option maxRecDepth 1000000 in
set_option maxHeartbeats 4000000 in
theorem rcancelled_calls (A : Option Addr) (n c : Nat) (l : List Pe.Ent) (p d : Int) (w : World) (h : EntsAt w A n l) :
    Calls Tryz.prog 184 #[.slice A n c, .int .i64 p, .int .i64 d] w fun e w' => e = .returned (.bool (Pe.cancelled l p d)) ∧ Below w.heap.size w w' := by
  have H := Lib.hid h
  have hmost := h.most
  rw [Pe.cancelled_eq]
  clear h
  go_enter Tryz.func184, Tryz.ntmps184
  go_wp2_with fail
  go_loopg [7, 8] n (fun q s7 s8 wr => ∃ i : Nat, s7 = .int .i64 (i : Int) ∧ i + q = n ∧ Hid (Below w.heap.size w wr ∧ (l.take i).any (fun x => x.kind == 6 && x.order == p && x.on d) = false))
  case atStart => exact ⟨0, by go_num, by omega, Lib.hid ⟨Below.refl _ _, by simp⟩⟩
  case round =>
    obtain ⟨i, rfl, hi, hR⟩ := hrel
    have hE := Lib.hid (H.out.below hR.out.1)
    by_cases hgo : i < n
    case neg =>
      have hd1 : decide ((i : Int) < (n : Int)) = false := by simp; omega
      go_wp2
      go_ret
      exact ⟨by rw [← any_end hR.out.2 (by have := H.out.len; omega)]; rfl, hR.out.1⟩
    have hd1 : decide ((i : Int) < (n : Int)) = true := by simp; omega
    obtain ⟨x, ad, hx, rfl, hok, hcw⟩ := hE.out.one hgo
    have g0 : wr.cell? (ad.add (i * 10)) = some (.int .i64 x.day) := hcw 0 _ rfl
    have g1 : wr.cell? ⟨(ad.add (i * 10)).block, (ad.add (i * 10)).off + 1, none⟩ = some (.int .u8 (x.kind : Int)) := hcw 1 _ rfl
    have g2 : wr.cell? ⟨(ad.add (i * 10)).block, (ad.add (i * 10)).off + 2, none⟩ = some (.int .i64 x.since) := hcw 2 _ rfl
    have g3 : wr.cell? ⟨(ad.add (i * 10)).block, (ad.add (i * 10)).off + 3, none⟩ = some (.int .i64 x.til) := hcw 3 _ rfl
    have g4 : wr.cell? ⟨(ad.add (i * 10)).block, (ad.add (i * 10)).off + 4, none⟩ = some (.int .i64 x.person) := hcw 4 _ rfl
    have g5 : wr.cell? ⟨(ad.add (i * 10)).block, (ad.add (i * 10)).off + 5, none⟩ = some (.int .i64 x.place) := hcw 5 _ rfl
    have g6 : wr.cell? ⟨(ad.add (i * 10)).block, (ad.add (i * 10)).off + 6, none⟩ = some (.int .i64 x.other) := hcw 6 _ rfl
    have g7 : wr.cell? ⟨(ad.add (i * 10)).block, (ad.add (i * 10)).off + 7, none⟩ = some (.int .i64 x.at_) := hcw 7 _ rfl
    have g8 : wr.cell? ⟨(ad.add (i * 10)).block, (ad.add (i * 10)).off + 8, none⟩ = some (.int .i64 x.order) := hcw 8 _ rfl
    have g9 : wr.cell? ⟨(ad.add (i * 10)).block, (ad.add (i * 10)).off + 9, none⟩ = some (.string (bs x.name)) := hcw 9 _ rfl
    have HX := Lib.hid hx
    clear hx hcw hok
    obtain ⟨ov, hov⟩ : ∃ ov, ov = x.on d := ⟨_, rfl⟩
    have hhc := rHolds_calls x d wr
    rw [← hov] at hhc
    unfold eCells at hhc
    have HHC := Lib.hid hhc
    have HOV := Lib.hid hov
    clear hhc hov
    go_wp2_with fail
    refine HHC.out.mono ?_
    rintro e w2 ⟨rfl, hb2⟩
    have hc2 := (hE.out.below hb2).get HX.out
    have HB := Lib.hid (hR.out.1.trans (hb2.mono hR.out.1.size))
    clear g0 g1 g2 g3 g4 g5 g6 g7 g8 g9
    have g0 : w2.cell? (ad.add (i * 10)) = some (.int .i64 x.day) := hc2 0 _ rfl
    have g1 : w2.cell? ⟨(ad.add (i * 10)).block, (ad.add (i * 10)).off + 1, none⟩ = some (.int .u8 (x.kind : Int)) := hc2 1 _ rfl
    have g2 : w2.cell? ⟨(ad.add (i * 10)).block, (ad.add (i * 10)).off + 2, none⟩ = some (.int .i64 x.since) := hc2 2 _ rfl
    have g3 : w2.cell? ⟨(ad.add (i * 10)).block, (ad.add (i * 10)).off + 3, none⟩ = some (.int .i64 x.til) := hc2 3 _ rfl
    have g4 : w2.cell? ⟨(ad.add (i * 10)).block, (ad.add (i * 10)).off + 4, none⟩ = some (.int .i64 x.person) := hc2 4 _ rfl
    have g5 : w2.cell? ⟨(ad.add (i * 10)).block, (ad.add (i * 10)).off + 5, none⟩ = some (.int .i64 x.place) := hc2 5 _ rfl
    have g6 : w2.cell? ⟨(ad.add (i * 10)).block, (ad.add (i * 10)).off + 6, none⟩ = some (.int .i64 x.other) := hc2 6 _ rfl
    have g7 : w2.cell? ⟨(ad.add (i * 10)).block, (ad.add (i * 10)).off + 7, none⟩ = some (.int .i64 x.at_) := hc2 7 _ rfl
    have g8 : w2.cell? ⟨(ad.add (i * 10)).block, (ad.add (i * 10)).off + 8, none⟩ = some (.int .i64 x.order) := hc2 8 _ rfl
    have g9 : w2.cell? ⟨(ad.add (i * 10)).block, (ad.add (i * 10)).off + 9, none⟩ = some (.string (bs x.name)) := hc2 9 _ rfl
    clear hc2 hb2
    dsimp only
    have k1 := nat_beq x.kind 6
    cases h1 : (x.kind == 6)
    · have q1 : ((x.kind : Int) == 6) = false := k1.trans h1
      have HQ := Lib.hid h1
      clear h1 k1
      go_wp2
      go_roundg (gk - 1)
      case measure => omega
      case rel => exact ⟨i + 1, by go_num, by omega, Lib.hid ⟨HB.out, any_on HX.out hR.out.2 (by rw [HQ.out]; rfl)⟩⟩
    cases h2 : (x.order == p)
    · have q1 : ((x.kind : Int) == 6) = true := k1.trans h1
      have HQ := Lib.hid h2
      clear h1 k1
      go_wp2
      go_roundg (gk - 1)
      case measure => omega
      case rel => exact ⟨i + 1, by go_num, by omega, Lib.hid ⟨HB.out, any_on HX.out hR.out.2 (by rw [HQ.out, Bool.and_false]; rfl)⟩⟩
    have q1 : ((x.kind : Int) == 6) = true := k1.trans h1
    have HQ := Lib.hid (And.intro h1 h2)
    clear h1 k1
    cases ov
    · skip
      go_wp2
      go_roundg (gk - 1)
      case measure => omega
      case rel => exact ⟨i + 1, by go_num, by omega, Lib.hid ⟨HB.out, any_on HX.out hR.out.2 (by rw [← HOV.out, Bool.and_false])⟩⟩
    · go_wp2
      go_ret
      exact ⟨by rw [any_yes HX.out (by rw [HQ.out.1, HQ.out.2, ← HOV.out]; rfl)]; rfl, HB.out⟩

end Go.Proofs.YtnphlekailodkaaGreatDoor

namespace Go.Proofs.YtnphlekailodkaaGreatDoor
open Go.RowKit

namespace Pe
theorem lastOf_app (a b : List Ent) (q : Ent → Bool) : lastOf (a ++ b) q = (lastOf b q).or (lastOf a q) := by
  unfold lastOf; rw [List.filter_append, List.getLast?_append]
theorem drop_one {l : List Ent} {i : Nat} {x : Ent} (h : l[i]? = some x) : l.drop i = x :: l.drop (i + 1) := by
  obtain ⟨hl, rfl⟩ := List.getElem?_eq_some_iff.1 h
  exact List.drop_eq_getElem_cons hl
theorem last_found {l : List Ent} {i : Nat} {x : Ent} {q : Ent → Bool} (h : l[i]? = some x) (h0 : lastOf (l.drop (i + 1)) q = none) (hq : q x = true) : lastOf l q = some x := by
  rw [show l = l.take i ++ l.drop i from (List.take_append_drop i l).symm, lastOf_app, drop_one h, lastOf_cons, h0, if_pos hq]; rfl
theorem last_on {l : List Ent} {i : Nat} {x : Ent} {q : Ent → Bool} (h : l[i]? = some x) (h0 : lastOf (l.drop (i + 1)) q = none) (hq : q x = false) : lastOf (l.drop i) q = none := by
  rw [drop_one h, lastOf_cons, h0, hq]; rfl
end Pe

set_option maxRecDepth 1000000 in
set_option maxHeartbeats 4000000 in
theorem rHeir_calls (A : Option Addr) (n c : Nat) (l : List Pe.Ent) (p d : Int) (w : World) (h : EntsAt w A n l) :
    Calls Tryz.prog 35 #[.slice A n c, .int .i64 p, .int .i64 d] w fun e w' => e = .returned (.tuple #[.int .i64 ((Pe.heir? l p d).getD 0), .bool (Pe.heir? l p d).isSome]) ∧ Below w.heap.size w w' := by
  have H := Lib.hid h
  have hmost := h.most
  obtain ⟨V, hV⟩ : ∃ V, V = Pe.heir? l p d := ⟨_, rfl⟩
  rw [← hV]
  rw [Pe.heir_eq] at hV
  have HV := Lib.hid hV
  clear h hV
  go_enter Tryz.func35, Tryz.ntmps35
  go_wp2_with fail
  go_loopg [8, 9] n (fun q s8 s9 wr => ∃ (i : Nat) (z : Int), s8 = .int .i64 z ∧ z + 1 = (i : Int) ∧ i = q ∧ i ≤ n ∧ Hid (Below w.heap.size w wr ∧ Pe.lastOf (l.drop i) (fun x => x.kind == 4 && x.person == p && x.on d) = none))
  case atStart => exact ⟨n, (n : Int) - 1, by go_num, by omega, rfl, by omega, Lib.hid ⟨Below.refl _ _, by rw [List.drop_of_length_le (by have := H.out.len; omega)]; rfl⟩⟩
  case round =>
    obtain ⟨i, z, rfl, hz, rfl, hin, hR⟩ := hrel
    have hE := Lib.hid (H.out.below hR.out.1)
    cases i with
    | zero =>
      obtain rfl : z = -1 := by omega
      clear hz
      go_wp2
      go_ret2
      exact ⟨by rw [HV.out, show l = l.drop 0 from rfl, hR.out.2]; rfl, hR.out.1⟩
    | succ i =>
    obtain rfl : z = (i : Int) := by omega
    clear hz
    have hd1 : decide ((0 : Int) ≤ (i : Int)) = true := by simp
    obtain ⟨x, ad, hx, rfl, hok, hcw⟩ := hE.out.one (i := i) (by omega)
    have g0 : wr.cell? (ad.add (i * 10)) = some (.int .i64 x.day) := hcw 0 _ rfl
    have g1 : wr.cell? ⟨(ad.add (i * 10)).block, (ad.add (i * 10)).off + 1, none⟩ = some (.int .u8 (x.kind : Int)) := hcw 1 _ rfl
    have g2 : wr.cell? ⟨(ad.add (i * 10)).block, (ad.add (i * 10)).off + 2, none⟩ = some (.int .i64 x.since) := hcw 2 _ rfl
    have g3 : wr.cell? ⟨(ad.add (i * 10)).block, (ad.add (i * 10)).off + 3, none⟩ = some (.int .i64 x.til) := hcw 3 _ rfl
    have g4 : wr.cell? ⟨(ad.add (i * 10)).block, (ad.add (i * 10)).off + 4, none⟩ = some (.int .i64 x.person) := hcw 4 _ rfl
    have g5 : wr.cell? ⟨(ad.add (i * 10)).block, (ad.add (i * 10)).off + 5, none⟩ = some (.int .i64 x.place) := hcw 5 _ rfl
    have g6 : wr.cell? ⟨(ad.add (i * 10)).block, (ad.add (i * 10)).off + 6, none⟩ = some (.int .i64 x.other) := hcw 6 _ rfl
    have g7 : wr.cell? ⟨(ad.add (i * 10)).block, (ad.add (i * 10)).off + 7, none⟩ = some (.int .i64 x.at_) := hcw 7 _ rfl
    have g8 : wr.cell? ⟨(ad.add (i * 10)).block, (ad.add (i * 10)).off + 8, none⟩ = some (.int .i64 x.order) := hcw 8 _ rfl
    have g9 : wr.cell? ⟨(ad.add (i * 10)).block, (ad.add (i * 10)).off + 9, none⟩ = some (.string (bs x.name)) := hcw 9 _ rfl
    have HX := Lib.hid hx
    clear hx hcw hok
    obtain ⟨ov, hov⟩ : ∃ ov, ov = x.on d := ⟨_, rfl⟩
    have hhc := rHolds_calls x d wr
    rw [← hov] at hhc
    unfold eCells at hhc
    have HHC := Lib.hid hhc
    have HOV := Lib.hid hov
    clear hhc hov
    go_wp2_with fail
    refine HHC.out.mono ?_
    rintro e w2 ⟨rfl, hb2⟩
    have hc2 := (hE.out.below hb2).get HX.out
    have HB := Lib.hid (hR.out.1.trans (hb2.mono hR.out.1.size))
    clear g0 g1 g2 g3 g4 g5 g6 g7 g8 g9
    have g0 : w2.cell? (ad.add (i * 10)) = some (.int .i64 x.day) := hc2 0 _ rfl
    have g1 : w2.cell? ⟨(ad.add (i * 10)).block, (ad.add (i * 10)).off + 1, none⟩ = some (.int .u8 (x.kind : Int)) := hc2 1 _ rfl
    have g2 : w2.cell? ⟨(ad.add (i * 10)).block, (ad.add (i * 10)).off + 2, none⟩ = some (.int .i64 x.since) := hc2 2 _ rfl
    have g3 : w2.cell? ⟨(ad.add (i * 10)).block, (ad.add (i * 10)).off + 3, none⟩ = some (.int .i64 x.til) := hc2 3 _ rfl
    have g4 : w2.cell? ⟨(ad.add (i * 10)).block, (ad.add (i * 10)).off + 4, none⟩ = some (.int .i64 x.person) := hc2 4 _ rfl
    have g5 : w2.cell? ⟨(ad.add (i * 10)).block, (ad.add (i * 10)).off + 5, none⟩ = some (.int .i64 x.place) := hc2 5 _ rfl
    have g6 : w2.cell? ⟨(ad.add (i * 10)).block, (ad.add (i * 10)).off + 6, none⟩ = some (.int .i64 x.other) := hc2 6 _ rfl
    have g7 : w2.cell? ⟨(ad.add (i * 10)).block, (ad.add (i * 10)).off + 7, none⟩ = some (.int .i64 x.at_) := hc2 7 _ rfl
    have g8 : w2.cell? ⟨(ad.add (i * 10)).block, (ad.add (i * 10)).off + 8, none⟩ = some (.int .i64 x.order) := hc2 8 _ rfl
    have g9 : w2.cell? ⟨(ad.add (i * 10)).block, (ad.add (i * 10)).off + 9, none⟩ = some (.string (bs x.name)) := hc2 9 _ rfl
    clear hc2 hb2
    dsimp only
    have k1 := nat_beq x.kind 4
    cases h1 : (x.kind == 4)
    · have q1 : ((x.kind : Int) == 4) = false := k1.trans h1
      have HQ := Lib.hid h1
      clear h1 k1
      go_wp2
      go_roundg i
      case measure => omega
      case rel => exact ⟨i, (i : Int) - 1, by go_num, by omega, rfl, by omega, Lib.hid ⟨HB.out, Pe.last_on HX.out hR.out.2 (by rw [HQ.out]; rfl)⟩⟩
    cases h2 : (x.person == p)
    · have q1 : ((x.kind : Int) == 4) = true := k1.trans h1
      have HQ := Lib.hid h2
      clear h1 k1
      go_wp2
      go_roundg i
      case measure => omega
      case rel => exact ⟨i, (i : Int) - 1, by go_num, by omega, rfl, by omega, Lib.hid ⟨HB.out, Pe.last_on HX.out hR.out.2 (by rw [HQ.out, Bool.and_false]; rfl)⟩⟩
    have q1 : ((x.kind : Int) == 4) = true := k1.trans h1
    have HQ := Lib.hid (And.intro h1 h2)
    clear h1 k1
    cases ov
    · skip
      go_wp2
      go_roundg i
      case measure => omega
      case rel => exact ⟨i, (i : Int) - 1, by go_num, by omega, rfl, by omega, Lib.hid ⟨HB.out, Pe.last_on HX.out hR.out.2 (by rw [← HOV.out, Bool.and_false])⟩⟩
    · go_wp2
      go_ret2
      exact ⟨by rw [HV.out, Pe.last_found HX.out hR.out.2 (by rw [HQ.out.1, HQ.out.2, ← HOV.out]; rfl)]; rfl, HB.out⟩

set_option maxRecDepth 1000000 in
set_option maxHeartbeats 4000000 in
theorem rHome_calls (A : Option Addr) (n c : Nat) (l : List Pe.Ent) (p d : Int) (w : World) (h : EntsAt w A n l) :
    Calls Tryz.prog 33 #[.slice A n c, .int .i64 p, .int .i64 d] w fun e w' => e = .returned (.tuple #[.int .i64 ((Pe.home? l p d).getD 0), .bool (Pe.home? l p d).isSome]) ∧ Below w.heap.size w w' := by
  have H := Lib.hid h
  have hmost := h.most
  obtain ⟨V, hV⟩ : ∃ V, V = Pe.home? l p d := ⟨_, rfl⟩
  rw [← hV]
  rw [Pe.home_eq] at hV
  obtain ⟨D, hD⟩ : ∃ D, D = Pe.dead l p d := ⟨_, rfl⟩
  rw [← hD] at hV
  have hdc := rDead_calls A n c l p d w h
  rw [← hD] at hdc
  have HDC := Lib.hid hdc
  clear h hD hdc
  go_enter Tryz.func33, Tryz.ntmps33
  go_wp2_with fail
  refine HDC.out.mono ?_
  rintro e w1 ⟨rfl, hb1⟩
  have H1 := Lib.hid hb1
  clear hb1
  dsimp only
  cases D
  · have HV := Lib.hid (show V = (Pe.lastOf l fun x => x.kind == 2 && x.person == p && x.on d).map (·.place) by rw [hV, if_neg (by simp)])
    clear hV
    go_wp2_with fail
    go_loopg [9, 10] n (fun q s9 s10 wr => ∃ (i : Nat) (z : Int), s9 = .int .i64 z ∧ z + 1 = (i : Int) ∧ i = q ∧ i ≤ n ∧ Hid (Below w.heap.size w wr ∧ Pe.lastOf (l.drop i) (fun x => x.kind == 2 && x.person == p && x.on d) = none))
    case atStart => exact ⟨n, (n : Int) - 1, by go_num, by omega, rfl, by omega, Lib.hid ⟨H1.out, by rw [List.drop_of_length_le (by have := H.out.len; omega)]; rfl⟩⟩
    case round =>
      obtain ⟨i, z, rfl, hz, rfl, hin, hR⟩ := hrel
      have hE := Lib.hid (H.out.below hR.out.1)
      cases i with
      | zero =>
        obtain rfl : z = -1 := by omega
        clear hz
        go_wp2
        go_ret2
        exact ⟨by rw [HV.out, show l = l.drop 0 from rfl, hR.out.2]; rfl, hR.out.1⟩
      | succ i =>
      obtain rfl : z = (i : Int) := by omega
      clear hz
      have hd1 : decide ((0 : Int) ≤ (i : Int)) = true := by simp
      obtain ⟨x, ad, hx, rfl, hok, hcw⟩ := hE.out.one (i := i) (by omega)
      have g0 : wr.cell? (ad.add (i * 10)) = some (.int .i64 x.day) := hcw 0 _ rfl
      have g1 : wr.cell? ⟨(ad.add (i * 10)).block, (ad.add (i * 10)).off + 1, none⟩ = some (.int .u8 (x.kind : Int)) := hcw 1 _ rfl
      have g2 : wr.cell? ⟨(ad.add (i * 10)).block, (ad.add (i * 10)).off + 2, none⟩ = some (.int .i64 x.since) := hcw 2 _ rfl
      have g3 : wr.cell? ⟨(ad.add (i * 10)).block, (ad.add (i * 10)).off + 3, none⟩ = some (.int .i64 x.til) := hcw 3 _ rfl
      have g4 : wr.cell? ⟨(ad.add (i * 10)).block, (ad.add (i * 10)).off + 4, none⟩ = some (.int .i64 x.person) := hcw 4 _ rfl
      have g5 : wr.cell? ⟨(ad.add (i * 10)).block, (ad.add (i * 10)).off + 5, none⟩ = some (.int .i64 x.place) := hcw 5 _ rfl
      have g6 : wr.cell? ⟨(ad.add (i * 10)).block, (ad.add (i * 10)).off + 6, none⟩ = some (.int .i64 x.other) := hcw 6 _ rfl
      have g7 : wr.cell? ⟨(ad.add (i * 10)).block, (ad.add (i * 10)).off + 7, none⟩ = some (.int .i64 x.at_) := hcw 7 _ rfl
      have g8 : wr.cell? ⟨(ad.add (i * 10)).block, (ad.add (i * 10)).off + 8, none⟩ = some (.int .i64 x.order) := hcw 8 _ rfl
      have g9 : wr.cell? ⟨(ad.add (i * 10)).block, (ad.add (i * 10)).off + 9, none⟩ = some (.string (bs x.name)) := hcw 9 _ rfl
      have HX := Lib.hid hx
      clear hx hcw hok
      obtain ⟨ov, hov⟩ : ∃ ov, ov = x.on d := ⟨_, rfl⟩
      have hhc := rHolds_calls x d wr
      rw [← hov] at hhc
      unfold eCells at hhc
      have HHC := Lib.hid hhc
      have HOV := Lib.hid hov
      clear hhc hov
      go_wp2_with fail
      refine HHC.out.mono ?_
      rintro e w2 ⟨rfl, hb2⟩
      have hc2 := (hE.out.below hb2).get HX.out
      have HB := Lib.hid (hR.out.1.trans (hb2.mono hR.out.1.size))
      clear g0 g1 g2 g3 g4 g5 g6 g7 g8 g9
      have g0 : w2.cell? (ad.add (i * 10)) = some (.int .i64 x.day) := hc2 0 _ rfl
      have g1 : w2.cell? ⟨(ad.add (i * 10)).block, (ad.add (i * 10)).off + 1, none⟩ = some (.int .u8 (x.kind : Int)) := hc2 1 _ rfl
      have g2 : w2.cell? ⟨(ad.add (i * 10)).block, (ad.add (i * 10)).off + 2, none⟩ = some (.int .i64 x.since) := hc2 2 _ rfl
      have g3 : w2.cell? ⟨(ad.add (i * 10)).block, (ad.add (i * 10)).off + 3, none⟩ = some (.int .i64 x.til) := hc2 3 _ rfl
      have g4 : w2.cell? ⟨(ad.add (i * 10)).block, (ad.add (i * 10)).off + 4, none⟩ = some (.int .i64 x.person) := hc2 4 _ rfl
      have g5 : w2.cell? ⟨(ad.add (i * 10)).block, (ad.add (i * 10)).off + 5, none⟩ = some (.int .i64 x.place) := hc2 5 _ rfl
      have g6 : w2.cell? ⟨(ad.add (i * 10)).block, (ad.add (i * 10)).off + 6, none⟩ = some (.int .i64 x.other) := hc2 6 _ rfl
      have g7 : w2.cell? ⟨(ad.add (i * 10)).block, (ad.add (i * 10)).off + 7, none⟩ = some (.int .i64 x.at_) := hc2 7 _ rfl
      have g8 : w2.cell? ⟨(ad.add (i * 10)).block, (ad.add (i * 10)).off + 8, none⟩ = some (.int .i64 x.order) := hc2 8 _ rfl
      have g9 : w2.cell? ⟨(ad.add (i * 10)).block, (ad.add (i * 10)).off + 9, none⟩ = some (.string (bs x.name)) := hc2 9 _ rfl
      clear hc2 hb2
      dsimp only
      have k1 := nat_beq x.kind 2
      cases h1 : (x.kind == 2)
      · have q1 : ((x.kind : Int) == 2) = false := k1.trans h1
        have HQ := Lib.hid h1
        clear h1 k1
        go_wp2
        go_roundg i
        case measure => omega
        case rel => exact ⟨i, (i : Int) - 1, by go_num, by omega, rfl, by omega, Lib.hid ⟨HB.out, Pe.last_on HX.out hR.out.2 (by rw [HQ.out]; rfl)⟩⟩
      cases h2 : (x.person == p)
      · have q1 : ((x.kind : Int) == 2) = true := k1.trans h1
        have HQ := Lib.hid h2
        clear h1 k1
        go_wp2
        go_roundg i
        case measure => omega
        case rel => exact ⟨i, (i : Int) - 1, by go_num, by omega, rfl, by omega, Lib.hid ⟨HB.out, Pe.last_on HX.out hR.out.2 (by rw [HQ.out, Bool.and_false]; rfl)⟩⟩
      have q1 : ((x.kind : Int) == 2) = true := k1.trans h1
      have HQ := Lib.hid (And.intro h1 h2)
      clear h1 k1
      cases ov
      · skip
        go_wp2
        go_roundg i
        case measure => omega
        case rel => exact ⟨i, (i : Int) - 1, by go_num, by omega, rfl, by omega, Lib.hid ⟨HB.out, Pe.last_on HX.out hR.out.2 (by rw [← HOV.out, Bool.and_false])⟩⟩
      · go_wp2
        go_ret2
        exact ⟨by rw [HV.out, Pe.last_found HX.out hR.out.2 (by rw [HQ.out.1, HQ.out.2, ← HOV.out]; rfl)]; rfl, HB.out⟩
  · have HV := Lib.hid (show V = none by rw [hV, if_pos rfl])
    clear hV
    go_wp2_with fail
    go_loopg [9, 10] 0 (fun q s9 s10 wr => s9 = .int .i64 ((n : Int) - 1) ∧ wr = w1)
    case atStart => exact ⟨by go_num, rfl⟩
    case round =>
      obtain ⟨rfl, rfl⟩ := hrel
      go_wp2
      all_goals
        go_ret2
        exact ⟨by rw [HV.out]; rfl, H1.out⟩

theorem bool5 : ∀ {a b c d e : Bool}, (a = false ∨ b = false ∨ c = false ∨ d = false ∨ e = false) → (a && b && c && d && e) = false := by decide
set_option maxRecDepth 1000000 in
set_option maxHeartbeats 8000000 in
theorem rRefuses_calls (A : Option Addr) (n c : Nat) (l : List Pe.Ent) (cd : Pe.Pair) (s d : Int) (w : World) (h : EntsAt w A n l) :
    Calls Tryz.prog 90 #[.slice A n c, .agg (pCells cd), .int .i64 s, .int .i64 d] w fun e w' => e = .returned (.bool (Pe.refuses l cd s d)) ∧ Below w.heap.size w w' := by
  have H := Lib.hid h
  have hmost := h.most
  obtain ⟨V, hV⟩ : ∃ V, V = Pe.refuses l cd s d := ⟨_, rfl⟩
  rw [← hV]
  rw [Pe.refuses_eq] at hV
  obtain ⟨D, hD⟩ : ∃ D, D = Pe.dead l cd.1 d := ⟨_, rfl⟩
  rw [← hD] at hV
  have hdc := fun w0 (hb : Below w.heap.size w w0) => rDead_calls A n c l cd.1 d w0 (H.out.below hb)
  rw [← hD] at hdc
  have HDC := Lib.hid hdc
  clear h hD hdc
  go_enter Tryz.func90, Tryz.ntmps90
  unfold pCells
  go_upto_region 1 with fail
  obtain ⟨b, hb⟩ : ∃ b, b = w.heap.size := ⟨_, rfl⟩
  obtain ⟨w1, hw1⟩ : ∃ w1, w1 = w.alloc (.cells (pCells cd) 28) := ⟨_, rfl⟩
  have hb1 : Below w.heap.size w w1 := by rw [hw1]; exact (Below.refl _ w).alloc (Nat.le_refl _) _
  have hc1 : Blk w1 b 28 (pCells cd) := by rw [hw1, hb]; exact Blk.fresh _ _ _
  unfold pCells at hw1
  rw [← hb, ← hw1]
  have H1 := Lib.hid (And.intro hb1 hc1)
  have k0 : w1.cell? ⟨b, 0, none⟩ = some (.int .i64 cd.1) := hc1.cell 0
  clear hb1 hc1 hw1 hb
  go_wp2_with fail
  refine (HDC.out w1 H1.out.1).mono ?_
  rintro e w2 ⟨rfl, hb2⟩
  have H2 := Lib.hid (And.intro (H1.out.1.trans (hb2.mono H1.out.1.size)) (H1.out.2.below hb2 H1.out.2.lt))
  clear hb2 k0
  dsimp only
  cases D
  case true =>
    have HV := Lib.hid (show V = false from hV)
    clear hV
    go_wp2_with fail
    go_loopg [10, 11, 12] 0 (fun q s10 s11 s12 wr => s10 = .int .i64 0 ∧ wr = w2)
    case atStart => exact ⟨rfl, rfl⟩
    case round =>
      obtain ⟨rfl, rfl⟩ := hrel
      go_wp2
      all_goals
        go_ret
        exact ⟨by rw [HV.out]; rfl, H2.out.1⟩
  have HV := Lib.hid (show V = l.any fun x => x.kind == 7 && x.person == cd.1 && (x.place == 0 || x.place == cd.2) && (x.other == 0 || x.other == s) && x.on d from hV)
  clear hV
  go_wp2_with fail
  go_loopg [10, 11, 12] n (fun q s10 s11 s12 wr => ∃ i : Nat, s10 = .int .i64 (i : Int) ∧ i + q = n ∧ Hid (Below w.heap.size w wr ∧ Blk wr b 28 (pCells cd) ∧ (l.take i).any (fun x => x.kind == 7 && x.person == cd.1 && (x.place == 0 || x.place == cd.2) && (x.other == 0 || x.other == s) && x.on d) = false))
  case atStart => exact ⟨0, by go_num, by omega, Lib.hid ⟨H2.out.1, H2.out.2, by simp⟩⟩
  case round =>
    obtain ⟨i, rfl, hi, hR⟩ := hrel
    have hE := Lib.hid (H.out.below hR.out.1)
    by_cases hgo : i < n
    case neg =>
      have hd1 : decide ((i : Int) < (n : Int)) = false := by simp; omega
      go_wp2
      go_ret
      exact ⟨by rw [HV.out, any_end hR.out.2.2 (by have := H.out.len; omega)]; rfl, hR.out.1⟩
    have hd1 : decide ((i : Int) < (n : Int)) = true := by simp; omega
    obtain ⟨x, ad, hx, rfl, hok, hcw⟩ := hE.out.one hgo
    have g0 : wr.cell? (ad.add (i * 10)) = some (.int .i64 x.day) := hcw 0 _ rfl
    have g1 : wr.cell? ⟨(ad.add (i * 10)).block, (ad.add (i * 10)).off + 1, none⟩ = some (.int .u8 (x.kind : Int)) := hcw 1 _ rfl
    have g2 : wr.cell? ⟨(ad.add (i * 10)).block, (ad.add (i * 10)).off + 2, none⟩ = some (.int .i64 x.since) := hcw 2 _ rfl
    have g3 : wr.cell? ⟨(ad.add (i * 10)).block, (ad.add (i * 10)).off + 3, none⟩ = some (.int .i64 x.til) := hcw 3 _ rfl
    have g4 : wr.cell? ⟨(ad.add (i * 10)).block, (ad.add (i * 10)).off + 4, none⟩ = some (.int .i64 x.person) := hcw 4 _ rfl
    have g5 : wr.cell? ⟨(ad.add (i * 10)).block, (ad.add (i * 10)).off + 5, none⟩ = some (.int .i64 x.place) := hcw 5 _ rfl
    have g6 : wr.cell? ⟨(ad.add (i * 10)).block, (ad.add (i * 10)).off + 6, none⟩ = some (.int .i64 x.other) := hcw 6 _ rfl
    have g7 : wr.cell? ⟨(ad.add (i * 10)).block, (ad.add (i * 10)).off + 7, none⟩ = some (.int .i64 x.at_) := hcw 7 _ rfl
    have g8 : wr.cell? ⟨(ad.add (i * 10)).block, (ad.add (i * 10)).off + 8, none⟩ = some (.int .i64 x.order) := hcw 8 _ rfl
    have g9 : wr.cell? ⟨(ad.add (i * 10)).block, (ad.add (i * 10)).off + 9, none⟩ = some (.string (bs x.name)) := hcw 9 _ rfl
    have HX := Lib.hid hx
    clear hx hcw hok
    go_upto_region 6 with fail
    obtain ⟨g, hg⟩ : ∃ g, g = wr.heap.size := ⟨_, rfl⟩
    obtain ⟨w3, hw3⟩ : ∃ w3, w3 = wr.alloc (.cells (eCells x) 31) := ⟨_, rfl⟩
    have hb3 : Below wr.heap.size wr w3 := by rw [hw3]; exact (Below.refl _ wr).alloc (Nat.le_refl _) _
    have hg3 : Blk w3 g 31 (eCells x) := by rw [hw3, hg]; exact Blk.fresh _ _ _
    unfold eCells at hw3
    rw [← hg, ← hw3]
    have H3 := Lib.hid (And.intro (hR.out.1.trans (hb3.mono hR.out.1.size)) (And.intro (hR.out.2.1.below hb3 hR.out.2.1.lt) hg3))
    clear g0 g1 g2 g3 g4 g5 g6 g7 g8 g9
    clear hb3 hg3 hw3 hg
    have g0 : w3.cell? ⟨g, 0, none⟩ = some (.int .i64 x.day) := H3.out.2.2.cell 0
    have g1 : w3.cell? ⟨g, 1, none⟩ = some (.int .u8 (x.kind : Int)) := H3.out.2.2.cell 1
    have g2 : w3.cell? ⟨g, 2, none⟩ = some (.int .i64 x.since) := H3.out.2.2.cell 2
    have g3 : w3.cell? ⟨g, 3, none⟩ = some (.int .i64 x.til) := H3.out.2.2.cell 3
    have g4 : w3.cell? ⟨g, 4, none⟩ = some (.int .i64 x.person) := H3.out.2.2.cell 4
    have g5 : w3.cell? ⟨g, 5, none⟩ = some (.int .i64 x.place) := H3.out.2.2.cell 5
    have g6 : w3.cell? ⟨g, 6, none⟩ = some (.int .i64 x.other) := H3.out.2.2.cell 6
    have g7 : w3.cell? ⟨g, 7, none⟩ = some (.int .i64 x.at_) := H3.out.2.2.cell 7
    have g8 : w3.cell? ⟨g, 8, none⟩ = some (.int .i64 x.order) := H3.out.2.2.cell 8
    have g9 : w3.cell? ⟨g, 9, none⟩ = some (.string (bs x.name)) := H3.out.2.2.cell 9
    obtain ⟨ov, hov⟩ : ∃ ov, ov = x.on d := ⟨_, rfl⟩
    have hhc := rHolds_calls x d w3
    rw [← hov] at hhc
    unfold eCells at hhc
    have HHC := Lib.hid hhc
    have HOV := Lib.hid hov
    clear hhc hov
    go_wp2_with fail
    refine HHC.out.mono ?_
    rintro e w2 ⟨rfl, hb2⟩
    have HB := Lib.hid (And.intro (H3.out.1.trans (hb2.mono H3.out.1.size)) (And.intro (H3.out.2.1.below hb2 H3.out.2.1.lt) (H3.out.2.2.below hb2 H3.out.2.2.lt)))
    clear g0 g1 g2 g3 g4 g5 g6 g7 g8 g9
    clear hb2
    have g0 : w2.cell? ⟨g, 0, none⟩ = some (.int .i64 x.day) := HB.out.2.2.cell 0
    have g1 : w2.cell? ⟨g, 1, none⟩ = some (.int .u8 (x.kind : Int)) := HB.out.2.2.cell 1
    have g2 : w2.cell? ⟨g, 2, none⟩ = some (.int .i64 x.since) := HB.out.2.2.cell 2
    have g3 : w2.cell? ⟨g, 3, none⟩ = some (.int .i64 x.til) := HB.out.2.2.cell 3
    have g4 : w2.cell? ⟨g, 4, none⟩ = some (.int .i64 x.person) := HB.out.2.2.cell 4
    have g5 : w2.cell? ⟨g, 5, none⟩ = some (.int .i64 x.place) := HB.out.2.2.cell 5
    have g6 : w2.cell? ⟨g, 6, none⟩ = some (.int .i64 x.other) := HB.out.2.2.cell 6
    have g7 : w2.cell? ⟨g, 7, none⟩ = some (.int .i64 x.at_) := HB.out.2.2.cell 7
    have g8 : w2.cell? ⟨g, 8, none⟩ = some (.int .i64 x.order) := HB.out.2.2.cell 8
    have g9 : w2.cell? ⟨g, 9, none⟩ = some (.string (bs x.name)) := HB.out.2.2.cell 9
    have k0 : w2.cell? ⟨b, 0, none⟩ = some (.int .i64 cd.1) := HB.out.2.1.cell 0
    have k1 : w2.cell? ⟨b, 1, none⟩ = some (.int .i64 cd.2) := HB.out.2.1.cell 1
    dsimp only
    have k7 := nat_beq x.kind 7
    cases h1 : (x.kind == 7)
    · have q1 : ((x.kind : Int) == 7) = false := k7.trans h1
      have HQ := Lib.hid h1
      clear h1 k7
      go_wp2
      go_roundg (gk - 1)
      case measure => omega
      case rel => exact ⟨i + 1, by go_num, by omega, Lib.hid ⟨HB.out.1, HB.out.2.1, any_on HX.out hR.out.2.2 (bool5 (.inl HQ.out))⟩⟩
    have q1 : ((x.kind : Int) == 7) = true := k7.trans h1
    cases h2 : (x.person == cd.1)
    · have HQ := Lib.hid h2
      clear h1 k7
      go_wp2
      go_roundg (gk - 1)
      case measure => omega
      case rel => exact ⟨i + 1, by go_num, by omega, Lib.hid ⟨HB.out.1, HB.out.2.1, any_on HX.out hR.out.2.2 (bool5 (.inr (.inl HQ.out)))⟩⟩
    have HQ1 := Lib.hid (And.intro h1 h2)
    clear h1 k7
    cases h3 : (x.place == 0)
    · cases h4 : (x.place == cd.2)
      · have HP := Lib.hid (show (x.place == 0 || x.place == cd.2) = false by rw [h3, h4]; rfl)
        go_wp2
        go_roundg (gk - 1)
        case measure => omega
        case rel => exact ⟨i + 1, by go_num, by omega, Lib.hid ⟨HB.out.1, HB.out.2.1, any_on HX.out hR.out.2.2 (bool5 (.inr (.inr (.inl HP.out))))⟩⟩
      · have HP := Lib.hid (show (x.place == 0 || x.place == cd.2) = true by rw [h3, h4]; rfl)
        cases h5 : (x.other == 0)
        · cases h6 : (x.other == s)
          · have HO := Lib.hid (show (x.other == 0 || x.other == s) = false by rw [h5, h6]; rfl)
            go_wp2
            go_roundg (gk - 1)
            case measure => omega
            case rel => exact ⟨i + 1, by go_num, by omega, Lib.hid ⟨HB.out.1, HB.out.2.1, any_on HX.out hR.out.2.2 (bool5 (.inr (.inr (.inr (.inl HO.out)))))⟩⟩
          · have HO := Lib.hid (show (x.other == 0 || x.other == s) = true by rw [h5, h6]; rfl)
            cases ov
            · skip
              go_wp2
              go_roundg (gk - 1)
              case measure => omega
              case rel => exact ⟨i + 1, by go_num, by omega, Lib.hid ⟨HB.out.1, HB.out.2.1, any_on HX.out hR.out.2.2 (bool5 (.inr (.inr (.inr (.inr HOV.out.symm)))))⟩⟩
            · go_wp2
              go_ret
              exact ⟨by rw [HV.out, any_yes HX.out (by rw [HQ1.out.1, HQ1.out.2, HP.out, HO.out, ← HOV.out]; rfl)]; rfl, HB.out.1⟩
        · have HO := Lib.hid (show (x.other == 0 || x.other == s) = true by rw [h5]; rfl)
          cases ov
          · skip
            go_wp2
            go_roundg (gk - 1)
            case measure => omega
            case rel => exact ⟨i + 1, by go_num, by omega, Lib.hid ⟨HB.out.1, HB.out.2.1, any_on HX.out hR.out.2.2 (bool5 (.inr (.inr (.inr (.inr HOV.out.symm)))))⟩⟩
          · go_wp2
            go_ret
            exact ⟨by rw [HV.out, any_yes HX.out (by rw [HQ1.out.1, HQ1.out.2, HP.out, HO.out, ← HOV.out]; rfl)]; rfl, HB.out.1⟩
    · have HP := Lib.hid (show (x.place == 0 || x.place == cd.2) = true by rw [h3]; rfl)
      cases h5 : (x.other == 0)
      · cases h6 : (x.other == s)
        · have HO := Lib.hid (show (x.other == 0 || x.other == s) = false by rw [h5, h6]; rfl)
          go_wp2
          go_roundg (gk - 1)
          case measure => omega
          case rel => exact ⟨i + 1, by go_num, by omega, Lib.hid ⟨HB.out.1, HB.out.2.1, any_on HX.out hR.out.2.2 (bool5 (.inr (.inr (.inr (.inl HO.out)))))⟩⟩
        · have HO := Lib.hid (show (x.other == 0 || x.other == s) = true by rw [h5, h6]; rfl)
          cases ov
          · skip
            go_wp2
            go_roundg (gk - 1)
            case measure => omega
            case rel => exact ⟨i + 1, by go_num, by omega, Lib.hid ⟨HB.out.1, HB.out.2.1, any_on HX.out hR.out.2.2 (bool5 (.inr (.inr (.inr (.inr HOV.out.symm)))))⟩⟩
          · go_wp2
            go_ret
            exact ⟨by rw [HV.out, any_yes HX.out (by rw [HQ1.out.1, HQ1.out.2, HP.out, HO.out, ← HOV.out]; rfl)]; rfl, HB.out.1⟩
      · have HO := Lib.hid (show (x.other == 0 || x.other == s) = true by rw [h5]; rfl)
        cases ov
        · skip
          go_wp2
          go_roundg (gk - 1)
          case measure => omega
          case rel => exact ⟨i + 1, by go_num, by omega, Lib.hid ⟨HB.out.1, HB.out.2.1, any_on HX.out hR.out.2.2 (bool5 (.inr (.inr (.inr (.inr HOV.out.symm)))))⟩⟩
        · go_wp2
          go_ret
          exact ⟨by rw [HV.out, any_yes HX.out (by rw [HQ1.out.1, HQ1.out.2, HP.out, HO.out, ← HOV.out]; rfl)]; rfl, HB.out.1⟩

end Go.Proofs.YtnphlekailodkaaGreatDoor

