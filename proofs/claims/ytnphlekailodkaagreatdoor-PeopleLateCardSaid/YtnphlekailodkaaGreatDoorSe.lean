/-
  The reference's SameEntries, walked.
-/
import Derived.Test.YtnphlekailodkaaGreatDoorAy
import Derived.Test.YtnphlekailodkaaGreatDoorEe
import Derived.BigQuiet
import Derived.Deep.QuietTactic
namespace Go.Proofs.YtnphlekailodkaaGreatDoor
open Go.RowKit

set_option maxRecDepth 1000000 in
set_option maxHeartbeats 4000000 in
theorem SameEntries_calls (A B : Option Addr) (n c m d : Nat) (l r : List Pe.Ent) (w : World) (h : EntsAt w A n l) (h' : EntsAt w B m r) :
    Calls Tryz.prog 14 #[.slice A n c, .slice B m d] w fun e w' => e = .returned (.bool (decide (l = r))) ∧ Below w.heap.size w w' := by
  have H := Lib.hid (And.intro h h')
  have hmost := h.most
  have hmost' := h'.most
  obtain ⟨V, hV⟩ : ∃ V, V = decide (l = r) := ⟨_, rfl⟩
  rw [← hV]
  have HV := Lib.hid hV
  clear h h' hV
  go_enter Tryz.func14, Tryz.ntmps14
  by_cases hnm : n = m
  case neg =>
    have hd1 : ((n : Int) != (m : Int)) = true := by simp; omega
    have HN := Lib.hid hnm
    clear hnm
    go_wp2
    go_ret
    refine ⟨?_, Below.refl _ _⟩
    have hv : V = false := by
      rw [HV.out]
      exact decide_eq_false (fun e => HN.out (by rw [H.out.1.len, H.out.2.len, e]))
    rw [hv]; rfl
  subst hnm
  have hd1 : ((n : Int) != (n : Int)) = false := by simp
  go_wp2_with fail
  go_loopg [5] n (fun q s5 wr => ∃ i : Nat, s5 = .int .i64 (i : Int) ∧ i + q = n ∧ Hid (Below w.heap.size w wr ∧ l.take i = r.take i))
  case atStart => exact ⟨0, by go_num, by omega, Lib.hid ⟨Below.refl _ _, by simp⟩⟩
  case round =>
    obtain ⟨i, rfl, hi, hR⟩ := hrel
    have hH1 := H.out.1.below hR.out.1
    have hH2 := H.out.2.below hR.out.1
    have HH := Lib.hid (And.intro hH1 hH2)
    clear hH1 hH2
    by_cases hgo : i < n
    case neg =>
      have hd1 : decide ((i : Int) < (n : Int)) = false := by simp; omega
      go_wp2
      go_ret
      refine ⟨?_, hR.out.1⟩
      have := hR.out.2
      have h1 := H.out.1.len
      have h2 := H.out.2.len
      rw [List.take_of_length_le (by omega), List.take_of_length_le (by omega)] at this
      rw [HV.out, decide_eq_true this]; rfl
    have hd1 : decide ((i : Int) < (n : Int)) = true := by simp; omega
    obtain ⟨x, ad, hx, rfl, hok, hcw⟩ := HH.out.1.one hgo
    obtain ⟨y, bd, hy, rfl, hok', hcw'⟩ := HH.out.2.one hgo
    have g0 : wr.cell? (ad.add (i * 10)) = some (.int .i64 x.day) := hcw 0 _ rfl
    have g1 : wr.cell? ⟨(ad.add (i * 10)).block, (ad.add (i * 10)).off + 1, none⟩ = some (.int .u8 (x.kind : Int)) := hcw 1 _ rfl
    have g2 : wr.cell? ⟨(ad.add (i * 10)).block, (ad.add (i * 10)).off + 2, none⟩ = some (.int .i64 x.since) := hcw 2 _ rfl
    have g3 : wr.cell? ⟨(ad.add (i * 10)).block, (ad.add (i * 10)).off + 3, none⟩ = some (.int .i64 x.til) := hcw 3 _ rfl
    have g4 : wr.cell? ⟨(ad.add (i * 10)).block, (ad.add (i * 10)).off + 4, none⟩ = some (.int .i64 x.person) := hcw 4 _ rfl
    have g5 : wr.cell? ⟨(ad.add (i * 10)).block, (ad.add (i * 10)).off + 5, none⟩ = some (.int .i64 x.place) := hcw 5 _ rfl
    have g6 : wr.cell? ⟨(ad.add (i * 10)).block, (ad.add (i * 10)).off + 6, none⟩ = some (.int .i64 x.other) := hcw 6 _ rfl
    have g7 : wr.cell? ⟨(ad.add (i * 10)).block, (ad.add (i * 10)).off + 7, none⟩ = some (.int .i64 x.at_) := hcw 7 _ rfl
    have g8 : wr.cell? ⟨(ad.add (i * 10)).block, (ad.add (i * 10)).off + 8, none⟩ = some (.int .i64 x.order) := hcw 8 _ rfl
    have g9 : wr.cell? ⟨(ad.add (i * 10)).block, (ad.add (i * 10)).off + 9, none⟩ = some (.string (bs x.name)) := hcw 9 _ rfl
    have k0 : wr.cell? (bd.add (i * 10)) = some (.int .i64 y.day) := hcw' 0 _ rfl
    have k1 : wr.cell? ⟨(bd.add (i * 10)).block, (bd.add (i * 10)).off + 1, none⟩ = some (.int .u8 (y.kind : Int)) := hcw' 1 _ rfl
    have k2 : wr.cell? ⟨(bd.add (i * 10)).block, (bd.add (i * 10)).off + 2, none⟩ = some (.int .i64 y.since) := hcw' 2 _ rfl
    have k3 : wr.cell? ⟨(bd.add (i * 10)).block, (bd.add (i * 10)).off + 3, none⟩ = some (.int .i64 y.til) := hcw' 3 _ rfl
    have k4 : wr.cell? ⟨(bd.add (i * 10)).block, (bd.add (i * 10)).off + 4, none⟩ = some (.int .i64 y.person) := hcw' 4 _ rfl
    have k5 : wr.cell? ⟨(bd.add (i * 10)).block, (bd.add (i * 10)).off + 5, none⟩ = some (.int .i64 y.place) := hcw' 5 _ rfl
    have k6 : wr.cell? ⟨(bd.add (i * 10)).block, (bd.add (i * 10)).off + 6, none⟩ = some (.int .i64 y.other) := hcw' 6 _ rfl
    have k7 : wr.cell? ⟨(bd.add (i * 10)).block, (bd.add (i * 10)).off + 7, none⟩ = some (.int .i64 y.at_) := hcw' 7 _ rfl
    have k8 : wr.cell? ⟨(bd.add (i * 10)).block, (bd.add (i * 10)).off + 8, none⟩ = some (.int .i64 y.order) := hcw' 8 _ rfl
    have k9 : wr.cell? ⟨(bd.add (i * 10)).block, (bd.add (i * 10)).off + 9, none⟩ = some (.string (bs y.name)) := hcw' 9 _ rfl
    have HX := Lib.hid (And.intro hx hy)
    clear hx hcw hok hy hcw' hok'
    have hq : ∀ w0, (binOp .neq 31 (.agg (eCells x)) (.agg (eCells y))).run Tryz.prog w0 = .ok (.bool (!decide (x = y))) w0 := fun w0 => neq_ent x y w0
    unfold eCells at hq
    by_cases hxy : x = y
    · have hd2 : (!decide (x = y)) = false := by simp [hxy]
      rw [hd2] at hq
      have HE := Lib.hid hxy
      clear hxy hd2
      go_wp2_with fail
      go_quiet (fail)
      go_wp2
      go_roundg (gk - 1)
      case measure => omega
      case rel =>
        refine ⟨i + 1, by go_num, by omega, Lib.hid ⟨hR.out.1.trans ((below_drewN _ _).mono hR.out.1.size), ?_⟩⟩
        rw [List.take_add_one, List.take_add_one, hR.out.2, HX.out.1, HX.out.2, HE.out]
    · have hd2 : (!decide (x = y)) = true := by simp [hxy]
      rw [hd2] at hq
      have HE := Lib.hid hxy
      clear hxy hd2
      go_wp2_with fail
      go_quiet (fail)
      go_wp2
      go_ret
      refine ⟨?_, hR.out.1.trans ((below_drewN _ _).mono hR.out.1.size)⟩
      have hv : V = false := by
        rw [HV.out]
        exact decide_eq_false (fun e => HE.out (by have h1 := HX.out.1; rw [e, HX.out.2] at h1; injection h1 with h1; exact h1.symm))
      rw [hv]; rfl

end Go.Proofs.YtnphlekailodkaaGreatDoor
