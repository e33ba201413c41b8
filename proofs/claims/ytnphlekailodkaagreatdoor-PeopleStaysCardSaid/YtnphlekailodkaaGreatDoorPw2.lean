/-
  The form of an entry.
-/
import Derived.Test.YtnphlekailodkaaGreatDoorPw1
import Derived.Deep.CutBlock
namespace Go.Proofs.YtnphlekailodkaaGreatDoor
open Go.RowKit

/-- The cells of an entry. -/
def eCells (x : Pe.Ent) : Array Value := #[.int .i64 x.day, .int .u8 (x.kind : Int), .int .i64 x.since, .int .i64 x.til, .int .i64 x.person, .int .i64 x.place, .int .i64 x.other, .int .i64 x.at_, .int .i64 x.order, .string (bs x.name)]

set_option maxRecDepth 1000000 in
set_option maxHeartbeats 4000000 in
theorem formed_calls (x : Pe.Ent) (hx : x.name.length ≤ 9223372036854775807) (w : World) : Calls Tryz.prog 146 #[.agg (eCells x)] w fun e w' => e = .returned (.int .i64 (Pe.formed x)) ∧ Below w.heap.size w w' := by
  obtain ⟨B, hB⟩ : ∃ B, B = Pe.daysOk x := ⟨_, rfl⟩
  obtain ⟨day, kind, since, til, person, place, other, at_, order, name⟩ := x
  obtain ⟨S, hS⟩ : ∃ S, S = bs name := ⟨_, rfl⟩
  unfold eCells
  dsimp only at *
  rw [← hS]
  have H := Lib.hid (And.intro hB (And.intro hS hx))
  clear hB hS hx
  go_enter Tryz.func146, Tryz.ntmps146
  go_upto_region 1 with fail
  go_cut [39] (fun s39 wx => s39 = .bool (!B) ∧ wx = w.alloc (.cells #[.int .i64 day, .int .u8 (kind : Int), .int .i64 since, .int .i64 til, .int .i64 person, .int .i64 place, .int .i64 other, .int .i64 at_, .int .i64 order, .string S] 31))
  case first =>
    cases hz : (til != 0)
    all_goals
      have HZ := Lib.hid hz
      go_wp2
      all_goals
        go_meet
        refine ⟨?_, rfl⟩
        rw [H.out.1]
        refine congrArg Value.bool ?_
        have hz2 := HZ.out
        unfold Pe.daysOk
        rw [Bool.not_not, Bool.eq_iff_iff]
        dsimp only
        simp only [Bool.or_eq_true, Bool.and_eq_true, decide_eq_true_eq, bne_iff_ne, bne_eq_false_iff_eq] at hz2 ⊢
        first | omega | (simp <;> omega)
  case rest =>
    obtain ⟨rfl, rfl⟩ := hcut
    apply_assumption
    cases B
    · go_wp2
      go_ret
      refine ⟨?_, (Below.refl _ w).alloc (Nat.le_refl _) _⟩
      unfold Pe.formed
      rw [← H.out.1]; rfl
    have hnm : S.toList = [] ↔ name = [] := by
      rw [H.out.2.1, ByteArray.toList_eq]; simp [bs]
    have HN := Lib.hid hnm
    clear hnm
    have hfin : ∀ v : Int, v = (if Pe.ranged ⟨day, kind, since, til, person, place, other, at_, order, name⟩ = false ∨ Pe.rest ⟨day, kind, since, til, person, place, other, at_, order, name⟩ ≠ Pe.zero then 1 else if kind = 1 ∧ Pe.isName name = false then 4 else 0) → v = Pe.formed ⟨day, kind, since, til, person, place, other, at_, order, name⟩ := by
      intro v hv
      unfold Pe.formed
      rw [← H.out.1, if_neg (by simp)]
      exact hv
    have HF := Lib.hid hfin
    clear hfin
    have hnc : ∀ w0, Calls Tryz.prog 182 #[.string S] w0 fun e w' => e = .returned (.bool (Pe.isName name)) ∧ w0 = w' := fun w0 => by
      rw [H.out.2.1]; exact IsName_calls name H.out.2.2 w0
    have HC := Lib.hid hnc
    clear hnc
    obtain rfl | rfl | rfl | rfl | rfl | rfl | rfl | rfl | ⟨kk, rfl⟩ : kind = 0 ∨ kind = 1 ∨ kind = 2 ∨ kind = 3 ∨ kind = 4 ∨ kind = 5 ∨ kind = 6 ∨ kind = 7 ∨ ∃ kk, kind = kk + 8 := by
      by_cases h8 : 8 ≤ kind
      · exact .inr (.inr (.inr (.inr (.inr (.inr (.inr (.inr ⟨kind - 8, by omega⟩)))))))
      · omega
    · go_wp2_with (first | (go_at_call 54; refine (id_calls _ _).mono ?_; rintro e w' ⟨rfl, rfl⟩) | (go_at_call 55; refine (idOr_calls _ _).mono ?_; rintro e w' ⟨rfl, rfl⟩) | (go_at_call 182; refine (HC.out _).mono ?_; rintro e w' ⟨rfl, rfl⟩) | fail)
      all_goals
        go_ret
        refine ⟨congrArg Ending.returned (congrArg (Value.int .i64) (HF.out _ ?_)), ((Below.refl _ w).alloc (Nat.le_refl _) _).alloc (by simp) _⟩
        have hnm := HN.out
        simp_all [Pe.ranged, Pe.rest, Pe.zero]
    · go_wp2_with (first | (go_at_call 54; refine (id_calls _ _).mono ?_; rintro e w' ⟨rfl, rfl⟩) | (go_at_call 55; refine (idOr_calls _ _).mono ?_; rintro e w' ⟨rfl, rfl⟩) | (go_at_call 182; refine (HC.out _).mono ?_; rintro e w' ⟨rfl, rfl⟩) | fail)
      all_goals
        go_ret
        refine ⟨congrArg Ending.returned (congrArg (Value.int .i64) (HF.out _ ?_)), ((Below.refl _ w).alloc (Nat.le_refl _) _).alloc (by simp) _⟩
        have hnm := HN.out
        simp_all [Pe.ranged, Pe.rest, Pe.zero]
    · go_wp2_with (first | (go_at_call 54; refine (id_calls _ _).mono ?_; rintro e w' ⟨rfl, rfl⟩) | (go_at_call 55; refine (idOr_calls _ _).mono ?_; rintro e w' ⟨rfl, rfl⟩) | (go_at_call 182; refine (HC.out _).mono ?_; rintro e w' ⟨rfl, rfl⟩) | fail)
      all_goals
        go_ret
        refine ⟨congrArg Ending.returned (congrArg (Value.int .i64) (HF.out _ ?_)), ((Below.refl _ w).alloc (Nat.le_refl _) _).alloc (by simp) _⟩
        have hnm := HN.out
        simp_all [Pe.ranged, Pe.rest, Pe.zero]
    · go_wp2_with (first | (go_at_call 54; refine (id_calls _ _).mono ?_; rintro e w' ⟨rfl, rfl⟩) | (go_at_call 55; refine (idOr_calls _ _).mono ?_; rintro e w' ⟨rfl, rfl⟩) | (go_at_call 182; refine (HC.out _).mono ?_; rintro e w' ⟨rfl, rfl⟩) | fail)
      all_goals
        go_ret
        refine ⟨congrArg Ending.returned (congrArg (Value.int .i64) (HF.out _ ?_)), ((Below.refl _ w).alloc (Nat.le_refl _) _).alloc (by simp) _⟩
        have hnm := HN.out
        simp_all [Pe.ranged, Pe.rest, Pe.zero]
    · go_wp2_with (first | (go_at_call 54; refine (id_calls _ _).mono ?_; rintro e w' ⟨rfl, rfl⟩) | (go_at_call 55; refine (idOr_calls _ _).mono ?_; rintro e w' ⟨rfl, rfl⟩) | (go_at_call 182; refine (HC.out _).mono ?_; rintro e w' ⟨rfl, rfl⟩) | fail)
      all_goals
        go_ret
        refine ⟨congrArg Ending.returned (congrArg (Value.int .i64) (HF.out _ ?_)), ((Below.refl _ w).alloc (Nat.le_refl _) _).alloc (by simp) _⟩
        have hnm := HN.out
        simp_all [Pe.ranged, Pe.rest, Pe.zero]
    · go_wp2_with (first | (go_at_call 54; refine (id_calls _ _).mono ?_; rintro e w' ⟨rfl, rfl⟩) | (go_at_call 55; refine (idOr_calls _ _).mono ?_; rintro e w' ⟨rfl, rfl⟩) | (go_at_call 182; refine (HC.out _).mono ?_; rintro e w' ⟨rfl, rfl⟩) | fail)
      all_goals
        go_ret
        refine ⟨congrArg Ending.returned (congrArg (Value.int .i64) (HF.out _ ?_)), ((Below.refl _ w).alloc (Nat.le_refl _) _).alloc (by simp) _⟩
        have hnm := HN.out
        simp_all [Pe.ranged, Pe.rest, Pe.zero]
    · go_wp2_with (first | (go_at_call 54; refine (id_calls _ _).mono ?_; rintro e w' ⟨rfl, rfl⟩) | (go_at_call 55; refine (idOr_calls _ _).mono ?_; rintro e w' ⟨rfl, rfl⟩) | (go_at_call 182; refine (HC.out _).mono ?_; rintro e w' ⟨rfl, rfl⟩) | fail)
      all_goals
        go_ret
        refine ⟨congrArg Ending.returned (congrArg (Value.int .i64) (HF.out _ ?_)), ((Below.refl _ w).alloc (Nat.le_refl _) _).alloc (by simp) _⟩
        have hnm := HN.out
        simp_all [Pe.ranged, Pe.rest, Pe.zero]
    · go_wp2_with (first | (go_at_call 54; refine (id_calls _ _).mono ?_; rintro e w' ⟨rfl, rfl⟩) | (go_at_call 55; refine (idOr_calls _ _).mono ?_; rintro e w' ⟨rfl, rfl⟩) | (go_at_call 182; refine (HC.out _).mono ?_; rintro e w' ⟨rfl, rfl⟩) | fail)
      all_goals
        go_ret
        refine ⟨congrArg Ending.returned (congrArg (Value.int .i64) (HF.out _ ?_)), ((Below.refl _ w).alloc (Nat.le_refl _) _).alloc (by simp) _⟩
        have hnm := HN.out
        simp_all [Pe.ranged, Pe.rest, Pe.zero]
    · have q1 : (((kk + 8 : Nat) : Int) == 1) = false := by simp; omega
      have q2 : (((kk + 8 : Nat) : Int) == 2) = false := by simp; omega
      have q3 : (((kk + 8 : Nat) : Int) == 3) = false := by simp; omega
      have q4 : (((kk + 8 : Nat) : Int) == 4) = false := by simp; omega
      have q5 : (((kk + 8 : Nat) : Int) == 5) = false := by simp; omega
      have q6 : (((kk + 8 : Nat) : Int) == 6) = false := by simp; omega
      have q7 : (((kk + 8 : Nat) : Int) == 7) = false := by simp; omega
      go_wp2_with (first | (go_at_call 54; refine (id_calls _ _).mono ?_; rintro e w' ⟨rfl, rfl⟩) | (go_at_call 55; refine (idOr_calls _ _).mono ?_; rintro e w' ⟨rfl, rfl⟩) | (go_at_call 182; refine (HC.out _).mono ?_; rintro e w' ⟨rfl, rfl⟩) | fail)
      all_goals
        go_ret
        refine ⟨congrArg Ending.returned (congrArg (Value.int .i64) (HF.out _ ?_)), ((Below.refl _ w).alloc (Nat.le_refl _) _).alloc (by simp) _⟩
        have hnm := HN.out
        simp_all [Pe.ranged, Pe.rest, Pe.zero]

end Go.Proofs.YtnphlekailodkaaGreatDoor
