/-
  Two entries compared.
-/
import Derived.Test.YtnphlekailodkaaGreatDoorPw2
namespace Go.Proofs.YtnphlekailodkaaGreatDoor
open Go.RowKit

theorem bs_beq (a b : List UInt8) : ((bs a).toList == (bs b).toList) = decide (a = b) := by
  rw [ByteArray.toList_eq, ByteArray.toList_eq, bs_data, bs_data]
  by_cases h : a = b
  · simp [h]
  · simp [h]
theorem int_beq (a b : Int) : (a == b) = decide (a = b) := by
  by_cases h : a = b <;> simp [h]
theorem ent_iff (x y : Pe.Ent) : x = y ↔ x.day = y.day ∧ x.kind = y.kind ∧ x.since = y.since ∧ x.til = y.til ∧ x.person = y.person ∧ x.place = y.place ∧ x.other = y.other ∧ x.at_ = y.at_ ∧ x.order = y.order ∧ x.name = y.name := by
  constructor
  · rintro rfl; simp
  · obtain ⟨a1, a2, a3, a4, a5, a6, a7, a8, a9, a10⟩ := x
    obtain ⟨b1, b2, b3, b4, b5, b6, b7, b8, b9, b10⟩ := y
    rintro ⟨h1, h2, h3, h4, h5, h6, h7, h8, h9, h10⟩
    dsimp only at *
    subst h1 h2 h3 h4 h5 h6 h7 h8 h9 h10
    rfl
theorem equal_ent (x y : Pe.Ent) (w : World) : (Op.equalIn 10000 31 (.agg (eCells x)) (.agg (eCells y))).run Tryz.prog w = .ok (decide (x = y)) w := by
  have hS : Tryz.prog.underlying 31 = some (.struct (Tryz.prog.fieldsOf 31)) := by kernel_rfl
  have hp : Tryz.prog.stoodInHeld 31 = false := by kernel_rfl
  have u3 := Tryz.underlying3
  have u5 := Tryz.underlying5
  have u9 := Tryz.underlying9
  have a3 := Tryz.isAgg3
  have a5 := Tryz.isAgg5
  have a9 := Tryz.isAgg9
  have z3 := Tryz.sizeOf3
  have z5 := Tryz.sizeOf5
  have z9 := Tryz.sizeOf9
  unfold eCells
  rw [show (10000 : Nat) = 9999 + 1 from rfl, run_equalIn_agg w 9999 31 _ _ hS hp]
  simp only [Program.fieldsOf, Tryz.underlying31]
  go_simp
  have hb : ((bs x.name).toList = (bs y.name).toList) ↔ x.name = y.name := by rw [← beq_iff_eq, bs_beq]; simp
  have hk : ((x.kind : Int) = (y.kind : Int)) ↔ x.kind = y.kind := by omega
  simp only [hb, hk]
  clear hS hp u3 u5 u9 a3 a5 a9 z3 z5 z9 hb hk
  repeat' split
  all_goals
    refine congrArg (fun b => Result.ok b w) (Eq.symm ?_)
    first
      | (rw [decide_eq_true_eq, ent_iff]; exact ⟨by assumption, by assumption, by assumption, by assumption, by assumption, by assumption, by assumption, by assumption, by assumption, by assumption⟩)
      | (rw [decide_eq_false_iff_not, ent_iff]; rintro ⟨h1, h2, h3, h4, h5, h6, h7, h8, h9, h10⟩; first | exact absurd h1 (by assumption) | exact absurd h2 (by assumption) | exact absurd h3 (by assumption) | exact absurd h4 (by assumption) | exact absurd h5 (by assumption) | exact absurd h6 (by assumption) | exact absurd h7 (by assumption) | exact absurd h8 (by assumption) | exact absurd h9 (by assumption) | exact absurd h10 (by assumption))
theorem eql_ent (x y : Pe.Ent) (w : World) : (binOp .eql 31 (.agg (eCells x)) (.agg (eCells y))).run Tryz.prog w = .ok (.bool (decide (x = y))) w := by
  rw [run_eql_struct, equal_ent]; rfl
theorem neq_ent (x y : Pe.Ent) (w : World) : (binOp .neq 31 (.agg (eCells x)) (.agg (eCells y))).run Tryz.prog w = .ok (.bool (!decide (x = y))) w := by
  rw [run_neq_struct, equal_ent]; rfl

end Go.Proofs.YtnphlekailodkaaGreatDoor
