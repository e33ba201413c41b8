/-
  Write of the directory.
-/
import Derived.Test.YtnphlekailodkaaGreatDoorLn
import Derived.Laws.EntriesVeiled
import Derived.Deep.QuietTactic
import Derived.BigQuiet
import Derived.Deep.CutBlock
namespace Go.Proofs.YtnphlekailodkaaGreatDoor
open Go.RowKit

theorem verb_enters (k : Nat) (h1 : 1 ≤ k) (h7 : k ≤ 7) : ∀ args w, (callFunc (verbFn k) args).run Tryz.prog w = .ok (.enter (verbFn k) args) w := by
  obtain rfl | rfl | rfl | rfl | rfl | rfl | rfl : k = 1 ∨ k = 2 ∨ k = 3 ∨ k = 4 ∨ k = 5 ∨ k = 6 ∨ k = 7 := by omega
  · exact enters_of Tryz.func139 (by kernel_rfl) rfl
  · exact enters_of Tryz.func140 (by kernel_rfl) rfl
  · exact enters_of Tryz.func141 (by kernel_rfl) rfl
  · exact enters_of Tryz.func142 (by kernel_rfl) rfl
  · exact enters_of Tryz.func143 (by kernel_rfl) rfl
  · exact enters_of Tryz.func144 (by kernel_rfl) rfl
  · exact enters_of Tryz.func145 (by kernel_rfl) rfl
theorem add_bs (a b : List UInt8) (h : a.length + b.length ≤ 9223372036854775807) : Op.stringOp .add (bs a) (bs b) = pure (.string (bs (a ++ b))) := by
  have e : ¬ (((bs a).size + (bs b).size : Nat) : Int) > IntKind.i64.max := by
    rw [bs_size, bs_size]
    show ¬ _ > (9223372036854775807 : Int)
    omega
  unfold Op.stringOp
  simp only [e, if_false, bs_append]
set_option maxRecDepth 1000000 in
set_option maxHeartbeats 4000000 in
theorem Write_calls (x : Pe.Ent) (hx : x.name.length ≤ 9223372036854775807) (w : World) (hl : Laid w) : Calls Tryz.prog 111 #[.agg (eCells x)] w fun e w' => e = .returned (.tuple #[.string (bs (if Pe.formed x = 0 then Pe.line x else [])), .int .i64 (Pe.formed x)]) ∧ Below w.heap.size w w' := by
  obtain ⟨f, hf⟩ : ∃ f, f = Pe.formed x := ⟨_, rfl⟩
  have hfc := fun w0 => formed_calls x hx w0
  rw [← hf] at hfc ⊢
  obtain ⟨R, hR⟩ : ∃ R, R = bs (if f = 0 then Pe.line x else []) := ⟨_, rfl⟩
  rw [← hR]
  have H := Lib.hid (And.intro hf (And.intro hfc (And.intro hR hl)))
  clear hf hfc hR hl hx
  go_enter Tryz.func111, Tryz.ntmps111
  unfold eCells
  go_upto_region 1 with fail
  obtain ⟨ex, hex⟩ : ∃ ex, ex = w.heap.size := ⟨_, rfl⟩
  obtain ⟨w0, hw0⟩ : ∃ w0, w0 = w.alloc (.cells (eCells x) 31) := ⟨_, rfl⟩
  have hB0 : Below w.heap.size w w0 := by rw [hw0]; exact (Below.refl _ w).alloc (Nat.le_refl _) _
  have hE0 : Blk w0 ex 31 (eCells x) := by rw [hw0, hex]; exact Blk.fresh _ _ _
  unfold eCells at hw0
  rw [← hw0, ← hex]
  have H0 := Lib.hid (And.intro hB0 (And.intro hE0 hex))
  clear hB0 hE0 hw0 hex
  have c0 : w0.cell? ⟨ex, 0, none⟩ = some (.int .i64 x.day) := H0.out.2.1.cell 0
  have c1 : w0.cell? ⟨ex, 1, none⟩ = some (.int .u8 (x.kind : Int)) := H0.out.2.1.cell 1
  have c2 : w0.cell? ⟨ex, 2, none⟩ = some (.int .i64 x.since) := H0.out.2.1.cell 2
  have c3 : w0.cell? ⟨ex, 3, none⟩ = some (.int .i64 x.til) := H0.out.2.1.cell 3
  have c4 : w0.cell? ⟨ex, 4, none⟩ = some (.int .i64 x.person) := H0.out.2.1.cell 4
  have c5 : w0.cell? ⟨ex, 5, none⟩ = some (.int .i64 x.place) := H0.out.2.1.cell 5
  have c6 : w0.cell? ⟨ex, 6, none⟩ = some (.int .i64 x.other) := H0.out.2.1.cell 6
  have c7 : w0.cell? ⟨ex, 7, none⟩ = some (.int .i64 x.at_) := H0.out.2.1.cell 7
  have c8 : w0.cell? ⟨ex, 8, none⟩ = some (.int .i64 x.order) := H0.out.2.1.cell 8
  have c9 : w0.cell? ⟨ex, 9, none⟩ = some (.string (bs x.name)) := H0.out.2.1.cell 9
  go_wp2_with fail
  refine (H.out.2.1 w0).mono ?_
  rintro e w1 ⟨rfl, hB1⟩
  have H1 := Lib.hid (And.intro (H0.out.1.trans (hB1.mono H0.out.1.size)) (H0.out.2.1.below hB1 H0.out.2.1.lt))
  clear hB1
  clear c0 c1 c2 c3 c4 c5 c6 c7 c8 c9
  dsimp only
  by_cases hf0 : f = 0
  case neg =>
    have hd1 : (f != 0) = true := by simpa using hf0
    have HF := Lib.hid hf0
    clear hf0
    go_wp2
    go_ret2
    refine ⟨?_, H1.out.1⟩
    rw [H.out.2.2.1, if_neg HF.out]; rfl
  subst hf0
  have hF := Pe.fine H.out.1.symm
  go_upto_region 4 with fail
  go_cut [5] (fun s5 wx => ∃ vb : Nat, s5 = .pointer (some ⟨vb, 0, none⟩) ∧ Hid (Blk wx vb 135 #[.string (bs (Pe.word x.kind)), .func (.func (verbFn x.kind)) #[] #[]] ∧ Below w.heap.size w wx ∧ Blk wx ex 31 (eCells x)))
  case first =>
    have e1 : w1.cell? ⟨ex, 1, none⟩ = some (.int .u8 (x.kind : Int)) := H1.out.2.cell 1
    refine wp_region_R (RL [(2, fun w' => Blk w' ex 31 (eCells x))]) (by kernel_rfl) (RL_cons (H1.out.2.heap rfl) (RL_nil _)) (fun hp => ?_)
    refine wpAnyR_take (i := 1) (oi := ⟨some 15, _, _, _, _, _⟩) (v := ?_) rfl (by kernel_rfl) (by kernel_rfl) (by kernel_rfl) (fun _ _ _ h => h) hp (.inl ⟨by rfl, fun w _ => ?_⟩) (fun hq => ?_)
    rotate_left
    · go_simp
      with_reducible rfl
    clear hp; have hp := hq; clear hq
    try simp only [Act.put, List.setIfInBounds_toArray, List.set_cons_zero, List.set_cons_succ]
    refine wpAnyR_take (i := 2) (oi := ⟨some 16, _, _, _, _, _⟩) (v := ?_) rfl (by kernel_rfl) (by kernel_rfl) (by kernel_rfl) (fun _ _ _ h => h) hp (.inl ⟨by rfl, fun w hR => ?_⟩) (fun hq => ?_)
    rotate_left
    · have hR := hR.1 rfl
      (try dsimp only at hR)
      have h1 : w.cell? ⟨ex, 1, none⟩ = some (.int .u8 (x.kind : Int)) := hR.cell 1
      clear hR
      go_simp
      with_reducible rfl
    clear hp; have hp := hq; clear hq
    try simp only [Act.put, List.setIfInBounds_toArray, List.set_cons_zero, List.set_cons_succ]
    refine wpAnyR_two (i := 0) (j := 4) (by kernel_rfl) ?_ ?_
    refine stepR (i := 0) (o := ⟨some 14, _, _, _, _, _⟩) rfl (by rfl) (fun K hK => ?_) -- Op.call { callee := Callee.value (Operand.func 110), args := #[], argTypes := #[] }
    go_simp
    have KW1 : Blk w1.drew ex 31 (eCells x) := H1.out.2.drew
    have KW2 := fun o => KW1.alloc o
    have VB : Blk (w1.drew.alloc (.cells #[.string ⟨#[]⟩, .nilFunc] 135)) w1.heap.size 135 #[.string ⟨#[]⟩, .nilFunc] := Blk.fresh w1.drew _ _
    have HW1 : Below w.heap.size w w1.drew := H1.out.1.drew
    have HW2 := HW1.alloc HW1.size (.cells #[.string ⟨#[]⟩, .nilFunc] 135)
    refine (verbs_calls _).mono ?_
    rintro e w3 ⟨mb, rfl, hmb, hM3, hB3⟩
    show K _ _
    have hS2 : Blk w3 ex 31 (eCells x) := by first | exact KW1.below hB3 KW1.lt | exact (KW2 _).below hB3 (KW2 _).lt
    have hW3 : Below w.heap.size w w3 := by first | exact HW1.trans (hB3.mono HW1.size) | exact HW2.trans (hB3.mono HW2.size)
    first
      | (have HV3 := Lib.hid (VB.below hB3 VB.lt)
         have v0 : w3.cell? ⟨w1.heap.size, 0, none⟩ = some (.string ⟨#[]⟩) := HV3.out.cell 0
         have v1 : w3.cell? ⟨w1.heap.size, 1, none⟩ = some .nilFunc := HV3.out.cell 1
         have f0 := HV3.out.frozen 0
         have f1 := HV3.out.frozen 1)
      | skip
    have l1 := run_lookup_verb hM3 x.kind hF.kind1 hF.kind7
    have l2 := fun o => run_lookup_verb (hM3.alloc o) x.kind hF.kind1 hF.kind7
    unfold vVal at l1 l2
    have HZ3 := Lib.hid (And.intro hW3 hS2)
    clear hmb hM3 hB3 KW1 KW2 VB HW1 HW2 hW3
    refine hK _ _ (pend_on hS2 pend_nil) (fun hq => ?_)
    clear hp hK K; have hp := hq; clear hq
    try simp only [Act.put, List.setIfInBounds_toArray, List.set_cons_zero, List.set_cons_succ]
    refine wpAnyR_two (i := 3) (j := 4) (by kernel_rfl) ?_ ?_
    refine stepR (i := 3) (o := ⟨some 17, _, _, _, _, _⟩) rfl (by rfl) (fun K hK => ?_) -- Op.lookup 136 (Operand.tmp 14) (Operand.tmp 16) false
    go_simp
    refine hK _ _ (pend_off (by kernel_rfl) pend_nil) (fun hq => ?_)
    clear hp hK K; have hp := hq; clear hq
    try simp only [Act.put, List.setIfInBounds_toArray, List.set_cons_zero, List.set_cons_succ]
    refine wpAnyR_step (i := 4) (o := ⟨some 5, _, _, _, _, _⟩) (by kernel_rfl) rfl (by rfl) (fun K hK => ?_) -- Op.alloc 135
    go_simp
    first
      | have hS2 := HZ3.out.2.alloc (.cells #[.string ⟨#[]⟩, .nilFunc] 135)
      | have hS2 : Blk (w1.drew.alloc (.cells #[.string ⟨#[]⟩, .nilFunc] 135)) ex 31 (eCells x) := H1.out.2.drew.alloc _
    refine hK _ _ (pend_off (by kernel_rfl) pend_nil) (fun hq => ?_)
    clear hp hK K; have hp := hq; clear hq
    try simp only [Act.put, List.setIfInBounds_toArray, List.set_cons_zero, List.set_cons_succ]
    refine wpAnyR_step (i := 5) (o := ⟨none, _, _, _, _, _⟩) (by kernel_rfl) rfl (by rfl) (fun K hK => ?_) -- Op.store 135 (Operand.tmp 5) (Operand.tmp 17)
    go_simp
    refine hK _ _ (pend_off (by kernel_rfl) pend_nil) (fun hq => ?_)
    clear hp hK K; have hp := hq; clear hq
    try simp only [Act.put]
    refine wpAnyR_done (by kernel_rfl) ?_ _
    clear hp
    rotate_left
    refine stepR (i := 4) (o := ⟨some 5, _, _, _, _, _⟩) rfl (by rfl) (fun K hK => ?_) -- Op.alloc 135
    go_simp
    first
      | have hS2 := HZ3.out.2.alloc (.cells #[.string ⟨#[]⟩, .nilFunc] 135)
      | have hS2 : Blk (w1.drew.alloc (.cells #[.string ⟨#[]⟩, .nilFunc] 135)) ex 31 (eCells x) := H1.out.2.drew.alloc _
    refine hK _ _ (pend_on hS2 pend_nil) (fun hq => ?_)
    clear hp hK K; have hp := hq; clear hq
    try simp only [Act.put, List.setIfInBounds_toArray, List.set_cons_zero, List.set_cons_succ]
    refine wpAnyR_step (i := 3) (o := ⟨some 17, _, _, _, _, _⟩) (by kernel_rfl) rfl (by rfl) (fun K hK => ?_) -- Op.lookup 136 (Operand.tmp 14) (Operand.tmp 16) false
    go_simp
    refine hK _ _ (pend_off (by kernel_rfl) pend_nil) (fun hq => ?_)
    clear hp hK K; have hp := hq; clear hq
    try simp only [Act.put, List.setIfInBounds_toArray, List.set_cons_zero, List.set_cons_succ]
    refine wpAnyR_step (i := 5) (o := ⟨none, _, _, _, _, _⟩) (by kernel_rfl) rfl (by rfl) (fun K hK => ?_) -- Op.store 135 (Operand.tmp 5) (Operand.tmp 17)
    go_simp
    refine hK _ _ (pend_off (by kernel_rfl) pend_nil) (fun hq => ?_)
    clear hp hK K; have hp := hq; clear hq
    try simp only [Act.put]
    refine wpAnyR_done (by kernel_rfl) ?_ _
    clear hp
    rotate_left
    refine stepR (i := 4) (o := ⟨some 5, _, _, _, _, _⟩) rfl (by rfl) (fun K hK => ?_) -- Op.alloc 135
    go_simp
    first
      | have hS2 := HZ3.out.2.alloc (.cells #[.string ⟨#[]⟩, .nilFunc] 135)
      | have hS2 : Blk (w1.drew.alloc (.cells #[.string ⟨#[]⟩, .nilFunc] 135)) ex 31 (eCells x) := H1.out.2.drew.alloc _
    refine hK _ _ (pend_on hS2 pend_nil) (fun hq => ?_)
    clear hp hK K; have hp := hq; clear hq
    try simp only [Act.put, List.setIfInBounds_toArray, List.set_cons_zero, List.set_cons_succ]
    refine wpAnyR_step (i := 0) (o := ⟨some 14, _, _, _, _, _⟩) (by kernel_rfl) rfl (by rfl) (fun K hK => ?_) -- Op.call { callee := Callee.value (Operand.func 110), args := #[], argTypes := #[] }
    go_simp
    have KW1 : Blk w1.drew ex 31 (eCells x) := H1.out.2.drew
    have KW2 := fun o => KW1.alloc o
    have VB : Blk (w1.drew.alloc (.cells #[.string ⟨#[]⟩, .nilFunc] 135)) w1.heap.size 135 #[.string ⟨#[]⟩, .nilFunc] := Blk.fresh w1.drew _ _
    have HW1 : Below w.heap.size w w1.drew := H1.out.1.drew
    have HW2 := HW1.alloc HW1.size (.cells #[.string ⟨#[]⟩, .nilFunc] 135)
    refine (verbs_calls _).mono ?_
    rintro e w3 ⟨mb, rfl, hmb, hM3, hB3⟩
    show K _ _
    have hS2 : Blk w3 ex 31 (eCells x) := by first | exact KW1.below hB3 KW1.lt | exact (KW2 _).below hB3 (KW2 _).lt
    have hW3 : Below w.heap.size w w3 := by first | exact HW1.trans (hB3.mono HW1.size) | exact HW2.trans (hB3.mono HW2.size)
    first
      | (have HV3 := Lib.hid (VB.below hB3 VB.lt)
         have v0 : w3.cell? ⟨w1.heap.size, 0, none⟩ = some (.string ⟨#[]⟩) := HV3.out.cell 0
         have v1 : w3.cell? ⟨w1.heap.size, 1, none⟩ = some .nilFunc := HV3.out.cell 1
         have f0 := HV3.out.frozen 0
         have f1 := HV3.out.frozen 1)
      | skip
    have l1 := run_lookup_verb hM3 x.kind hF.kind1 hF.kind7
    have l2 := fun o => run_lookup_verb (hM3.alloc o) x.kind hF.kind1 hF.kind7
    unfold vVal at l1 l2
    have HZ3 := Lib.hid (And.intro hW3 hS2)
    clear hmb hM3 hB3 KW1 KW2 VB HW1 HW2 hW3
    refine hK _ _ (pend_on hS2 pend_nil) (fun hq => ?_)
    clear hp hK K; have hp := hq; clear hq
    try simp only [Act.put, List.setIfInBounds_toArray, List.set_cons_zero, List.set_cons_succ]
    refine wpAnyR_step (i := 3) (o := ⟨some 17, _, _, _, _, _⟩) (by kernel_rfl) rfl (by rfl) (fun K hK => ?_) -- Op.lookup 136 (Operand.tmp 14) (Operand.tmp 16) false
    go_simp
    refine hK _ _ (pend_off (by kernel_rfl) pend_nil) (fun hq => ?_)
    clear hp hK K; have hp := hq; clear hq
    try simp only [Act.put, List.setIfInBounds_toArray, List.set_cons_zero, List.set_cons_succ]
    refine wpAnyR_step (i := 5) (o := ⟨none, _, _, _, _, _⟩) (by kernel_rfl) rfl (by rfl) (fun K hK => ?_) -- Op.store 135 (Operand.tmp 5) (Operand.tmp 17)
    go_simp
    refine hK _ _ (pend_off (by kernel_rfl) pend_nil) (fun hq => ?_)
    clear hp hK K; have hp := hq; clear hq
    try simp only [Act.put]
    refine wpAnyR_done (by kernel_rfl) ?_ _
    clear hp
    all_goals
      go_wp2_with fail
      go_meet
      first
        | exact ⟨_, rfl, Lib.hid ⟨Blk.fresh _ _ _, HZ3.out.1.alloc HZ3.out.1.size _, HZ3.out.2.alloc _⟩⟩
        | exact ⟨_, rfl, Lib.hid ⟨(HV3.out.put 0 _).put 1 _, (HZ3.out.1.setCell (p := ⟨w1.heap.size, 0, none⟩) H1.out.1.size _).setCell (p := ⟨w1.heap.size, 1, none⟩) H1.out.1.size _, (HZ3.out.2.far (by have := H1.out.2.lt; simp only [ne_eq]; omega) _).far (by have := H1.out.2.lt; simp only [ne_eq]; omega) _⟩⟩
  case rest =>
  obtain ⟨vb, rfl, HZ⟩ := hcut
  obtain ⟨w2, rfl⟩ : ∃ w2 : World, w2 = wc := ⟨_, rfl⟩
  have H2 := Lib.hid HZ.out
  clear HZ
  apply_assumption
  have hll : Laid w2 := H.out.2.2.2.below H2.out.2.1
  have hday := Itoa_calls x.day (by have := hF.low 0; simp only [Pe.Ent.get] at this; omega) (by have := hF.high 0; simp only [Pe.Ent.get] at this; omega)
  have hdl : (dec x.day).length ≤ 21 := dec_length _ (by have := hF.low 0; simp only [Pe.Ent.get] at this; omega) (by have := hF.high 0; simp only [Pe.Ent.get] at this; omega)
  have hwl : (Pe.word x.kind).length ≤ 8 := by unfold Pe.word; split <;> decide
  have ha1 : Op.stringOp .add (bs (dec x.day)) ⟨#[32]⟩ = pure (.string (bs (dec x.day ++ [32]))) := add_bs (dec x.day) [32] (by simp; omega)
  have ha2 : Op.stringOp .add (bs (dec x.day ++ [32])) (bs (Pe.word x.kind)) = pure (.string (bs (Pe.head x))) := add_bs (dec x.day ++ [32]) (Pe.word x.kind) (by simp; omega)
  have HL := Lib.hid (And.intro hll (And.intro hday (And.intro hdl hwl)))
  clear hll hday hdl hwl
  go_upto_region 5 with fail
  go_cut [6] (fun s6 wx => s6 = .string (bs (Pe.head x)) ∧ Hid (Blk wx vb 135 #[.string (bs (Pe.word x.kind)), .func (.func (verbFn x.kind)) #[] #[]] ∧ Below w.heap.size w wx ∧ Blk wx ex 31 (eCells x)))
  case first =>
    refine wp_region_R (RL [(1, fun w' => Blk w' ex 31 (eCells x)), (5, fun w' => Blk w' vb 135 #[.string (bs (Pe.word x.kind)), .func (.func (verbFn x.kind)) #[] #[]])]) (by kernel_rfl) (RL_cons (H2.out.2.2.heap rfl) (RL_cons (H2.out.1.heap rfl) (RL_nil _))) (fun hp => ?_)
    refine wpAnyR_take (i := 0) (oi := ⟨some 18, _, _, _, _, _⟩) (v := ?_) rfl (by kernel_rfl) (by kernel_rfl) (by kernel_rfl) (fun _ _ _ h => h) hp (.inl ⟨by rfl, fun w _ => ?_⟩) (fun hq => ?_)
    rotate_left
    · go_simp
      with_reducible rfl
    clear hp; have hp := hq; clear hq
    try simp only [Act.put, List.setIfInBounds_toArray, List.set_cons_zero, List.set_cons_succ]
    refine wpAnyR_take (i := 1) (oi := ⟨some 19, _, _, _, _, _⟩) (v := ?_) rfl (by kernel_rfl) (by kernel_rfl) (by kernel_rfl) (fun _ _ _ h => h) hp (.inl ⟨by rfl, fun w hR => ?_⟩) (fun hq => ?_)
    rotate_left
    · have hR := hR.1 rfl
      (try dsimp only at hR)
      have h1 : w.cell? ⟨ex, 0, none⟩ = some (.int .i64 x.day) := hR.cell 0
      clear hR
      go_simp
      with_reducible rfl
    clear hp; have hp := hq; clear hq
    try simp only [Act.put, List.setIfInBounds_toArray, List.set_cons_zero, List.set_cons_succ]
    refine wpAnyR_take (i := 4) (oi := ⟨some 22, _, _, _, _, _⟩) (v := ?_) rfl (by kernel_rfl) (by kernel_rfl) (by kernel_rfl) (fun _ _ _ h => h) hp (.inl ⟨by rfl, fun w _ => ?_⟩) (fun hq => ?_)
    rotate_left
    · go_simp
      with_reducible rfl
    clear hp; have hp := hq; clear hq
    try simp only [Act.put, List.setIfInBounds_toArray, List.set_cons_zero, List.set_cons_succ]
    refine wpAnyR_take (i := 5) (oi := ⟨some 23, _, _, _, _, _⟩) (v := ?_) rfl (by kernel_rfl) (by kernel_rfl) (by kernel_rfl) (fun _ _ _ h => h) hp (.inl ⟨by rfl, fun w hR => ?_⟩) (fun hq => ?_)
    rotate_left
    · have hR := hR.2.1 rfl
      (try dsimp only at hR)
      have h1 : w.cell? ⟨vb, 0, none⟩ = some (.string (bs (Pe.word x.kind))) := hR.cell 0
      clear hR
      go_simp
      with_reducible rfl
    clear hp; have hp := hq; clear hq
    try simp only [Act.put, List.setIfInBounds_toArray, List.set_cons_zero, List.set_cons_succ]
    refine wpAnyR_step (i := 2) (o := ⟨some 20, _, _, _, _, _⟩) (by kernel_rfl) rfl (by rfl) (fun K hK => ?_) -- Op.call { callee := Callee.value (Operand.func 147), args := #[Operand.tmp 19], argTypes := #[3] }
    go_simp
    refine (HL.out.2.1 w2.drew (HL.out.1.below (Below.refl _ w2).drew)).mono ?_
    rintro e w3 ⟨rfl, hB3⟩
    show K _ _
    have hS5 : Blk w3 vb 135 #[.string (bs (Pe.word x.kind)), .func (.func (verbFn x.kind)) #[] #[]] := H2.out.1.drew.below hB3 H2.out.1.lt
    have HZ3 := Lib.hid (And.intro hS5 (And.intro (H2.out.2.1.drew.trans (hB3.mono H2.out.2.1.size)) (H2.out.2.2.drew.below hB3 H2.out.2.2.lt)))
    clear hB3
    refine hK _ _ (pend_off (by kernel_rfl) (pend_on hS5 pend_nil)) (fun hq => ?_)
    clear hp hK K; have hp := hq; clear hq
    try simp only [Act.put, List.setIfInBounds_toArray, List.set_cons_zero, List.set_cons_succ]
    refine wpAnyR_take (i := 3) (oi := ⟨some 21, _, _, _, _, _⟩) (v := ?_) rfl (by kernel_rfl) (by kernel_rfl) (by kernel_rfl) (fun _ _ _ h => h) hp (.inl ⟨by rfl, fun w _ => ?_⟩) (fun hq => ?_)
    rotate_left
    · go_simp
      with_reducible rfl
    clear hp; have hp := hq; clear hq
    try simp only [Act.put, List.setIfInBounds_toArray, List.set_cons_zero, List.set_cons_succ]
    refine wpAnyR_take (i := 6) (oi := ⟨some 24, _, _, _, _, _⟩) (v := ?_) rfl (by kernel_rfl) (by kernel_rfl) (by kernel_rfl) (fun _ _ _ h => h) hp (.inl ⟨by rfl, fun w _ => ?_⟩) (fun hq => ?_)
    rotate_left
    · go_simp
      with_reducible rfl
    clear hp; have hp := hq; clear hq
    try simp only [Act.put, List.setIfInBounds_toArray, List.set_cons_zero, List.set_cons_succ]
    refine wpAnyR_take (i := 7) (oi := ⟨some 6, _, _, _, _, _⟩) (v := ?_) rfl (by kernel_rfl) (by kernel_rfl) (by kernel_rfl) (fun _ _ _ h => h) hp (.inl ⟨by rfl, fun w _ => ?_⟩) (fun hq => ?_)
    rotate_left
    · go_simp
      with_reducible rfl
    clear hp; have hp := hq; clear hq
    try simp only [Act.put, List.setIfInBounds_toArray, List.set_cons_zero, List.set_cons_succ]
    refine wpAnyR_done (by kernel_rfl) ?_ _
    clear hp
    all_goals
      go_wp2_with fail
      go_meet
      exact ⟨rfl, Lib.hid HZ3.out⟩
  case rest =>
  obtain ⟨rfl, HZ⟩ := hcut
  obtain ⟨w3, rfl⟩ : ∃ w3 : World, w3 = wc := ⟨_, rfl⟩
  have H3 := Lib.hid HZ.out
  clear HZ H2 HL ha1 ha2
  apply_assumption
  have v1 : w3.cell? ⟨vb, 1, none⟩ = some (.func (.func (verbFn x.kind)) #[] #[]) := H3.out.1.cell 1
  have hfc := verb_calls ex x.kind w3 hF.kind1 hF.kind7
  obtain ⟨F, hF0⟩ : ∃ F, F = verbFn x.kind := ⟨_, rfl⟩
  have hen := verb_enters x.kind hF.kind1 hF.kind7
  rw [← hF0] at v1 hfc hen
  have HFC := Lib.hid hfc
  clear hfc hF0
  obtain ⟨n, hn⟩ : ∃ n, n = (Pe.offs x.kind).length := ⟨_, rfl⟩
  have hn7 : n ≤ 7 := by rw [hn]; unfold Pe.offs; split <;> decide
  go_wp2_with fail
  refine HFC.out.mono ?_
  rintro e w4 ⟨rfl, hP4, hB4⟩
  rw [← hn]
  obtain ⟨pb, hpb⟩ : ∃ pb, pb = w3.heap.size := ⟨_, rfl⟩
  rw [← hpb] at hP4 ⊢
  have H4 := Lib.hid (And.intro hP4 (And.intro (H3.out.2.1.trans (hB4.mono H3.out.2.1.size)) (And.intro (H3.out.2.2.below hB4 H3.out.2.2.lt) (And.intro hn hpb))))
  clear hP4 hB4 v1 hen hpb
  dsimp only
  go_wp2_with fail
  have hhl : (Pe.head x).length ≤ 40 := by
    have h1 := dec_length x.day (by have := hF.low 0; simp only [Pe.Ent.get] at this; omega) (by have := hF.high 0; simp only [Pe.Ent.get] at this; omega)
    have h2 : (Pe.word x.kind).length ≤ 8 := by unfold Pe.word; split <;> decide
    simp [Pe.head]; omega
  go_loopg [29, 6] n (fun q s29 s6 wr => ∃ (i : Nat) (t : List UInt8), s29 = .int .i64 (i : Int) ∧ i + q = n ∧ s6 = .string (bs t) ∧ Hid (t = Pe.head x ++ Pe.nums x ((Pe.offs x.kind).take i) ∧ t.length ≤ 40 + 22 * i ∧ Below w.heap.size w wr ∧ Blk wr pb 140 (fptrs ex x.kind) ∧ Blk wr ex 31 (eCells x)))
  case atStart => exact ⟨0, Pe.head x, by go_num, by omega, rfl, Lib.hid ⟨by simp [Pe.nums], by omega, H4.out.2.1, H4.out.1, H4.out.2.2.1⟩⟩
  case round =>
    obtain ⟨i, t, rfl, hi, rfl, hR⟩ := hrel
    by_cases hgo : i < n
    case neg =>
      have hd1 : decide ((i : Int) < (n : Int)) = false := by simp; omega
      have htl := hR.out.2.1
      have hti : t = Pe.head x ++ Pe.nums x (Pe.offs x.kind) := by
        have h1 := hR.out.1
        rwa [List.take_of_length_le (by have := H4.out.2.2.2.1; omega)] at h1
      have e1 : wr.cell? ⟨ex, 1, none⟩ = some (.int .u8 (x.kind : Int)) := hR.out.2.2.2.2.cell 1
      have e9 : wr.cell? ⟨ex, 9, none⟩ = some (.string (bs x.name)) := hR.out.2.2.2.2.cell 9
      by_cases hk : x.kind = 1
      · have q1 : ((x.kind : Int) == 1) = true := by rw [hk]; rfl
        have hnl : x.name.length ≤ 24 := by
          have := hF.isn hk
          simp only [Pe.isName, Bool.and_eq_true, decide_eq_true_eq] at this
          omega
        have ha1 : Op.stringOp .add ⟨#[32]⟩ (bs x.name) = pure (.string (bs (32 :: x.name))) := add_bs [32] x.name (by simp; omega)
        have ha2 : Op.stringOp .add (bs t) (bs (32 :: x.name)) = pure (.string (bs (t ++ (32 :: x.name)))) := add_bs t (32 :: x.name) (by simp; omega)
        have HE := Lib.hid (And.intro hti hk)
        clear hti hk hnl htl
        go_wp2
        go_ret2
        refine ⟨?_, hR.out.2.2.1⟩
        rw [H.out.2.2.1, if_pos trivial, Pe.line, Pe.tail, if_pos HE.out.2, ← HE.out.1]; rfl
      · have q1 : ((x.kind : Int) == 1) = false := by simp; omega
        have HE := Lib.hid (And.intro hti hk)
        clear hti hk htl
        go_wp2
        go_ret2
        refine ⟨?_, hR.out.2.2.1⟩
        rw [H.out.2.2.1, if_pos trivial, Pe.line, Pe.tail, if_neg HE.out.2, ← HE.out.1, List.append_nil]; rfl
    have hd1 : decide ((i : Int) < (n : Int)) = true := by simp; omega
    obtain ⟨o, ho⟩ : ∃ o, (Pe.offs x.kind)[i]? = some o := ⟨_, List.getElem?_eq_getElem (by have := H4.out.2.2.2.1; omega)⟩
    have g0 : wr.cell? ⟨pb, i, none⟩ = some (.pointer (some ⟨ex, o, none⟩)) := by
      rw [hR.out.2.2.2.1.cell i]
      simp [fptrs, ho]
    have g1 : wr.cell? ⟨ex, o, none⟩ = some (.int .i64 (x.get o)) := by
      rw [hR.out.2.2.2.2.cell o]
      exact eCells_get x x.kind o (List.mem_of_getElem? ho)
    have hic := Itoa_calls (x.get o) (by have := hF.low o; omega) (by have := hF.high o; omega) wr (H.out.2.2.2.below hR.out.2.2.1)
    have hdl : (dec (x.get o)).length ≤ 21 := dec_length _ (by have := hF.low o; omega) (by have := hF.high o; omega)
    have htl := hR.out.2.1
    have ha1 : Op.stringOp .add ⟨#[32]⟩ (bs (dec (x.get o))) = pure (.string (bs (32 :: dec (x.get o)))) := add_bs [32] (dec (x.get o)) (by simp; omega)
    have ha2 : Op.stringOp .add (bs t) (bs (32 :: dec (x.get o))) = pure (.string (bs (t ++ (32 :: dec (x.get o))))) := add_bs t (32 :: dec (x.get o)) (by simp; omega)
    have HX := Lib.hid (And.intro ho (And.intro hic hdl))
    clear ho hic hdl htl
    go_wp2_with fail
    refine HX.out.2.1.mono ?_
    rintro e w5 ⟨rfl, hB5⟩
    have H5 := Lib.hid (And.intro (hR.out.2.2.1.trans (hB5.mono hR.out.2.2.1.size)) (And.intro (hR.out.2.2.2.1.below hB5 hR.out.2.2.2.1.lt) (hR.out.2.2.2.2.below hB5 hR.out.2.2.2.2.lt)))
    clear hB5 g0 g1
    dsimp only
    go_wp2
    go_roundg (gk - 1)
    case measure => omega
    case rel =>
      refine ⟨i + 1, t ++ (32 :: dec (x.get o)), by go_num, by omega, rfl, Lib.hid ⟨?_, ?_, H5.out⟩⟩
      · rw [List.take_add_one, HX.out.1, Option.toList_some, Pe.nums_snoc, hR.out.1, List.append_assoc]
      · have h1 := HX.out.2.2
        have h2 := hR.out.2.1
        simp; omega

end Go.Proofs.YtnphlekailodkaaGreatDoor
