/-
  CustodyJournal: for every number of sectors and every script of appends, syncs, power failures, crashes and openings, the law returns true: the journal returns what its definition allows. No condition.
  The frame of this text is the guide's shell (proof-skeleton.mjs); the walk stands in the texts that it imports.
-/
import Derived.Test.YtdnjelggdjimhaaRows
import Derived.Test.YtdnjelggdjimhaaJm6
import Derived.Test.YtdnjelggdjimhaaIn
import Derived.WalkKit
import Derived.ProofKit
import Derived.OpenShut
import Derived.ShutString
import Derived.ChangeOld
import Derived.Below
import Derived.Deep.Slices
import Derived.Deep.Fields
namespace Go.Proofs.Ytdnjelggdjimhaa.custodyJournal
open Go.ChangeShapes Go.WideShapes Go.ChangeAt Go.RowKit Go.Deep
set_option linter.unusedVariables false

theorem own : ownKnob Try.prog.godebug = none := by kernel_rfl
theorem laidOut : laidOutB Try.prog = true := by kernel_rfl

section
variable {H : Type} {enc : TypeId × Value → H} {W : World}
theorem op_in {fuel : Nat} {cs : List Value} {x : DataW H × List MemPlace} (h : DataW.trod enc Try.prog W 0 (fun _ => true) true fuel 65 cs = some x) : ∃ o : RawJ, o.cells = cs ∧ o.Ok W := by
  obtain ⟨xs, n, _, _, hl, _, hf⟩ := DataW.trod_struct Try.underlying65 h
  rw [show Try.prog.cellsOf 65 = 4 from by kernel_rfl] at hl
  match cs, hl with
  | [c0, c1, c2, c3], _ =>
    have k0 : Try.prog.cellsOf 5 = 1 := by kernel_rfl
    have k1 : Try.prog.cellsOf 9 = 1 := by kernel_rfl
    have k2 : Try.prog.cellsOf 3 = 1 := by kernel_rfl
    have k3 : Try.prog.cellsOf 32 = 1 := by kernel_rfl
    have h0 : DataW.trod enc Try.prog W 0 (fun _ => true) true n 5 (List.take (Try.prog.cellsOf 5) (List.drop 0 [c0, c1, c2, c3])) = xs[0]? := hf 0 _ rfl
    have h1 : DataW.trod enc Try.prog W 0 (fun _ => true) true n 9 (List.take (Try.prog.cellsOf 9) (List.drop 1 [c0, c1, c2, c3])) = xs[1]? := hf 1 _ rfl
    have h2 : DataW.trod enc Try.prog W 0 (fun _ => true) true n 3 (List.take (Try.prog.cellsOf 3) (List.drop 2 [c0, c1, c2, c3])) = xs[2]? := hf 2 _ rfl
    have h3 : DataW.trod enc Try.prog W 0 (fun _ => true) true n 32 (List.take (Try.prog.cellsOf 32) (List.drop 3 [c0, c1, c2, c3])) = xs[3]? := hf 3 _ rfl
    rw [k0] at h0; rw [k1] at h1; rw [k2] at h2; rw [k3] at h3
    have some_of : ∀ i, i < 4 → ∃ y, xs[i]? = some y := fun i hi => ⟨_, List.getElem?_eq_getElem (by simp_all)⟩
    obtain ⟨y0, e0⟩ := some_of 0 (by omega)
    obtain ⟨y1, e1⟩ := some_of 1 (by omega)
    obtain ⟨y2, e2⟩ := some_of 2 (by omega)
    obtain ⟨y3, e3⟩ := some_of 3 (by omega)
    obtain ⟨kd, hk, _, hkw⟩ := DataW.trod_int Try.underlying5 (h0.trans e0)
    obtain ⟨s, hs, _, hsw⟩ := DataW.trod_string Try.underlying9 (h1.trans e1)
    obtain ⟨nn, hn, _, hnw⟩ := DataW.trod_int Try.underlying3 (h2.trans e2)
    obtain ⟨B, b, e, keep, hkp, hkeep⟩ := ints_in (h3.trans e3)
    cases hk; cases hs; cases hn; subst hkp
    have hb := bounds_u8 hkw
    have hb2 := bounds_i64 hnw
    refine ⟨⟨kd.toNat, s.data.toList, nn, B, b, e, keep⟩, ?_, hkeep, by simp only; omega, by simp only; omega⟩
    simp only [RawJ.cells]
    rw [show ((kd.toNat : Nat) : Int) = kd from by omega, bs_toList]

theorem jscript_in {fuel : Nat} {A : Option Addr} {n c : Nat} {x : DataW H × List MemPlace} (h : DataW.trod enc Try.prog W 0 (fun _ => true) true fuel 57 [.slice A n c] = some x) : ∃ ops, JScriptAt W A n ops := by
  rcases open_slice Try.underlying57 h with ⟨hcs, _⟩ | ⟨a, len, cap, m, n', D, Pl, hcs, hb, hl, hm, hmm, hx, hi⟩
  · cases hcs
    exact ⟨[], rfl, by omega, .inl rfl, fun o ho => by cases ho⟩
  · cases hcs
    have hmc : m = c := by simpa using hmm
    obtain ⟨ops, hlen, hops⟩ := list_choose (P := fun i (o : RawJ) => o.Ok W ∧ ∀ j v, o.cells[j]? = some v → W.cell? ((a.add (i * 4)).add j) = some v) n (fun i hi' => by
      obtain ⟨cs', hc, ht'⟩ := hi i (by omega)
      rw [show Try.prog.cellsOf 65 = 4 from by kernel_rfl] at hc
      obtain ⟨_, hlen, hat⟩ := World.cells?_some hc
      obtain ⟨o, ho, hok⟩ := op_in ht'
      refine ⟨o, hok, fun j v hv => ?_⟩
      rw [ho] at hv
      have hj : j < 4 := by have := (List.getElem?_eq_some_iff.1 hv).1; omega
      rw [hat j hj, hv])
    refine ⟨ops, hlen.symm, by simp only [maxLen] at hm; omega, .inr ⟨a, rfl, fun i o ho j v hv => (hops i o ho).2 j v hv⟩, fun o ho => ?_⟩
    obtain ⟨i, hi'⟩ := List.mem_iff_getElem?.1 ho
    exact (hops i o hi').1
end

/-! ### THE ROW's STEP -/
set_option maxRecDepth 100000 in
theorem lifted (os : Os) (started : os.Started) (H : Type) (enc : TypeId × Value → H) :
    ReturnsInHanded {} Try.checked os 7 .any (Rows.custodyJournalSpec.pre6 enc Try.prog Try.f7 Rows.custodyJournalRow.domain false) (Rows.custodyJournalSpec.post enc Try.prog Try.f7 false true false false) := by
  refine returnsInHanded_of_change (C := Try.checked) own started (by kernel_rfl) Try.func7
    (ChangeSpec.witness6 (enc := enc) (C := Try.checked) false ⟨#[], #[.int .i64 0, .slice none 0 0], []⟩ 8 (by kernel_rfl) (by kernel_rfl) (by kernel_rfl) (by kernel_rfl)) ?_
  intro W base args ds gs before hval0 hW hcnd _
  have hval : ∀ (j : Nat) t v, Try.f7.params[j]? = some t → args[j]? = some v → Value.okWide Try.prog W .any base t v := hval0
  have hW' := hW
  obtain ⟨p, q, hA0, hV, rfl, hfz, hnd⟩ := hW
  have hA : DataW.TrodAll enc Try.prog W 0 (fun _ => true) true Try.f7.params.toList args.toList ds p := hA0
  rw [Try.params7] at hA hval
  obtain ⟨v0, vs0, d0, ds0, p0, q0, hargs, rfl, rfl, h0, r0⟩ := trodAll_cons hA
  obtain ⟨v1, vs1, d1, ds1, p1, q1, rfl, rfl, rfl, h1, r1⟩ := trodAll_cons r0
  obtain ⟨rfl, rfl, rfl⟩ := trodAll_nil r1
  obtain rfl : args = #[v0, v1] := by cases args; simp_all
  obtain ⟨rfl, rfl⟩ := trodVars_none hV
  obtain ⟨a0, rfl, rfl, rfl, w0⟩ := open_int Try.underlying3 (hval 0 3 v0 rfl rfl) h0
  obtain ⟨a1, len1, cap1, rfl⟩ := okWide_slice Try.underlying57 (hval 1 57 v1 rfl rfl)
  have k1 := h1
  have lt1 : ∀ x ∈ p1, x.block < W.heap.size := by obtain ⟨m, hm⟩ := k1; exact DataW.trod_lt m _ _ _ hm
  obtain ⟨ops, w1⟩ : ∃ ops, JScriptAt W a1 len1 ops := by
    obtain ⟨fuel, hf⟩ := h1
    exact jscript_in hf
  clear hA0 hval0
  refine (journal_law a0 a1 len1 cap1 ops W w1).mono fun e W' ⟨he, bel⟩ => ?_
  subst he
  exact ⟨_, rfl, _, _, _, [], _, [], hW', trodAll_mk1 (shut_bool Try.underlying4 _), (trodAll_cons_mk (shut_int Try.underlying3 w0) (trodAll_cons_mk (Below.trod laidOut (by kernel_rfl) (of_decide_eq_true (by kernel_rfl)) k1 bel lt1) trodAll_mk0)), rfl, bel.frame _, fun h => by cases h⟩

theorem over : Rows.custodyJournalRow.holds Try.pinned (OpenSpec.ofChange Rows.custodyJournalSpec) :=
  OpenClaim.holds_of_wide 7 Try.f7 rfl rfl rfl rfl rfl rfl rfl ⟨rfl, rfl, rfl, rfl, rfl⟩ rfl rfl rfl rfl rfl (by kernel_rfl) Try.func7 (by kernel_rfl)
    (of_decide_eq_true (by kernel_rfl)) (by unfold Func.isWrapper; first | (rw [if_pos (by decide +kernel)]; kernel_rfl) | (rw [if_neg (by decide +kernel)]; exact ⟨rfl, rfl⟩))
    (fun os started H enc _ => lifted os started H enc)

/-- ████ THE STATEMENT ████ -/
theorem proved : Rows.CustodyJournalSaid := over
#print axioms proved
end Go.Proofs.Ytdnjelggdjimhaa.custodyJournal
