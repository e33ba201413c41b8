/-
  PeopleWrites: for every entry and string, Write and Read return what the reference returns; the law returns true and leaves its argument as it was. No condition of ours; the library's variables that the row lists hold what the row says.
-/
import Derived.Test.YtfalajomfcfliaaGreatDoorCards
import Derived.Test.YtfalajomfcfliaaGreatDoorTie
import Derived.Test.YtfalajomfcfliaaGreatDoorLx
import Derived.Test.YtfalajomfcfliaaGreatDoorEi
import Derived.Test.YtfalajomfcfliaaGreatDoorRk
import Derived.SizedLaws
import Derived.ShutString
import Derived.SevenTiedAt
namespace Go.Proofs.YtfalajomfcfliaaGreatDoor.peopleWrites
open Go.ChangeShapes Go.WideShapes Go.ChangeAt Go.RowKit Go.Deep
set_option linter.unusedVariables false

theorem own : ownKnob Tryz.prog.godebug = none := by kernel_rfl
theorem laidOut : laidOutB Tryz.prog = true := by kernel_rfl

set_option maxRecDepth 100000 in
set_option maxHeartbeats 1000000 in
theorem lifted (os : Os) (started : os.Started) (H : Type) (enc : TypeId × Value → H) :
    ReturnsInHanded {} Tryz.checked os 6 .any (fun w args => (Rows.peopleWritesSpec.pre enc Tryz.prog Tryz.f6 Rows.peopleWritesRow.domain false w args ∧ laidMetH Tryz.prog Rows.peopleWritesRow.laid w) ∧ sizedMet enc Tryz.prog Tryz.f6 (OpenSpec.ofChange Rows.peopleWritesSpec) false w args)
      (Rows.peopleWritesSpec.post enc Tryz.prog Tryz.f6 false true false false) := by
  refine returnsInHanded_of_change_and (C := Tryz.checked) (X := fun w _ => laidMetH Tryz.prog Rows.peopleWritesRow.laid w) (fun _ _ _ hh h => h.of_heap hh) own started (by kernel_rfl) Tryz.func6
    (ChangeSpec.witness_at (enc := enc) (C := Tryz.checked) (os := os) (X := fun w _ => laidMetH Tryz.prog Rows.peopleWritesRow.laid w) false (laidWorld os) #[.agg (eCells Pe.zero), .string ⟨#[]⟩] 8 rfl (by kernel_rfl) (by kernel_rfl) (by kernel_rfl) (by kernel_rfl) (by kernel_rfl) (laid_met os _)) ?_
  intro W base args ds gs before hval0 hW _ hsz0 hL0 _
  have hL : Laid W := laid_of hL0
  have hsz : (DataW.weightsEach Tryz.prog (Tryz.f6.params.toList ++ Rows.peopleWritesSpec.plain.varTypes Tryz.prog) (ds ++ gs)).all (· ≤ reachBytes) = true := hsz0
  have hval : ∀ (j : Nat) t v, Tryz.f6.params[j]? = some t → args[j]? = some v → Value.okWide Tryz.prog W .any base t v := hval0
  have hW' := hW
  obtain ⟨p, q, hA0, hV, rfl, hfz, hnd⟩ := hW
  have hA : DataW.TrodAll enc Tryz.prog W 0 (fun _ => true) true Tryz.f6.params.toList args.toList ds p := hA0
  rw [Tryz.params6] at hA hval hsz
  obtain ⟨v0, vs0, d0, ds0, p0, q0, hargs, rfl, rfl, h0, r0⟩ := trodAll_cons hA
  obtain ⟨v1, vs1, d1, ds1, p1, q1, rfl, rfl, rfl, h1, r1⟩ := trodAll_cons r0
  obtain ⟨rfl, rfl, rfl⟩ := trodAll_nil r1
  obtain rfl : args = #[v0, v1] := by cases args; simp_all
  obtain ⟨rfl, rfl⟩ := trodVars_none hV
  obtain ⟨cs, rfl, hcsz⟩ := okWide_struct Tryz.underlying29 (hval 0 29 v0 rfl rfl)
  have k0 := h0
  have lt0 : ∀ x ∈ p0, x.block < W.heap.size := by obtain ⟨m, hm⟩ := k0; exact DataW.trod_lt m _ _ _ hm
  obtain ⟨x, hx, hok⟩ : ∃ x : Pe.Ent, cs = eCells x ∧ EOk x := by
    obtain ⟨fuel, hf⟩ := h0
    obtain ⟨x, hx, hok⟩ := ent_in hf
    refine ⟨x, ?_, hok⟩
    have : cs.toList = (eCells x).toList := hx.symm
    exact Array.toList_inj.1 this
  subst hx
  obtain ⟨S, rfl, rfl, rfl, wS⟩ := ChangeMaps.open_string Tryz.underlying9 (hval 1 9 v1 rfl rfl) h1
  have hbytes : S.data.toList.length ≤ 140737488355328 := by
    have hs := sized_string hsz (j := 1) (t := 9) rfl rfl
    simp only [reachBytes] at hs
    omega
  obtain ⟨L, hSL⟩ : ∃ L, L = S.data.toList := ⟨_, rfl⟩
  have hS : S = bs L := by rw [hSL, bs_toList]
  rw [← hSL] at hbytes
  clear hA0 hval0
  subst hS
  refine (writes_law x L W hok.name hbytes hL).mono fun e W' ⟨he, bel⟩ => ?_
  subst he
  exact ⟨_, rfl, _, _, _, [], _, [], hW', trodAll_mk1 (shut_bool Tryz.underlying4 _), (trodAll_cons_mk (Below.trod laidOut (by kernel_rfl) (of_decide_eq_true (by kernel_rfl)) k0 bel lt0) (trodAll_cons_mk (ChangeMaps.shut_string Tryz.underlying9 wS) trodAll_mk0)), rfl, bel.frame _, fun h => by cases h⟩

theorem over : Rows.PeopleWritesSaid :=
  OpenClaim.holds_of_wide 6 Tryz.f6 rfl rfl rfl rfl rfl rfl rfl ⟨rfl, rfl, rfl, rfl, rfl⟩ rfl rfl rfl rfl rfl (by kernel_rfl) Tryz.func6 (by kernel_rfl)
    (of_decide_eq_true (by kernel_rfl)) (by unfold Func.isWrapper; first | (rw [if_pos (by decide +kernel)]; kernel_rfl) | (rw [if_neg (by decide +kernel)]; exact ⟨rfl, rfl⟩))
    (fun os started H enc _ => lifted os started H enc)

/-- ████ THE STATEMENT ████ -/
theorem proved : Rows.PeopleWritesCardSaid :=
  Claim7.holds_tied_plain_at .later [] [.data, .data, .data, .sentinel, .sentinel] true (true, "6031424d8f960615d644f3deb90f16154c403d1124be86676ca94bb50484da58") true
    over (fun _ h => by cases h) (by kernel_rfl) (fun _ h => by cases h) peopleWrites_row_tie rfl ⟨rfl, rfl⟩ (by kernel_rfl) rfl
    (fun f fn hf hfn => by
      obtain rfl : f = 6 := Option.some.inj ((show Tryz.prog.funcNamed "restante/restantelaw03.PeopleWrites" = some 6 by kernel_rfl).symm.trans hf) |>.symm
      obtain rfl : fn = Tryz.f6 := (Option.some.inj (Tryz.func6.symm.trans hfn)).symm
      exact ⟨by kernel_rfl, fun j t ht => by
        rw [Tryz.params6] at ht
        rcases j with _ | _ | j
        · obtain rfl : t = 29 := by simpa using ht.symm
          exact (show Tryz.prog.wantsStandIn 29 = false by kernel_rfl)
        · obtain rfl : t = 9 := by simpa using ht.symm
          exact (show Tryz.prog.wantsStandIn 9 = false by kernel_rfl)
        · simp at ht⟩)
    (by kernel_rfl)
#print axioms proved
end Go.Proofs.YtfalajomfcfliaaGreatDoor.peopleWrites
