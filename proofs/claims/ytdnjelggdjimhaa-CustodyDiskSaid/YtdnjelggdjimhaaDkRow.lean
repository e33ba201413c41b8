/-
  CustodyDisk: for every number of sectors and every script, the law returns true: the disk returns what its definition says and has its contents at the end. No condition.
  The frame of this text is the guide's shell (proof-skeleton.mjs); the walk stands in the texts that it imports.
-/
import Derived.Test.YtdnjelggdjimhaaRows
import Derived.Test.YtdnjelggdjimhaaSp6
import Derived.WalkKit
import Derived.ProofKit
import Derived.OpenShut
import Derived.ShutString
import Derived.ChangeOld
import Derived.Below
import Derived.Deep.Slices
import Derived.Deep.Fields
namespace Go.Proofs.Ytdnjelggdjimhaa.custodyDisk
open Go.ChangeShapes Go.WideShapes Go.ChangeAt Go.RowKit Go.Deep
set_option linter.unusedVariables false

theorem own : ownKnob Try.prog.godebug = none := by kernel_rfl
theorem laidOut : laidOutB Try.prog = true := by kernel_rfl

theorem list_choose {α : Type} {P : Nat → α → Prop} : ∀ n : Nat, (∀ i, i < n → ∃ a, P i a) → ∃ l : List α, l.length = n ∧ ∀ i a, l[i]? = some a → P i a
  | 0, _ => ⟨[], rfl, fun i a h => by simp at h⟩
  | n + 1, h => by
    obtain ⟨l, hl, hp⟩ := list_choose n (fun i hi => h i (by omega))
    obtain ⟨a, ha⟩ := h n (by omega)
    refine ⟨l ++ [a], by simp [hl], fun i b hb => ?_⟩
    by_cases hi : i < n
    · rw [List.getElem?_append_left (by omega)] at hb
      exact hp i b hb
    · have : i < (l ++ [a]).length := (List.getElem?_eq_some_iff.1 hb).1
      have hin : i = n := by simp [hl] at this; omega
      subst hin
      rw [List.getElem?_append_right (by omega), hl, Nat.sub_self] at hb
      cases hb
      exact ha

section
variable {H : Type} {enc : TypeId × Value → H} {W : World}
theorem bytes_in {fuel : Nat} {v : Value} {x : DataW H × List MemPlace} (h : DataW.trod enc Try.prog W 0 (fun _ => true) true fuel 22 [v] = some x) : ∃ A a c l, v = .slice A a c ∧ BytesAt W A a c l := by
  rcases open_ints Try.underlying22 Try.underlying5 (by kernel_rfl) h with ⟨hcs, _⟩ | ⟨x, len, cap, zs, hcs, _, hlc, hm, hz, _, hc, hwf⟩
  · cases hcs
    exact ⟨none, 0, 0, [], rfl, rfl, Nat.le_refl _, .inl rfl⟩
  · cases hcs
    have hz' : zs.length = cap := by simpa using hz
    refine ⟨_, _, _, (zs.take len).map fun n => UInt8.ofNat n.toNat, rfl, by simp; omega, hlc, .inr ⟨x, rfl, fun j v hv => ?_⟩⟩
    simp only [bvs, List.map_map, List.getElem?_map, List.getElem?_take] at hv
    split at hv
    · rename_i hj
      have hjz : j < zs.length := by omega
      rw [List.getElem?_eq_getElem hjz] at hv
      simp only [Option.map_some, Option.some.injEq] at hv
      have hw := hwf _ (List.getElem_mem hjz)
      have hb := bounds_u8 hw
      rw [hc j hjz, ← hv, List.getD_eq_getElem?_getD, List.getElem?_eq_getElem hjz]
      simp only [Option.getD_some, Function.comp, bv]
      congr 2
      rw [UInt8.toNat_ofNat_of_lt' (by simp [UInt8.size]; omega)]
      omega
    · simp at hv
theorem ints_in {fuel : Nat} {v : Value} {x : DataW H × List MemPlace} (h : DataW.trod enc Try.prog W 0 (fun _ => true) true fuel 32 [v] = some x) : ∃ A a c l, v = .slice A a c ∧ IntsAt W A a l := by
  rcases open_ints Try.underlying32 Try.underlying3 (by kernel_rfl) h with ⟨hcs, _⟩ | ⟨x, len, cap, zs, hcs, _, hlc, hm, hz, _, hc, hwf⟩
  · cases hcs
    exact ⟨none, 0, 0, [], rfl, rfl, .inl rfl⟩
  · cases hcs
    have hz' : zs.length = cap := by simpa using hz
    by_cases h0 : len = 0
    · subst h0
      exact ⟨_, _, _, [], rfl, rfl, .inl rfl⟩
    refine ⟨_, _, _, zs.take len, rfl, by simp; omega, .inr ⟨x, rfl, ?_, fun j hj => ?_⟩⟩
    · have := World.block_lt_of_cell? W _ (hc 0 (by omega))
      have hb : (x.add 0).block = x.block := by unfold Addr.add; split <;> rfl
      rwa [hb] at this
    · rw [List.length_take] at hj
      rw [hc j (by omega)]
      congr 2
      rw [List.getD_eq_getElem?_getD, List.getD_eq_getElem?_getD, List.getElem?_take, if_pos (by omega)]

theorem op_in {fuel : Nat} {cs : List Value} {x : DataW H × List MemPlace} (h : DataW.trod enc Try.prog W 0 (fun _ => true) true fuel 43 cs = some x) : ∃ o : RawOp, o.cells = cs ∧ o.Ok W := by
  obtain ⟨xs, n, _, _, hl, _, hf⟩ := DataW.trod_struct Try.underlying43 h
  rw [show Try.prog.cellsOf 43 = 5 from by kernel_rfl] at hl
  match cs, hl with
  | [c0, c1, c2, c3, c4], _ =>
    have k0 : Try.prog.cellsOf 5 = 1 := by kernel_rfl
    have k1 : Try.prog.cellsOf 3 = 1 := by kernel_rfl
    have k2 : Try.prog.cellsOf 22 = 1 := by kernel_rfl
    have k4 : Try.prog.cellsOf 32 = 1 := by kernel_rfl
    have h0 : DataW.trod enc Try.prog W 0 (fun _ => true) true n 5 (List.take (Try.prog.cellsOf 5) (List.drop 0 [c0, c1, c2, c3, c4])) = xs[0]? := hf 0 _ rfl
    have h1 : DataW.trod enc Try.prog W 0 (fun _ => true) true n 3 (List.take (Try.prog.cellsOf 3) (List.drop 1 [c0, c1, c2, c3, c4])) = xs[1]? := hf 1 _ rfl
    have h2 : DataW.trod enc Try.prog W 0 (fun _ => true) true n 22 (List.take (Try.prog.cellsOf 22) (List.drop 2 [c0, c1, c2, c3, c4])) = xs[2]? := hf 2 _ rfl
    have h3 : DataW.trod enc Try.prog W 0 (fun _ => true) true n 3 (List.take (Try.prog.cellsOf 3) (List.drop 3 [c0, c1, c2, c3, c4])) = xs[3]? := hf 3 _ rfl
    have h4 : DataW.trod enc Try.prog W 0 (fun _ => true) true n 32 (List.take (Try.prog.cellsOf 32) (List.drop 4 [c0, c1, c2, c3, c4])) = xs[4]? := hf 4 _ rfl
    rw [k0] at h0; rw [k1] at h1 h3; rw [k2] at h2; rw [k4] at h4
    have some_of : ∀ i, i < 5 → ∃ y, xs[i]? = some y := fun i hi => ⟨_, List.getElem?_eq_getElem (by simp_all)⟩
    obtain ⟨y0, e0⟩ := some_of 0 (by omega)
    obtain ⟨y1, e1⟩ := some_of 1 (by omega)
    obtain ⟨y2, e2⟩ := some_of 2 (by omega)
    obtain ⟨y3, e3⟩ := some_of 3 (by omega)
    obtain ⟨y4, e4⟩ := some_of 4 (by omega)
    obtain ⟨kd, hk, _, hkw⟩ := DataW.trod_int Try.underlying5 (h0.trans e0)
    obtain ⟨s, hs, _, hsw⟩ := DataW.trod_int Try.underlying3 (h1.trans e1)
    obtain ⟨A, a, c, data, hd, hdat⟩ := bytes_in (h2.trans e2)
    obtain ⟨nn, hn, _, hnw⟩ := DataW.trod_int Try.underlying3 (h3.trans e3)
    obtain ⟨B, b, e, keep, hkp, hkeep⟩ := ints_in (h4.trans e4)
    cases hk; cases hs; subst hd; cases hn; subst hkp
    have hb := bounds_u8 hkw
    have hb2 := bounds_i64 hnw
    refine ⟨⟨kd.toNat, s, A, a, c, nn, B, b, e, data, keep⟩, ?_, hdat, hkeep, by simp only; omega, by simp only; omega⟩
    simp only [RawOp.cells]
    rw [show ((kd.toNat : Nat) : Int) = kd from by omega]

theorem script_in {fuel : Nat} {A : Option Addr} {n c : Nat} {x : DataW H × List MemPlace} (h : DataW.trod enc Try.prog W 0 (fun _ => true) true fuel 36 [.slice A n c] = some x) : ∃ ops, ScriptAt W A n ops := by
  rcases open_slice Try.underlying36 h with ⟨hcs, _⟩ | ⟨a, len, cap, m, n', D, Pl, hcs, hb, hl, hm, hmm, hx, hi⟩
  · cases hcs
    exact ⟨[], rfl, by omega, .inl rfl, fun o ho => by cases ho⟩
  · cases hcs
    have hmc : m = c := by simpa using hmm
    obtain ⟨ops, hlen, hops⟩ := list_choose (P := fun i (o : RawOp) => o.Ok W ∧ ∀ j v, o.cells[j]? = some v → W.cell? ((a.add (i * 5)).add j) = some v) n (fun i hi' => by
      obtain ⟨cs', hc, ht'⟩ := hi i (by omega)
      rw [show Try.prog.cellsOf 43 = 5 from by kernel_rfl] at hc
      obtain ⟨_, hlen, hat⟩ := World.cells?_some hc
      obtain ⟨o, ho, hok⟩ := op_in ht'
      refine ⟨o, hok, fun j v hv => ?_⟩
      rw [ho] at hv
      have hj : j < 5 := by have := (List.getElem?_eq_some_iff.1 hv).1; omega
      rw [hat j hj, hv])
    refine ⟨ops, hlen.symm, by simp only [maxLen] at hm; omega, .inr ⟨a, rfl, fun i o ho j v hv => (hops i o ho).2 j v hv⟩, fun o ho => ?_⟩
    obtain ⟨i, hi'⟩ := List.mem_iff_getElem?.1 ho
    exact (hops i o hi').1
end

/-! ### THE ROW's STEP -/
set_option maxRecDepth 100000 in
theorem lifted (os : Os) (started : os.Started) (H : Type) (enc : TypeId × Value → H) :
    ReturnsInHanded {} Try.checked os 4 .any (Rows.custodyDiskSpec.pre6 enc Try.prog Try.f4 Rows.custodyDiskRow.domain false) (Rows.custodyDiskSpec.post enc Try.prog Try.f4 false true false false) := by
  refine returnsInHanded_of_change (C := Try.checked) own started (by kernel_rfl) Try.func4
    (ChangeSpec.witness6 (enc := enc) (C := Try.checked) false ⟨#[], #[.int .i64 0, .slice none 0 0], []⟩ 8 (by kernel_rfl) (by kernel_rfl) (by kernel_rfl) (by kernel_rfl)) ?_
  intro W base args ds gs before hval0 hW hcnd _
  have hval : ∀ (j : Nat) t v, Try.f4.params[j]? = some t → args[j]? = some v → Value.okWide Try.prog W .any base t v := hval0
  have hW' := hW
  obtain ⟨p, q, hA0, hV, rfl, hfz, hnd⟩ := hW
  have hA : DataW.TrodAll enc Try.prog W 0 (fun _ => true) true Try.f4.params.toList args.toList ds p := hA0
  rw [Try.params4] at hA hval
  obtain ⟨v0, vs0, d0, ds0, p0, q0, hargs, rfl, rfl, h0, r0⟩ := trodAll_cons hA
  obtain ⟨v1, vs1, d1, ds1, p1, q1, rfl, rfl, rfl, h1, r1⟩ := trodAll_cons r0
  obtain ⟨rfl, rfl, rfl⟩ := trodAll_nil r1
  obtain rfl : args = #[v0, v1] := by cases args; simp_all
  obtain ⟨rfl, rfl⟩ := trodVars_none hV
  obtain ⟨a0, rfl, rfl, rfl, w0⟩ := open_int Try.underlying3 (hval 0 3 v0 rfl rfl) h0
  obtain ⟨a1, len1, cap1, rfl⟩ := okWide_slice Try.underlying36 (hval 1 36 v1 rfl rfl)
  have k1 := h1
  have lt1 : ∀ x ∈ p1, x.block < W.heap.size := by obtain ⟨m, hm⟩ := k1; exact DataW.trod_lt m _ _ _ hm
  obtain ⟨ops, w1⟩ : ∃ ops, ScriptAt W a1 len1 ops := by
    obtain ⟨fuel, hf⟩ := h1
    exact script_in hf
  clear hA0 hval0
  refine (disk_law a0 a1 len1 cap1 ops W w1).mono fun e W' ⟨he, bel⟩ => ?_
  subst he
  exact ⟨_, rfl, _, _, _, [], _, [], hW', trodAll_mk1 (shut_bool Try.underlying4 _), (trodAll_cons_mk (shut_int Try.underlying3 w0) (trodAll_cons_mk (Below.trod laidOut (by kernel_rfl) (of_decide_eq_true (by kernel_rfl)) k1 bel lt1) trodAll_mk0)), rfl, bel.frame _, fun h => by cases h⟩

theorem over : Rows.custodyDiskRow.holds Try.pinned (OpenSpec.ofChange Rows.custodyDiskSpec) :=
  OpenClaim.holds_of_wide 4 Try.f4 rfl rfl rfl rfl rfl rfl rfl ⟨rfl, rfl, rfl, rfl, rfl⟩ rfl rfl rfl rfl rfl (by kernel_rfl) Try.func4 (by kernel_rfl)
    (of_decide_eq_true (by kernel_rfl)) (by unfold Func.isWrapper; first | (rw [if_pos (by decide +kernel)]; kernel_rfl) | (rw [if_neg (by decide +kernel)]; exact ⟨rfl, rfl⟩))
    (fun os started H enc _ => lifted os started H enc)

/-- ████ THE STATEMENT ████ -/
theorem proved : Rows.CustodyDiskSaid := over
#print axioms proved
end Go.Proofs.Ytdnjelggdjimhaa.custodyDisk
