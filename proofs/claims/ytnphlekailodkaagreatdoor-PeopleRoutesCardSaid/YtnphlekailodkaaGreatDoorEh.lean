/-
  A pair, a route that came in.
-/
import Derived.Test.YtnphlekailodkaaGreatDoorEi
import Derived.Test.YtnphlekailodkaaGreatDoorRc
import Derived.Test.YtnphlekailodkaaGreatDoorHp
namespace Go.Proofs.YtnphlekailodkaaGreatDoor
open Go.ChangeShapes Go.WideShapes Go.ChangeAt Go.RowKit Go.Deep

section
variable {H : Type} {enc : TypeId × Value → H} {W : World}
set_option maxRecDepth 100000 in
theorem pair_in {fuel : Nat} {cs : List Value} {x : DataW H × List MemPlace} (h : DataW.trod enc Tryz.prog W 0 (fun _ => true) true fuel 28 cs = some x) : ∃ e : Pe.Pair, (pCells e).toList = cs := by
  obtain ⟨xs, n, _, _, hl, _, hf⟩ := DataW.trod_struct Tryz.underlying28 h
  rw [show Tryz.prog.cellsOf 28 = 2 from by kernel_rfl] at hl
  match cs, hl with
  | [c0, c1], _ =>
    have ki : Tryz.prog.cellsOf 3 = 1 := by kernel_rfl
    have h0 : DataW.trod enc Tryz.prog W 0 (fun _ => true) true n 3 (List.take (Tryz.prog.cellsOf 3) (List.drop 0 [c0, c1])) = xs[0]? := hf 0 _ rfl
    have h1 : DataW.trod enc Tryz.prog W 0 (fun _ => true) true n 3 (List.take (Tryz.prog.cellsOf 3) (List.drop 1 [c0, c1])) = xs[1]? := hf 1 _ rfl
    rw [ki] at h0
    rw [ki] at h1
    have some_of : ∀ i, i < 2 → ∃ y, xs[i]? = some y := fun i hi => ⟨_, List.getElem?_eq_getElem (by simp_all)⟩
    obtain ⟨y0, e0⟩ := some_of 0 (by omega)
    obtain ⟨y1, e1⟩ := some_of 1 (by omega)
    obtain ⟨z0, q0, _, w0⟩ := DataW.trod_int Tryz.underlying3 (h0.trans e0)
    obtain ⟨z1, q1, _, w1⟩ := DataW.trod_int Tryz.underlying3 (h1.trans e1)
    cases q0
    cases q1
    exact ⟨(z0, z1), rfl⟩
end

end Go.Proofs.YtnphlekailodkaaGreatDoor

namespace Go.Proofs.YtnphlekailodkaaGreatDoor
open Go.ChangeShapes Go.WideShapes Go.ChangeAt Go.RowKit Go.Deep

section
variable {H : Type} {enc : TypeId × Value → H} {W : World}
set_option maxRecDepth 100000 in
theorem hop_in {fuel : Nat} {cs : List Value} {x : DataW H × List MemPlace} (h : DataW.trod enc Tryz.prog W 0 (fun _ => true) true fuel 66 cs = some x) : ∃ e : Pe.Hop, (hCells e).toList = cs := by
  obtain ⟨xs, n, _, _, hl, _, hf⟩ := DataW.trod_struct Tryz.underlying66 h
  rw [show Tryz.prog.cellsOf 66 = 6 from by kernel_rfl] at hl
  match cs, hl with
  | [c0, c1, c2, c3, c4, c5], _ =>
    have ki : Tryz.prog.cellsOf 3 = 1 := by kernel_rfl
    have ku : Tryz.prog.cellsOf 5 = 1 := by kernel_rfl
    have kp : Tryz.prog.cellsOf 28 = 2 := by kernel_rfl
    have h0 : DataW.trod enc Tryz.prog W 0 (fun _ => true) true n 5 (List.take (Tryz.prog.cellsOf 5) (List.drop 0 [c0, c1, c2, c3, c4, c5])) = xs[0]? := hf 0 _ rfl
    have h1 : DataW.trod enc Tryz.prog W 0 (fun _ => true) true n 28 (List.take (Tryz.prog.cellsOf 28) (List.drop 1 [c0, c1, c2, c3, c4, c5])) = xs[1]? := hf 1 _ rfl
    have h2 : DataW.trod enc Tryz.prog W 0 (fun _ => true) true n 28 (List.take (Tryz.prog.cellsOf 28) (List.drop 3 [c0, c1, c2, c3, c4, c5])) = xs[2]? := hf 2 _ rfl
    have h3 : DataW.trod enc Tryz.prog W 0 (fun _ => true) true n 3 (List.take (Tryz.prog.cellsOf 3) (List.drop 5 [c0, c1, c2, c3, c4, c5])) = xs[3]? := hf 3 _ rfl
    rw [ku] at h0
    rw [kp] at h1
    rw [kp] at h2
    rw [ki] at h3
    have some_of : ∀ i, i < 4 → ∃ y, xs[i]? = some y := fun i hi => ⟨_, List.getElem?_eq_getElem (by simp_all)⟩
    obtain ⟨y0, e0⟩ := some_of 0 (by omega)
    obtain ⟨y1, e1⟩ := some_of 1 (by omega)
    obtain ⟨y2, e2⟩ := some_of 2 (by omega)
    obtain ⟨y3, e3⟩ := some_of 3 (by omega)
    obtain ⟨z0, q0, _, w0⟩ := DataW.trod_int Tryz.underlying5 (h0.trans e0)
    obtain ⟨p1, q1⟩ := pair_in (h1.trans e1)
    obtain ⟨p2, q2⟩ := pair_in (h2.trans e2)
    obtain ⟨z3, q3, _, w3⟩ := DataW.trod_int Tryz.underlying3 (h3.trans e3)
    cases q0
    cases q3
    have hb := bounds_u8 w0
    have g1 : c1 = .int .i64 p1.1 ∧ c2 = .int .i64 p1.2 := by
      have : [Value.int .i64 p1.1, .int .i64 p1.2] = [c1, c2] := q1
      injection this with a1 a2
      injection a2 with a2 _
      exact ⟨a1.symm, a2.symm⟩
    have g2 : c3 = .int .i64 p2.1 ∧ c4 = .int .i64 p2.2 := by
      have : [Value.int .i64 p2.1, .int .i64 p2.2] = [c3, c4] := q2
      injection this with a1 a2
      injection a2 with a2 _
      exact ⟨a1.symm, a2.symm⟩
    obtain ⟨rfl, rfl⟩ := g1
    obtain ⟨rfl, rfl⟩ := g2
    refine ⟨⟨z0.toNat, p1, p2, z3⟩, ?_⟩
    simp only [hCells]
    rw [show ((z0.toNat : Nat) : Int) = z0 from by omega]
theorem hops_in {fuel : Nat} {A : Option Addr} {n c : Nat} {x : DataW H × List MemPlace} (h : DataW.trod enc Tryz.prog W 0 (fun _ => true) true fuel 32 [.slice A n c] = some x) : ∃ l, HopsAt W A n l := by
  rcases open_slice Tryz.underlying32 h with ⟨hcs, _⟩ | ⟨a, len, cap, m, n', D, Pl, hcs, hb, hl, hm, hmm, hx, hi⟩
  · cases hcs
    exact ⟨[], ⟨rfl, .inl rfl⟩⟩
  · cases hcs
    have hmc : m = c := by simpa using hmm
    obtain ⟨l, hlen, hes⟩ := list_choose (P := fun i (e : Pe.Hop) => ∀ j v, (hCells e)[j]? = some v → W.cell? ((a.add (i * 6)).add j) = some v) n (fun i hi' => by
      obtain ⟨cs', hc, ht'⟩ := hi i (by omega)
      rw [show Tryz.prog.cellsOf 66 = 6 from by kernel_rfl] at hc
      obtain ⟨_, hlen, hat⟩ := World.cells?_some hc
      obtain ⟨e, he⟩ := hop_in ht'
      refine ⟨e, fun j v hv => ?_⟩
      have hv2 : (hCells e).toList[j]? = some v := by simpa using hv
      rw [he] at hv2
      have hj : j < 6 := by have := (List.getElem?_eq_some_iff.1 hv2).1; omega
      rw [hat j hj, hv2])
    refine ⟨l, ⟨hlen.symm, ?_⟩⟩
    by_cases h0 : n = 0
    · left; exact List.eq_nil_of_length_eq_zero (by omega)
    right
    refine ⟨a, rfl, ?_, fun i e he j v hv => hes i e he j v hv⟩
    have hx0 : l[0]? = some (l[0]'(by omega)) := List.getElem?_eq_getElem (by omega)
    have := World.block_lt_of_cell? W _ (hes 0 _ hx0 0 _ rfl)
    have hb : ((a.add (0 * 6)).add 0).block = a.block := by unfold Addr.add; split <;> rfl
    rwa [hb] at this
set_option maxRecDepth 100000 in
theorem route_in {fuel : Nat} {cs : List Value} {x : DataW H × List MemPlace} (h : DataW.trod enc Tryz.prog W 0 (fun _ => true) true fuel 34 cs = some x) : ∃ (k : Nat) (f : Pe.Pair) (B : Option Addr) (m c : Nat) (bk : Int) (hs : List Pe.Hop), [.int .u8 (k : Int), .int .i64 f.1, .int .i64 f.2, .slice B m c, .int .i64 bk] = cs ∧ HopsAt W B m hs := by
  obtain ⟨xs, n, _, _, hl, _, hf⟩ := DataW.trod_struct Tryz.underlying34 h
  rw [show Tryz.prog.cellsOf 34 = 5 from by kernel_rfl] at hl
  match cs, hl with
  | [c0, c1, c2, c3, c4], _ =>
    have ki : Tryz.prog.cellsOf 3 = 1 := by kernel_rfl
    have ku : Tryz.prog.cellsOf 5 = 1 := by kernel_rfl
    have kp : Tryz.prog.cellsOf 28 = 2 := by kernel_rfl
    have ks : Tryz.prog.cellsOf 32 = 1 := by kernel_rfl
    have h0 : DataW.trod enc Tryz.prog W 0 (fun _ => true) true n 5 (List.take (Tryz.prog.cellsOf 5) (List.drop 0 [c0, c1, c2, c3, c4])) = xs[0]? := hf 0 _ rfl
    have h1 : DataW.trod enc Tryz.prog W 0 (fun _ => true) true n 28 (List.take (Tryz.prog.cellsOf 28) (List.drop 1 [c0, c1, c2, c3, c4])) = xs[1]? := hf 1 _ rfl
    have h2 : DataW.trod enc Tryz.prog W 0 (fun _ => true) true n 32 (List.take (Tryz.prog.cellsOf 32) (List.drop 3 [c0, c1, c2, c3, c4])) = xs[2]? := hf 2 _ rfl
    have h3 : DataW.trod enc Tryz.prog W 0 (fun _ => true) true n 3 (List.take (Tryz.prog.cellsOf 3) (List.drop 4 [c0, c1, c2, c3, c4])) = xs[3]? := hf 3 _ rfl
    rw [ku] at h0
    rw [kp] at h1
    rw [ks] at h2
    rw [ki] at h3
    have some_of : ∀ i, i < 4 → ∃ y, xs[i]? = some y := fun i hi => ⟨_, List.getElem?_eq_getElem (by simp_all)⟩
    obtain ⟨y0, e0⟩ := some_of 0 (by omega)
    obtain ⟨y1, e1⟩ := some_of 1 (by omega)
    obtain ⟨y2, e2⟩ := some_of 2 (by omega)
    obtain ⟨y3, e3⟩ := some_of 3 (by omega)
    obtain ⟨z0, q0, _, w0⟩ := DataW.trod_int Tryz.underlying5 (h0.trans e0)
    obtain ⟨p1, q1⟩ := pair_in (h1.trans e1)
    obtain ⟨B, m, c, hv3⟩ : ∃ B m c, c3 = .slice B m c := by
      rcases open_slice Tryz.underlying32 (h2.trans e2) with ⟨hcs, _⟩ | ⟨a, len, cap, m, n', D, Pl, hcs, _⟩
      · have : [c3] = _ := hcs
        injection this with e _
        exact ⟨_, _, _, e⟩
      · have : [c3] = _ := hcs
        injection this with e _
        exact ⟨_, _, _, e⟩
    subst hv3
    obtain ⟨hs, hH⟩ := hops_in (h2.trans e2)
    obtain ⟨z3, q3, _, w3⟩ := DataW.trod_int Tryz.underlying3 (h3.trans e3)
    cases q0
    cases q3
    have hb := bounds_u8 w0
    have g1 : c1 = .int .i64 p1.1 ∧ c2 = .int .i64 p1.2 := by
      have : [Value.int .i64 p1.1, .int .i64 p1.2] = [c1, c2] := q1
      injection this with a1 a2
      injection a2 with a2 _
      exact ⟨a1.symm, a2.symm⟩
    obtain ⟨rfl, rfl⟩ := g1
    refine ⟨z0.toNat, p1, B, m, c, z3, hs, ?_, hH⟩
    rw [show ((z0.toNat : Nat) : Int) = z0 from by omega]
end

end Go.Proofs.YtnphlekailodkaaGreatDoor

