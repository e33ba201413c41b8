/-
  What came in, read as plain entries. A pair that came in. What the rows list of the library's variables, and what the walks take from it; a world that meets it.
-/
import Derived.Test.YtnphlekailodkaaGreatDoorPa
import Derived.WalkKit
import Derived.ProofKit
import Derived.OpenShut
import Derived.ShutString
import Derived.ChangeOld
import Derived.Below
import Derived.Deep.Slices
import Derived.Deep.Strs
import Derived.Deep.Fields
import Derived.Test.YtnphlekailodkaaGreatDoorRc
import Derived.Test.YtnphlekailodkaaGreatDoorRows
import Derived.Test.YtnphlekailodkaaGreatDoorLb
import Derived.Lib.LaidIn
import Derived.Lib.LaidTab
import Derived.Stop.LaidErr
namespace Go.Proofs.YtnphlekailodkaaGreatDoor
open Go.ChangeShapes Go.WideShapes Go.ChangeAt Go.RowKit Go.Deep

theorem list_choose {α : Type} {P : Nat → α → Prop} : ∀ n : Nat, (∀ i, i < n → ∃ a, P i a) → ∃ l : List α, l.length = n ∧ ∀ i a, l[i]? = some a → P i a
  | 0, _ => ⟨[], rfl, fun i a h => by simp at h⟩
  | n + 1, h => by
    obtain ⟨l, hl, hp⟩ := list_choose n (fun i hi => h i (by omega))
    obtain ⟨a, ha⟩ := h n (by omega)
    refine ⟨l ++ [a], by simp [hl], fun i b hb => ?_⟩
    by_cases hi : i < n
    · rw [List.getElem?_append_left (by omega)] at hb
      exact hp i b hb
    · have : i < (l ++ [a]).length := (List.getElem?_eq_some_iff.1 hb).1
      have hin : i = n := by simp [hl] at this; omega
      subst hin
      rw [List.getElem?_append_right (by omega), hl, Nat.sub_self] at hb
      cases hb
      exact ha
theorem bs_toList (S : ByteArray) : bs S.data.toList = S := by
  apply ByteArray.ext
  simp [bs]

section
variable {H : Type} {enc : TypeId × Value → H} {W : World}
set_option maxRecDepth 100000 in
theorem ent_in {fuel : Nat} {cs : List Value} {x : DataW H × List MemPlace} (h : DataW.trod enc Tryz.prog W 0 (fun _ => true) true fuel 31 cs = some x) : ∃ e : Pe.Ent, (eCells e).toList = cs ∧ EOk e := by
  obtain ⟨xs, n, _, _, hl, _, hf⟩ := DataW.trod_struct Tryz.underlying31 h
  rw [show Tryz.prog.cellsOf 31 = 10 from by kernel_rfl] at hl
  match cs, hl with
  | [c0, c1, c2, c3, c4, c5, c6, c7, c8, c9], _ =>
    have ki : Tryz.prog.cellsOf 3 = 1 := by kernel_rfl
    have ku : Tryz.prog.cellsOf 5 = 1 := by kernel_rfl
    have ks : Tryz.prog.cellsOf 9 = 1 := by kernel_rfl
    have h0 : DataW.trod enc Tryz.prog W 0 (fun _ => true) true n 3 (List.take (Tryz.prog.cellsOf 3) (List.drop 0 [c0, c1, c2, c3, c4, c5, c6, c7, c8, c9])) = xs[0]? := hf 0 _ rfl
    have h1 : DataW.trod enc Tryz.prog W 0 (fun _ => true) true n 5 (List.take (Tryz.prog.cellsOf 5) (List.drop 1 [c0, c1, c2, c3, c4, c5, c6, c7, c8, c9])) = xs[1]? := hf 1 _ rfl
    have h2 : DataW.trod enc Tryz.prog W 0 (fun _ => true) true n 3 (List.take (Tryz.prog.cellsOf 3) (List.drop 2 [c0, c1, c2, c3, c4, c5, c6, c7, c8, c9])) = xs[2]? := hf 2 _ rfl
    have h3 : DataW.trod enc Tryz.prog W 0 (fun _ => true) true n 3 (List.take (Tryz.prog.cellsOf 3) (List.drop 3 [c0, c1, c2, c3, c4, c5, c6, c7, c8, c9])) = xs[3]? := hf 3 _ rfl
    have h4 : DataW.trod enc Tryz.prog W 0 (fun _ => true) true n 3 (List.take (Tryz.prog.cellsOf 3) (List.drop 4 [c0, c1, c2, c3, c4, c5, c6, c7, c8, c9])) = xs[4]? := hf 4 _ rfl
    have h5 : DataW.trod enc Tryz.prog W 0 (fun _ => true) true n 3 (List.take (Tryz.prog.cellsOf 3) (List.drop 5 [c0, c1, c2, c3, c4, c5, c6, c7, c8, c9])) = xs[5]? := hf 5 _ rfl
    have h6 : DataW.trod enc Tryz.prog W 0 (fun _ => true) true n 3 (List.take (Tryz.prog.cellsOf 3) (List.drop 6 [c0, c1, c2, c3, c4, c5, c6, c7, c8, c9])) = xs[6]? := hf 6 _ rfl
    have h7 : DataW.trod enc Tryz.prog W 0 (fun _ => true) true n 3 (List.take (Tryz.prog.cellsOf 3) (List.drop 7 [c0, c1, c2, c3, c4, c5, c6, c7, c8, c9])) = xs[7]? := hf 7 _ rfl
    have h8 : DataW.trod enc Tryz.prog W 0 (fun _ => true) true n 3 (List.take (Tryz.prog.cellsOf 3) (List.drop 8 [c0, c1, c2, c3, c4, c5, c6, c7, c8, c9])) = xs[8]? := hf 8 _ rfl
    have h9 : DataW.trod enc Tryz.prog W 0 (fun _ => true) true n 9 (List.take (Tryz.prog.cellsOf 9) (List.drop 9 [c0, c1, c2, c3, c4, c5, c6, c7, c8, c9])) = xs[9]? := hf 9 _ rfl
    rw [ki] at h0
    rw [ku] at h1
    rw [ki] at h2
    rw [ki] at h3
    rw [ki] at h4
    rw [ki] at h5
    rw [ki] at h6
    rw [ki] at h7
    rw [ki] at h8
    rw [ks] at h9
    have some_of : ∀ i, i < 10 → ∃ y, xs[i]? = some y := fun i hi => ⟨_, List.getElem?_eq_getElem (by simp_all)⟩
    obtain ⟨y0, e0⟩ := some_of 0 (by omega)
    obtain ⟨y1, e1⟩ := some_of 1 (by omega)
    obtain ⟨y2, e2⟩ := some_of 2 (by omega)
    obtain ⟨y3, e3⟩ := some_of 3 (by omega)
    obtain ⟨y4, e4⟩ := some_of 4 (by omega)
    obtain ⟨y5, e5⟩ := some_of 5 (by omega)
    obtain ⟨y6, e6⟩ := some_of 6 (by omega)
    obtain ⟨y7, e7⟩ := some_of 7 (by omega)
    obtain ⟨y8, e8⟩ := some_of 8 (by omega)
    obtain ⟨y9, e9⟩ := some_of 9 (by omega)
    obtain ⟨z0, q0, _, w0⟩ := DataW.trod_int Tryz.underlying3 (h0.trans e0)
    obtain ⟨z1, q1, _, w1⟩ := DataW.trod_int Tryz.underlying5 (h1.trans e1)
    obtain ⟨z2, q2, _, w2⟩ := DataW.trod_int Tryz.underlying3 (h2.trans e2)
    obtain ⟨z3, q3, _, w3⟩ := DataW.trod_int Tryz.underlying3 (h3.trans e3)
    obtain ⟨z4, q4, _, w4⟩ := DataW.trod_int Tryz.underlying3 (h4.trans e4)
    obtain ⟨z5, q5, _, w5⟩ := DataW.trod_int Tryz.underlying3 (h5.trans e5)
    obtain ⟨z6, q6, _, w6⟩ := DataW.trod_int Tryz.underlying3 (h6.trans e6)
    obtain ⟨z7, q7, _, w7⟩ := DataW.trod_int Tryz.underlying3 (h7.trans e7)
    obtain ⟨z8, q8, _, w8⟩ := DataW.trod_int Tryz.underlying3 (h8.trans e8)
    obtain ⟨z9, q9, _, w9⟩ := DataW.trod_string Tryz.underlying9 (h9.trans e9)
    cases q0
    cases q1
    cases q2
    cases q3
    cases q4
    cases q5
    cases q6
    cases q7
    cases q8
    cases q9
    have hb := bounds_u8 w1
    refine ⟨⟨z0, z1.toNat, z2, z3, z4, z5, z6, z7, z8, z9.data.toList⟩, ?_, ⟨by simp only; omega, w4, w6, w8, w0, ?_⟩⟩
    · simp only [eCells]
      rw [show ((z1.toNat : Nat) : Int) = z1 from by omega, bs_toList]
    · have : z9.data.toList.length = z9.size := by rw [Array.length_toList]; rfl
      simp only [maxLen] at w9
      simp only; omega
theorem ents_in {fuel : Nat} {A : Option Addr} {n c : Nat} {x : DataW H × List MemPlace} (h : DataW.trod enc Tryz.prog W 0 (fun _ => true) true fuel 22 [.slice A n c] = some x) : ∃ l, EntsAt W A n l ∧ n ≤ c ∧ (A = none → n = 0 ∧ c = 0) := by
  rcases open_slice Tryz.underlying22 h with ⟨hcs, _⟩ | ⟨a, len, cap, m, n', D, Pl, hcs, hb, hl, hm, hmm, hx, hi⟩
  · cases hcs
    exact ⟨[], ⟨rfl, by omega, .inl rfl, fun o ho => by cases ho⟩, Nat.le_refl _, fun _ => ⟨rfl, rfl⟩⟩
  · cases hcs
    have hmc : m = c := by simpa using hmm
    obtain ⟨l, hlen, hes⟩ := list_choose (P := fun i (e : Pe.Ent) => EOk e ∧ ∀ j v, (eCells e)[j]? = some v → W.cell? ((a.add (i * 10)).add j) = some v) n (fun i hi' => by
      obtain ⟨cs', hc, ht'⟩ := hi i (by omega)
      rw [show Tryz.prog.cellsOf 31 = 10 from by kernel_rfl] at hc
      obtain ⟨_, hlen, hat⟩ := World.cells?_some hc
      obtain ⟨e, he, hok⟩ := ent_in ht'
      refine ⟨e, hok, fun j v hv => ?_⟩
      have hv2 : (eCells e).toList[j]? = some v := by simpa using hv
      rw [he] at hv2
      have hj : j < 10 := by have := (List.getElem?_eq_some_iff.1 hv2).1; omega
      rw [hat j hj, hv2])
    refine ⟨l, ⟨hlen.symm, by simp only [maxLen] at hm; omega, ?_, fun e he => ?_⟩, hl, (fun hA => by cases hA)⟩
    · by_cases h0 : n = 0
      · left; exact List.eq_nil_of_length_eq_zero (by omega)
      right
      refine ⟨a, rfl, ?_, fun i e he j v hv => (hes i e he).2 j v hv⟩
      have hx0 : l[0]? = some (l[0]'(by omega)) := List.getElem?_eq_getElem (by omega)
      have := World.block_lt_of_cell? W _ ((hes 0 _ hx0).2 0 _ rfl)
      have hb : ((a.add (0 * 10)).add 0).block = a.block := by unfold Addr.add; split <;> rfl
      rwa [hb] at this
    · obtain ⟨i, hi'⟩ := List.mem_iff_getElem?.1 he
      exact (hes i e hi').1
end

end Go.Proofs.YtnphlekailodkaaGreatDoor

namespace Go.Proofs.YtnphlekailodkaaGreatDoor
open Go.ChangeShapes Go.WideShapes Go.ChangeAt Go.RowKit Go.Deep

section
variable {H : Type} {enc : TypeId × Value → H} {W : World}
set_option maxRecDepth 100000 in
theorem pair_in {fuel : Nat} {cs : List Value} {x : DataW H × List MemPlace} (h : DataW.trod enc Tryz.prog W 0 (fun _ => true) true fuel 28 cs = some x) : ∃ e : Pe.Pair, (pCells e).toList = cs := by
  obtain ⟨xs, n, _, _, hl, _, hf⟩ := DataW.trod_struct Tryz.underlying28 h
  rw [show Tryz.prog.cellsOf 28 = 2 from by kernel_rfl] at hl
  match cs, hl with
  | [c0, c1], _ =>
    have ki : Tryz.prog.cellsOf 3 = 1 := by kernel_rfl
    have h0 : DataW.trod enc Tryz.prog W 0 (fun _ => true) true n 3 (List.take (Tryz.prog.cellsOf 3) (List.drop 0 [c0, c1])) = xs[0]? := hf 0 _ rfl
    have h1 : DataW.trod enc Tryz.prog W 0 (fun _ => true) true n 3 (List.take (Tryz.prog.cellsOf 3) (List.drop 1 [c0, c1])) = xs[1]? := hf 1 _ rfl
    rw [ki] at h0
    rw [ki] at h1
    have some_of : ∀ i, i < 2 → ∃ y, xs[i]? = some y := fun i hi => ⟨_, List.getElem?_eq_getElem (by simp_all)⟩
    obtain ⟨y0, e0⟩ := some_of 0 (by omega)
    obtain ⟨y1, e1⟩ := some_of 1 (by omega)
    obtain ⟨z0, q0, _, w0⟩ := DataW.trod_int Tryz.underlying3 (h0.trans e0)
    obtain ⟨z1, q1, _, w1⟩ := DataW.trod_int Tryz.underlying3 (h1.trans e1)
    cases q0
    cases q1
    exact ⟨(z0, z1), rfl⟩
end

end Go.Proofs.YtnphlekailodkaaGreatDoor

namespace Go.Proofs.YtnphlekailodkaaGreatDoor
open Go.ChangeShapes Go.WideShapes Go.ChangeAt Go.RowKit

/-- What the rows list. -/
def laidL : List (String × DataW Unit) := [("math/bits.deBruijn32tab", Rows.laid_math_bits_deBruijn32tab), ("math/bits.deBruijn64tab", Rows.laid_math_bits_deBruijn64tab), ("internal/strconv.uint64pow10", Rows.laid_internal_strconv_uint64pow10), ("strconv.ErrRange", Rows.laid_strconv_ErrRange), ("strconv.ErrSyntax", Rows.laid_strconv_ErrSyntax)]
theorem star : "*" ++ "errors.errorString" = "*errors.errorString" := by decide
theorem errRow (u : TypeId) (h : Tryz.prog.typeName? 3 u = some "*errors.errorString") : u = 224 :=
  typeName_ptr_named (nm := "errors.errorString") (by rw [star]; kernel_rfl) (by kernel_rfl) (by decide) u (by rw [star]; exact h)
theorem laid_of {W : World} (h : laidMet Tryz.prog laidL W) : Laid W := by
  have h3 := h.tail.tail
  have h4 := h3.tail
  have h5 := h4.tail
  refine ⟨?_, ?_, ?_⟩
  · exact Lib.tabIs_of_head (g := 3) (t := 233) (e := 157) (n := 20) (k := .u64) (by kernel_rfl) (by kernel_rfl) Tryz.underlying233 Tryz.underlying157 (by kernel_rfl) (by kernel_rfl) h3
  · obtain ⟨a, s, hv, _⟩ := laid_sentinel (g := 1) (ti := 130) (tp := 224) (te := 226) (ts := 9) h5 (by kernel_rfl) (by kernel_rfl) Tryz.underlying130 errRow Tryz.underlying224 Tryz.underlying226 rfl rfl Tryz.underlying9 (by kernel_rfl) (by kernel_rfl)
    exact ⟨_, _, hv⟩
  · obtain ⟨a, s, hv, _⟩ := laid_sentinel (g := 2) (ti := 130) (tp := 224) (te := 226) (ts := 9) h4 (by kernel_rfl) (by kernel_rfl) Tryz.underlying130 errRow Tryz.underlying224 Tryz.underlying226 rfl rfl Tryz.underlying9 (by kernel_rfl) (by kernel_rfl)
    exact ⟨_, _, hv⟩

/-- The cells of a table. -/
def cellsOfTab (k : IntKind) (zs : List Int) : Array Value := (zs.map fun z => Value.int k z).toArray
def db32 : List Int := [0, 1, 28, 2, 29, 14, 24, 3, 30, 22, 20, 15, 25, 17, 4, 8, 31, 27, 13, 23, 21, 19, 16, 7, 26, 12, 18, 6, 11, 5, 10, 9]
def db64 : List Int := [0, 1, 56, 2, 57, 49, 28, 3, 61, 58, 42, 50, 38, 29, 17, 4, 62, 47, 59, 36, 45, 43, 51, 22, 53, 39, 33, 30, 24, 18, 12, 5, 63, 55, 48, 27, 60, 41, 37, 16, 46, 35, 44, 21, 52, 32, 23, 11, 54, 26, 40, 15, 34, 20, 31, 10, 25, 14, 19, 9, 13, 8, 7, 6]
def pw10 : List Int := [1, 10, 100, 1000, 10000, 100000, 1000000, 10000000, 100000000, 1000000000, 10000000000, 100000000000, 1000000000000, 10000000000000, 100000000000000, 1000000000000000, 10000000000000000, 100000000000000000, 1000000000000000000, 10000000000000000000]
abbrev rangeS : ByteArray := { data := #[118, 97, 108, 117, 101, 32, 111, 117, 116, 32, 111, 102, 32, 114, 97, 110, 103, 101] }
abbrev syntaxS : ByteArray := { data := #[105, 110, 118, 97, 108, 105, 100, 32, 115, 121, 110, 116, 97, 120] }
noncomputable def low : Nat := (World.holding Tryz.prog default ⟨#[], #[], []⟩).heap.size
noncomputable def laidWorld (os : Os) : World :=
  let w0 := World.holding Tryz.prog os ⟨#[.cells #[.string rangeS] 226, .cells #[.string syntaxS] 226], #[], []⟩
  let put (h : Array Obj) (g : Nat) (cs : Array Value) : Array Obj := h.modify g fun
    | .cells _ t frozen => .cells cs t frozen
    | o => o
  let h1 := put w0.heap 2 #[.iface 224 (.pointer (some ⟨low, 0, none⟩))]
  let h2 := put h1 1 #[.iface 224 (.pointer (some ⟨low + 1, 0, none⟩))]
  let h3 := put h2 3 (cellsOfTab .u64 pw10)
  let h4 := put h3 4 (cellsOfTab .u8 db32)
  let h5 := put h4 5 (cellsOfTab .u8 db64)
  { w0 with heap := h5 }
theorem laid_met (os : Os) (args : Array Value) : laidMet Tryz.prog laidL ((laidWorld os).forCall (fun _ _ => 0) ⟨#[], args, []⟩).memory :=
  (LaidIn.of_run [4, 5, 3, 2, low, 1, low + 1] 8 (by kernel_rfl) (by kernel_rfl) (by kernel_rfl) (by kernel_rfl)).met

end Go.Proofs.YtnphlekailodkaaGreatDoor
