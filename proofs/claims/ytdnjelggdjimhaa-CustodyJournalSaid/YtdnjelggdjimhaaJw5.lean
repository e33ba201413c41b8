/-
  A sector of a record: what Append writes.
-/
import Derived.Test.YtdnjelggdjimhaaJw4
namespace Go.Proofs.Ytdnjelggdjimhaa
open Go.RowKit

namespace Dk
/-- A sector of a record: its kind, how many bytes are left from it on, 59 bytes, and 1. -/
def enc (first : Bool) (rest : List UInt8) : Sec :=
  (if first then 1 else 2) :: UInt8.ofNat (rest.length % 256) :: UInt8.ofNat (rest.length / 256 % 256) :: UInt8.ofNat (rest.length / 65536 % 256) :: (rest.take 59 ++ List.replicate (59 - rest.length) 0 ++ [1])
theorem length_enc (f : Bool) (rest : List UInt8) : (enc f rest).length = 64 := by simp [enc]; omega
/-- How many sectors a record takes. -/
def manyOf (n : Nat) : Nat := max 1 ((n + 58) / 59)
/-- What Append writes, from its i-th sector on, f sectors being left; and its error. -/
def appGo (d : D) (e : Nat) (s : List UInt8) : Nat → Nat → D × Int
  | 0, _ => (d, 0)
  | f + 1, i =>
    if writeErr d ((e + i : Nat) : Int) 64 = 0 then appGo (write d ((e + i : Nat) : Int) (enc (i == 0) (s.drop (i * 59)))) e s f (i + 1)
    else (write d ((e + i : Nat) : Int) (enc (i == 0) (s.drop (i * 59))), writeErr d ((e + i : Nat) : Int) 64)
end Dk

/-- The cells that Append builds first. -/
def built (n : Nat) : List Value := .int .u8 2 :: .int .u8 ((n % 256 : Nat) : Int) :: .int .u8 ((n / 256 % 256 : Nat) : Int) :: .int .u8 ((n / 65536 % 256 : Nat) : Int) :: zeros 60
theorem length_built (n : Nat) : (built n).length = 64 := by simp [built, zeros]
theorem one_built (n : Nat) : ∀ v ∈ built n, v.oneCell' = true := by
  intro v hv
  simp only [built, zeros, List.mem_cons, List.mem_replicate] at hv
  rcases hv with rfl | rfl | rfl | rfl | ⟨_, rfl⟩ <;> rfl

theorem buildS4 (a b c : Int) (w : World) :
    (Instr.build 75 #[(0, .int .u8 2), (1, .int .u8 a), (2, .int .u8 b), (3, .int .u8 c)]).run Try.prog w = .ok (.agg (.int .u8 2 :: .int .u8 a :: .int .u8 b :: .int .u8 c :: zeros 60).toArray) w := by kernel_rfl
theorem wpList_buildS4 {ops : Array Oper} {rest : List Oper} {o : Oper} {a : Act} {w : World} {Q : Exit → Act → World → Prop} (hgd : o.guard = none) (x y z : Operand) (ho : o.op = .build 75 #[(0, .const (.int .u8 2)), (1, x), (2, y), (3, z)]) (A1 A2 A3 : Int)
    (hx : a.eval x = .int .u8 A1) (hy : a.eval y = .int .u8 A2) (hz : a.eval z = .int .u8 A3) (B : List Value) (hB : B = .int .u8 2 :: .int .u8 A1 :: .int .u8 A2 :: .int .u8 A3 :: zeros 60)
    (h : wpList Try.prog ops Q rest (a.put o.dst (.agg B.toArray)) w) : wpList Try.prog ops Q (o :: rest) a w := by
  subst hB
  refine wpList_plain hgd fun K hK => ?_
  unfold Oper.wp execOp
  simp only [ho, List.map_toArray, List.map_cons, List.map_nil, hx, hy, hz]
  rw [show a.eval (.const (.int .u8 2)) = .int .u8 2 from rfl]
  simp only [buildS4, Sem.run_bind, Result.andThen_ok]
  exact hK _ _ h

theorem built_small (n : Nat) (h : n ≤ 60000) : built n = .int .u8 2 :: .int .u8 ((n : Int) % 256) :: .int .u8 ((n : Int) / 256) :: .int .u8 ((n : Int) / 65536) :: zeros 60 := by
  unfold built
  rw [show ((n % 256 : Nat) : Int) = (n : Int) % 256 from by omega, show ((n / 256 % 256 : Nat) : Int) = (n : Int) / 256 from by omega, show ((n / 65536 % 256 : Nat) : Int) = (n : Int) / 65536 from by omega]

/-- 'copy(x[..], s)', s a string. -/
theorem run_copy_bs (w : World) (ty : TypeId) (b o dLen dCap : Nat) (l : List UInt8) (m : Nat) (hm : m = min l.length dLen) (hth : w.there b o m) :
    (Builtin.copy_ #[22, 9] ty #[.slice (some ⟨b, o, none⟩) dLen dCap, .string (bs l)]).run Try.prog w = .ok (goInt m) (w.setCells b o (bvs (l.take m))) := by
  have hl : (bvs (l.take m)).length = m := by rw [length_bvs, List.length_take]; omega
  have hst := run_storeCells_cells (P := Try.prog) b o (bvs (l.take m)) 0 w (by rw [hl]; intro j hj; simpa using (hth j hj).1) (by rw [hl]; intro j hj; simpa using (hth j hj).2) (one_bvs _)
  have hmin : Nat.min (bs l).size dLen = m := by rw [bs_size]; exact hm.symm
  have hsz : ∀ w, (Go.sizeOf 5).run Try.prog w = .ok 1 w := fun w => by kernel_rfl
  simp [Builtin.copy_, run_underlying Try.underlying22, Builtin.lenOf, Builtin.firstCells, hsz, hmin]
  rw [bs_data, show List.take m (List.map (fun b : UInt8 => Value.int IntKind.u8 (b.toNat : Int)) l) = bvs (l.take m) from by unfold bvs; rw [← List.map_take]; rfl, hst]
  rfl
theorem wpList_copy_bs {ops : Array Oper} {rest : List Oper} {o : Oper} {a : Act} {w : World} {Q : Exit → Act → World → Prop} (hgd : o.guard = none) (d s : Operand) (ho : o.op = .call { callee := .builtin .copy, args := #[d, s], argTypes := #[22, 9] })
    (b off dLen dCap : Nat) (l : List UInt8) (S : ByteArray) (hS : S = bs l) (m : Nat) (hm : m = min l.length dLen) (hd : a.eval d = .slice (some ⟨b, off, none⟩) dLen dCap) (hs : a.eval s = .string S) (hth : w.there b off m)
    (h : ∀ w', Hid (w' = w.setCells b off (bvs (l.take m))) → wpList Try.prog ops Q rest (a.put o.dst (goInt m)) w') : wpList Try.prog ops Q (o :: rest) a w := by
  subst hS
  refine wpList_plain hgd fun K hK => ?_
  have hrun := run_copy_bs w o.type b off dLen dCap l m hm hth
  unfold Oper.wp
  simp [execOp, ho, resolve, invoke, builtin, hd, hs, hrun, Result.andThen]
  exact hK _ _ (h _ (Lib.hid rfl))

/-- The cells behind the stores. -/
theorem enc_cells (first : Bool) (l : List UInt8) (L : List Value) (hL : L = (if first then .int .u8 1 else .int .u8 2) :: (built l.length).drop 1) :
    (splice L 4 (bvs (l.take (min l.length 59)))).set 63 (.int .u8 1) = bvs (Dk.enc first l) := by
  subst hL
  have hn : ∀ n : Nat, (UInt8.ofNat (n % 256)).toNat = n % 256 := fun n => by rw [UInt8.toNat_ofNat_of_lt' (by simp [UInt8.size]; omega)]
  obtain ⟨k, hk⟩ : ∃ k, k = 59 - l.length := ⟨_, rfl⟩
  obtain ⟨D, hD⟩ : ∃ D, D = l.take 59 := ⟨_, rfl⟩
  have hDl : D.length + k = 59 := by rw [hD, hk, List.length_take]; omega
  have e1 : l.take (min l.length 59) = D := by rw [hD]; by_cases h : l.length ≤ 59 <;> simp [h, List.take_of_length_le] <;> omega
  rw [e1]
  have hb : bvs (Dk.enc first l) = (if first then .int .u8 1 else .int .u8 2) :: .int .u8 ((l.length % 256 : Nat) : Int) :: .int .u8 ((l.length / 256 % 256 : Nat) : Int) :: .int .u8 ((l.length / 65536 % 256 : Nat) : Int) :: (bvs D ++ zeros k ++ [.int .u8 1]) := by
    unfold Dk.enc
    rw [← hk, ← hD]
    cases first <;> simp [bvs, bv, hn, zeros]
  rw [hb]
  unfold splice built
  simp only [List.drop_succ_cons, List.drop_zero, List.take_succ_cons, List.take_zero, length_bvs]
  rw [show List.drop (4 + D.length) ((if first = true then Value.int IntKind.u8 1 else Value.int IntKind.u8 2) :: Value.int IntKind.u8 ((l.length % 256 : Nat) : Int) :: Value.int IntKind.u8 ((l.length / 256 % 256 : Nat) : Int) :: Value.int IntKind.u8 ((l.length / 65536 % 256 : Nat) : Int) :: zeros 60) = zeros k ++ [.int .u8 0] from by
    rw [show 4 + D.length = D.length + 1 + 1 + 1 + 1 from by omega]
    simp only [List.drop_succ_cons, zeros, List.drop_replicate]
    rw [show 60 - D.length = k + 1 from by omega, List.replicate_succ']]
  obtain ⟨a, ha⟩ : ∃ a, a = (if first = true then Value.int IntKind.u8 1 else Value.int IntKind.u8 2) := ⟨_, rfl⟩
  rw [← ha]
  have hX : ∀ (X : List Value) (z v : Value), X.length = 63 → (X ++ [z]).set 63 v = X ++ [v] := fun X z v h => by
    rw [List.set_append_right _ _ (by omega)]; simp [h]
  have := hX ([a, Value.int IntKind.u8 ((l.length % 256 : Nat) : Int), Value.int IntKind.u8 ((l.length / 256 % 256 : Nat) : Int), Value.int IntKind.u8 ((l.length / 65536 % 256 : Nat) : Int)] ++ bvs D ++ zeros k) (.int .u8 0) (.int .u8 1) (by simp [length_bvs, zeros]; omega)
  simpa using this

end Go.Proofs.Ytdnjelggdjimhaa
