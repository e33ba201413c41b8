/-
  Scripts of operations on a disk: what is known of them where they come in; the walk of small.
-/
import Derived.Test.YtdnjelggdjimhaaSp4
namespace Go.Proofs.Ytdnjelggdjimhaa
open Go.RowKit

structure RawOp where
  kd : Nat
  s : Int
  A : Option Addr
  a : Nat
  c : Nat
  n : Int
  B : Option Addr
  b : Nat
  e : Nat
  data : List UInt8
  keep : List Int
def RawOp.cells (o : RawOp) : List Value := [.int .u8 (o.kd : Int), .int .i64 o.s, .slice o.A o.a o.c, .int .i64 o.n, .slice o.B o.b o.e]
structure RawOp.Ok (w : World) (o : RawOp) : Prop where
  data : BytesAt w o.A o.a o.c o.data
  keep : IntsAt w o.B o.b o.keep
  kd : o.kd < 256
  n : o.n ≤ 9223372036854775807
def RawOp.small (o : RawOp) : Bool := o.a ≤ 200 && o.b ≤ 200
structure ScriptAt (w : World) (A : Option Addr) (n : Nat) (ops : List RawOp) : Prop where
  len : n = ops.length
  most : n ≤ 9223372036854775807
  at_ : ops = [] ∨ ∃ ad, A = some ad ∧ ∀ i o, ops[i]? = some o → ∀ j v, o.cells[j]? = some v → w.cell? ((ad.add (i * 5)).add j) = some v
  ok : ∀ o ∈ ops, o.Ok w

theorem RawOp.Ok.below {w w' : World} {o : RawOp} (h : o.Ok w) (hb : Below w.heap.size w w') : o.Ok w' := ⟨h.data.below hb, h.keep.below hb, h.kd, h.n⟩

set_option maxHeartbeats 1000000 in
theorem small_calls (A : Option Addr) (n c : Nat) (ops : List RawOp) (w : World) (h : ScriptAt w A n ops) :
    Calls Try.prog 15 #[.slice A n c] w fun e w' => e = .returned (.bool (decide (n ≤ 200) && ops.all RawOp.small)) ∧ w = w' := by
  by_cases h200 : n ≤ 200
  case neg =>
    have hd : decide ((200 : Int) < (n : Int)) = true := by simp; omega
    go_enter Try.func15, Try.ntmps15
    go_wp2
    go_ret
    simp [h200]
  have hd : decide ((200 : Int) < (n : Int)) = false := by simp; omega
  have H := Lib.hid h
  clear h
  go_enter Try.func15, Try.ntmps15
  go_wp2_with fail
  go_loop [3] (fun i => ∃ k : Nat, k ≤ n ∧ i = .int .i64 k ∧ Hid ((ops.take k).all RawOp.small = true)) (fun i => n - (intOf i).toNat)
  case atStart => exact ⟨0, Nat.zero_le _, rfl, Lib.hid rfl⟩
  case round =>
    obtain ⟨k, hk, rfl, hall⟩ := hrel
    by_cases hlt : k < n
    · obtain ⟨o, ho⟩ : ∃ o, ops[k]? = some o := ⟨_, List.getElem?_eq_getElem (by have := H.out.len; omega)⟩
      obtain ⟨ad, rfl, hc⟩ := H.out.at_.resolve_left (fun e => by rw [e] at ho; cases ho)
      have hc2 : w.cell? ⟨(ad.add (k * 5)).block, (ad.add (k * 5)).off + 2, none⟩ = some (.slice o.A o.a o.c) := hc k o ho 2 _ rfl
      have hc4 : w.cell? ⟨(ad.add (k * 5)).block, (ad.add (k * 5)).off + 4, none⟩ = some (.slice o.B o.b o.e) := hc k o ho 4 _ rfl
      have HO := Lib.hid ho
      have hsm : o.small = (decide (o.a ≤ 200) && decide (o.b ≤ 200)) := rfl
      have HSM := Lib.hid hsm
      clear hc ho hsm
      by_cases ha : o.a ≤ 200
      · have hda : decide ((200 : Int) < (o.a : Int)) = false := by simp; omega
        by_cases hb : o.b ≤ 200
        · have hdb : decide ((200 : Int) < (o.b : Int)) = false := by simp; omega
          go_wp2
          go_round
          case rel => exact ⟨k + 1, by omega, by go_num, Lib.hid (by rw [List.take_add_one, HO.out]; simp [hall.out, HSM.out, ha, hb])⟩
          case measure => simp [intOf]; omega
        · have hdb : decide ((200 : Int) < (o.b : Int)) = true := by simp; omega
          go_wp2
          go_ret
          refine ⟨?_, rfl⟩
          have : ops.all RawOp.small = false := by
            rw [List.all_eq_false]
            exact ⟨o, List.mem_of_getElem? HO.out, by simp [HSM.out, hb]⟩
          simp [this]
      · have hda : decide ((200 : Int) < (o.a : Int)) = true := by simp; omega
        go_wp2
        go_ret
        refine ⟨?_, rfl⟩
        have : ops.all RawOp.small = false := by
          rw [List.all_eq_false]
          exact ⟨o, List.mem_of_getElem? HO.out, by simp [HSM.out, ha]⟩
        simp [this]
    · obtain rfl : k = n := by omega
      go_wp2
      go_ret
      have := hall.out
      rw [List.take_of_length_le (by have := H.out.len; omega)] at this
      rw [this]
      simp

end Go.Proofs.Ytdnjelggdjimhaa
