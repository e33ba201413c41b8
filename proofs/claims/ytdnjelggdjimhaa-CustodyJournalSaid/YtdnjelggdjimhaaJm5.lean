/-
  Scripts of operations on a journal: what is known of them where they come in; the walk of light.
-/
import Derived.Test.YtdnjelggdjimhaaJm4
namespace Go.Proofs.Ytdnjelggdjimhaa
open Go.RowKit

structure RawJ where
  kd : Nat
  s : List UInt8
  n : Int
  A : Option Addr
  a : Nat
  c : Nat
  keep : List Int
def RawJ.cells (o : RawJ) : List Value := [.int .u8 (o.kd : Int), .string (bs o.s), .int .i64 o.n, .slice o.A o.a o.c]
structure RawJ.Ok (w : World) (o : RawJ) : Prop where
  keep : IntsAt w o.A o.a o.keep
  kd : o.kd < 256
  n : -9223372036854775808 ≤ o.n ∧ o.n ≤ 9223372036854775807
structure JScriptAt (w : World) (A : Option Addr) (n : Nat) (ops : List RawJ) : Prop where
  len : n = ops.length
  most : n ≤ 9223372036854775807
  at_ : ops = [] ∨ ∃ ad, A = some ad ∧ ∀ i o, ops[i]? = some o → ∀ j v, o.cells[j]? = some v → w.cell? ((ad.add (i * 4)).add j) = some v
  ok : ∀ o ∈ ops, o.Ok w

set_option maxHeartbeats 1000000 in
theorem light_calls (A : Option Addr) (n c : Nat) (ops : List RawJ) (w : World) (h : JScriptAt w A n ops) :
    Calls Try.prog 24 #[.slice A n c] w fun e w' => ∃ b, e = .returned (.bool b) ∧ (b = true → ∀ o ∈ ops, o.s.length ≤ 61000) ∧ w = w' := by
  have H := Lib.hid h
  clear h
  go_enter Try.func24, Try.ntmps24
  go_wp2_with fail
  go_loopg [3, 4] n (fun q s3 s4 wr => ∃ (i t : Nat), s3 = .int .i64 (t : Int) ∧ s4 = .int .i64 (i : Int) ∧ i + q = n ∧ i ≤ 201 ∧ t ≤ i * 61000 ∧ wr = w ∧ Hid (∀ o ∈ ops.take i, o.s.length ≤ 61000))
  case atStart => exact ⟨0, 0, by go_num, by go_num, by omega, by omega, by omega, rfl, Lib.hid (by simp)⟩
  case round =>
    obtain ⟨i, t, rfl, rfl, hi, hi2, ht, rfl, hR⟩ := hrel
    by_cases hgo : i < n ∧ i ≤ 200
    case neg =>
      rcases (show (¬ i < n) ∨ (i < n ∧ ¬ i ≤ 200) from by omega) with hx | ⟨hx, hy⟩
      · have hd1 : decide ((i : Int) < (n : Int)) = false := by simp; omega
        obtain rfl : i = n := by omega
        by_cases hn : i ≤ 200
        · have hd2 : decide ((i : Int) ≤ 200) = true := by simp; omega
          have HE := Lib.hid (show ∀ o ∈ ops, o.s.length ≤ 61000 from by
            have := hR.out
            rwa [List.take_of_length_le (by have := H.out.len; omega)] at this)
          cases hb : decide ((t : Int) ≤ 200000)
          · go_wp2
            go_ret
            exact ⟨false, rfl, fun h => (by cases h), rfl⟩
          · go_wp2
            go_ret
            exact ⟨true, rfl, fun _ => HE.out, rfl⟩
        · have hd2 : decide ((i : Int) ≤ 200) = false := by simp; omega
          go_wp2
          go_ret
          exact ⟨false, rfl, fun h => (by cases h), rfl⟩
      · have hd1 : decide ((i : Int) < (n : Int)) = true := by simp; omega
        have hd2 : decide ((i : Int) ≤ 200) = false := by simp; omega
        have hd3 : decide ((n : Int) ≤ 200) = false := by simp; omega
        go_wp2
        go_ret
        exact ⟨false, rfl, fun h => (by cases h), rfl⟩
    obtain ⟨hin, hi200⟩ := hgo
    have hd1 : decide ((i : Int) < (n : Int)) = true := by simp; omega
    have hd2 : decide ((i : Int) ≤ 200) = true := by simp; omega
    obtain ⟨o, ho⟩ : ∃ o, ops[i]? = some o := ⟨_, List.getElem?_eq_getElem (by have := H.out.len; omega)⟩
    obtain ⟨ad, rfl, hc⟩ := H.out.at_.resolve_left (fun e => by rw [e] at ho; cases ho)
    have hc1 : wr.cell? ⟨(ad.add (i * 4)).block, (ad.add (i * 4)).off + 1, none⟩ = some (.string (bs o.s)) := hc i o ho 1 _ rfl
    have hc3 : wr.cell? ⟨(ad.add (i * 4)).block, (ad.add (i * 4)).off + 3, none⟩ = some (.slice o.A o.a o.c) := hc i o ho 3 _ rfl
    obtain ⟨S, hS⟩ : ∃ S, S = bs o.s := ⟨_, rfl⟩
    have hSz : S.size = o.s.length := by rw [hS, bs_size]
    obtain ⟨sl, hsl⟩ : ∃ sl, sl = o.s.length := ⟨_, rfl⟩
    obtain ⟨oa, hoa⟩ : ∃ oa, oa = o.a := ⟨_, rfl⟩
    rw [← hS] at hc1
    rw [← hsl] at hSz
    have HO := Lib.hid (And.intro ho hsl)
    clear hc ho hS hsl
    by_cases ha : 61000 < sl
    · have hda : decide ((61000 : Int) < (sl : Int)) = true := by simp; omega
      go_wp2
      go_ret
      exact ⟨false, rfl, fun h => (by cases h), rfl⟩
    have hda : decide ((61000 : Int) < (sl : Int)) = false := by simp; omega
    rw [← hoa] at hc3
    clear hoa
    by_cases hb : 200 < oa
    · have hdb : decide ((200 : Int) < (oa : Int)) = true := by simp; omega
      go_wp2
      go_ret
      exact ⟨false, rfl, fun h => (by cases h), rfl⟩
    have hdb : decide ((200 : Int) < (oa : Int)) = false := by simp; omega
    go_wp2
    go_roundg (gk - 1)
    case measure => omega
    case rel =>
      refine ⟨i + 1, t + sl, by congr 1, by go_num, by omega, by omega, by omega, rfl, Lib.hid ?_⟩
      intro x hx
      rw [List.take_add_one, HO.out.1] at hx
      rcases List.mem_append.1 hx with hx | hx
      · exact hR.out x hx
      · simp at hx; rw [hx, ← HO.out.2]; omega

end Go.Proofs.Ytdnjelggdjimhaa
