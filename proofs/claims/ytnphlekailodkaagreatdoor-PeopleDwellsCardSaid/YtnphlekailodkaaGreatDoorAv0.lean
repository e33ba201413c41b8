/-
  The sample of the chapter, in plain Lean: its lines, its entries, three routes.
-/
import Derived.Test.YtnphlekailodkaaGreatDoorRx
import Derived.Test.YtnphlekailodkaaGreatDoorFo
namespace Go.Proofs.YtnphlekailodkaaGreatDoor
namespace Pe

def followFromR (l : List Ent) (s d : Int) : Nat → Pair → List Hop → Route
  | 0, at_, hs => ⟨0, at_, hs, 0⟩
  | n + 1, at_, hs =>
    if dead l at_.1 d = true ∧ heir? l at_.1 d = none then ⟨3, at_, hs, 0⟩
    else if refuses l at_ s d = true then ⟨2, at_, hs, 0⟩
    else if (step l at_ d).2 = 1 then ⟨5, (step l at_ d).1.to, hs, 0⟩
    else if (step l at_ d).2 = 2 then
      match seenAt (hs ++ [(step l at_ d).1]) (step l at_ d).1.to with
      | some i => ⟨6, (step l at_ d).1.to, hs ++ [(step l at_ d).1], i⟩
      | none => followFromR l s d n (step l at_ d).1.to (hs ++ [(step l at_ d).1])
    else ⟨if livesR l at_ d = true then 1 else 4, at_, hs, 0⟩
theorem followFromR_eq (l : List Ent) (s d : Int) : ∀ (n : Nat) (c : Pair) (hs : List Hop), followFrom l s d n c hs = followFromR l s d n c hs
  | 0, c, hs => rfl
  | n + 1, c, hs => by
    have ih := followFromR_eq l s d n (step l c d).1.to (hs ++ [(step l c d).1])
    unfold followFrom followFromR
    rw [lives_eq]
    cases hm : seenAt (hs ++ [(step l c d).1]) (step l c d).1.to with
    | none => simp only [ih]
    | some i => rfl

def sampleLines : List (List UInt8) := [
  [48, 32, 110, 97, 109, 101, 32, 49, 32, 48, 32, 48, 32, 97, 110, 110, 32, 108, 101, 101],
  [48, 32, 110, 97, 109, 101, 32, 50, 32, 48, 32, 48, 32, 98, 111, 98, 32, 108, 101, 101],
  [48, 32, 108, 105, 118, 101, 32, 49, 32, 55, 32, 48, 32, 53, 48],
  [48, 32, 108, 105, 118, 101, 32, 50, 32, 56, 32, 48, 32, 48],
  [52, 48, 32, 108, 105, 118, 101, 32, 49, 32, 57, 32, 53, 48, 32, 48],
  [52, 48, 32, 114, 101, 100, 105, 114, 101, 99, 116, 32, 53, 32, 49, 32, 55, 32, 49, 32, 48, 32, 53, 48, 32, 56, 48],
  [54, 48, 32, 100, 101, 97, 116, 104, 32, 50, 32, 54, 48],
  [54, 48, 32, 104, 101, 105, 114, 32, 50, 32, 49, 32, 54, 48, 32, 48],
  [55, 48, 32, 114, 101, 102, 117, 115, 101, 32, 49, 32, 57, 32, 50, 32, 55, 48, 32, 55, 53]]
def sampleL : List Ent := [
  { zero with kind := 1, person := 1, name := [97, 110, 110, 32, 108, 101, 101] },
  { zero with kind := 1, person := 2, name := [98, 111, 98, 32, 108, 101, 101] },
  { zero with kind := 2, person := 1, place := 7, til := 50 },
  { zero with kind := 2, person := 2, place := 8 },
  { zero with day := 40, kind := 2, person := 1, place := 9, since := 50 },
  { zero with day := 40, kind := 5, order := 5, person := 1, place := 7, other := 1, since := 50, til := 80 },
  { zero with day := 60, kind := 3, person := 2, since := 60 },
  { zero with day := 60, kind := 4, person := 2, other := 1, since := 60 },
  { zero with day := 70, kind := 7, person := 1, place := 9, other := 2, since := 70, til := 75 }]
theorem dec_small {n : Nat} (h : n < 10) : dec (n : Int) = [UInt8.ofNat (48 + n)] := by
  rw [dec_nat (by omega), Int.toNat_natCast, Lib.decDigits, dif_pos h]
theorem dec_two {n : Nat} (h1 : ¬ n < 10) (h2 : n < 100) : dec (n : Int) = [UInt8.ofNat (48 + n / 10), UInt8.ofNat (48 + n % 10)] := by
  rw [dec_nat (by omega), Int.toNat_natCast, Lib.decDigits_two h1 h2]
theorem sample_line : sampleL.map line = sampleLines := by decide +kernel
theorem sample_formed : ∀ x ∈ sampleL, formed x = 0 := by decide +kernel
theorem sample_check : ∀ i : Fin 10, (check (sampleL.take i.val)).2 = 0 := by decide +kernel
theorem sample_r : followFromR sampleL 0 65 11 (2, 8) [] = ⟨1, (1, 9), [⟨2, (2, 8), (1, 9), 0⟩], 0⟩ := by decide +kernel
theorem sample_s : (followFromR sampleL 2 72 11 (1, 9) []).kind = 2 := by decide +kernel
theorem sample_t : (followFromR sampleL 0 80 11 (1, 7) []).kind = 4 := by decide +kernel
end Pe
end Go.Proofs.YtnphlekailodkaaGreatDoor
