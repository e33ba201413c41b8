/-
  The sample of the chapter, in plain Lean: its lines, its entries, three routes. The sample of the chapter, walked. The chapter's examples hold. What a law does; Few of the reference.
-/
import Derived.Test.YtnphlekailodkaaGreatDoorRx
import Derived.Test.YtnphlekailodkaaGreatDoorFo
import Derived.Test.YtnphlekailodkaaGreatDoorRd2
import Derived.Test.YtnphlekailodkaaGreatDoorPa
import Derived.Test.YtnphlekailodkaaGreatDoorFw
namespace Go.Proofs.YtnphlekailodkaaGreatDoor
namespace Pe

def followFromR (l : List Ent) (s d : Int) : Nat → Pair → List Hop → Route
  | 0, at_, hs => ⟨0, at_, hs, 0⟩
  | n + 1, at_, hs =>
    if dead l at_.1 d = true ∧ heir? l at_.1 d = none then ⟨3, at_, hs, 0⟩
    else if refuses l at_ s d = true then ⟨2, at_, hs, 0⟩
    else if (step l at_ d).2 = 1 then ⟨5, (step l at_ d).1.to, hs, 0⟩
    else if (step l at_ d).2 = 2 then
      match seenAt (hs ++ [(step l at_ d).1]) (step l at_ d).1.to with
      | some i => ⟨6, (step l at_ d).1.to, hs ++ [(step l at_ d).1], i⟩
      | none => followFromR l s d n (step l at_ d).1.to (hs ++ [(step l at_ d).1])
    else ⟨if livesR l at_ d = true then 1 else 4, at_, hs, 0⟩
theorem followFromR_eq (l : List Ent) (s d : Int) : ∀ (n : Nat) (c : Pair) (hs : List Hop), followFrom l s d n c hs = followFromR l s d n c hs
  | 0, c, hs => rfl
  | n + 1, c, hs => by
    have ih := followFromR_eq l s d n (step l c d).1.to (hs ++ [(step l c d).1])
    unfold followFrom followFromR
    rw [lives_eq]
    cases hm : seenAt (hs ++ [(step l c d).1]) (step l c d).1.to with
    | none => simp only [ih]
    | some i => rfl

def sampleLines : List (List UInt8) := [
  [48, 32, 110, 97, 109, 101, 32, 49, 32, 48, 32, 48, 32, 97, 110, 110, 32, 108, 101, 101],
  [48, 32, 110, 97, 109, 101, 32, 50, 32, 48, 32, 48, 32, 98, 111, 98, 32, 108, 101, 101],
  [48, 32, 108, 105, 118, 101, 32, 49, 32, 55, 32, 48, 32, 53, 48],
  [48, 32, 108, 105, 118, 101, 32, 50, 32, 56, 32, 48, 32, 48],
  [52, 48, 32, 108, 105, 118, 101, 32, 49, 32, 57, 32, 53, 48, 32, 48],
  [52, 48, 32, 114, 101, 100, 105, 114, 101, 99, 116, 32, 53, 32, 49, 32, 55, 32, 49, 32, 48, 32, 53, 48, 32, 56, 48],
  [54, 48, 32, 100, 101, 97, 116, 104, 32, 50, 32, 54, 48],
  [54, 48, 32, 104, 101, 105, 114, 32, 50, 32, 49, 32, 54, 48, 32, 48],
  [55, 48, 32, 114, 101, 102, 117, 115, 101, 32, 49, 32, 57, 32, 50, 32, 55, 48, 32, 55, 53]]
def sampleL : List Ent := [
  { zero with kind := 1, person := 1, name := [97, 110, 110, 32, 108, 101, 101] },
  { zero with kind := 1, person := 2, name := [98, 111, 98, 32, 108, 101, 101] },
  { zero with kind := 2, person := 1, place := 7, til := 50 },
  { zero with kind := 2, person := 2, place := 8 },
  { zero with day := 40, kind := 2, person := 1, place := 9, since := 50 },
  { zero with day := 40, kind := 5, order := 5, person := 1, place := 7, other := 1, since := 50, til := 80 },
  { zero with day := 60, kind := 3, person := 2, since := 60 },
  { zero with day := 60, kind := 4, person := 2, other := 1, since := 60 },
  { zero with day := 70, kind := 7, person := 1, place := 9, other := 2, since := 70, til := 75 }]
theorem dec_small {n : Nat} (h : n < 10) : dec (n : Int) = [UInt8.ofNat (48 + n)] := by
  rw [dec_nat (by omega), Int.toNat_natCast, Lib.decDigits, dif_pos h]
theorem dec_two {n : Nat} (h1 : ¬ n < 10) (h2 : n < 100) : dec (n : Int) = [UInt8.ofNat (48 + n / 10), UInt8.ofNat (48 + n % 10)] := by
  rw [dec_nat (by omega), Int.toNat_natCast, Lib.decDigits_two h1 h2]
theorem sample_line : sampleL.map line = sampleLines := by decide +kernel
theorem sample_formed : ∀ x ∈ sampleL, formed x = 0 := by decide +kernel
theorem sample_check : ∀ i : Fin 10, (check (sampleL.take i.val)).2 = 0 := by decide +kernel
theorem sample_r : followFromR sampleL 0 65 11 (2, 8) [] = ⟨1, (1, 9), [⟨2, (2, 8), (1, 9), 0⟩], 0⟩ := by decide +kernel
theorem sample_s : (followFromR sampleL 2 72 11 (1, 9) []).kind = 2 := by decide +kernel
theorem sample_t : (followFromR sampleL 0 80 11 (1, 7) []).kind = 4 := by decide +kernel
end Pe
end Go.Proofs.YtnphlekailodkaaGreatDoor

namespace Go.Proofs.YtnphlekailodkaaGreatDoor
open Go.RowKit

namespace Pe
theorem sample_at {i : Nat} (h : i < 9) : ∃ x t, sampleL[i]? = some x ∧ sampleLines[i]? = some t ∧ readP t = (x, 0) ∧ t.length ≤ 100 ∧ (check (sampleL.take i)).2 = 0 ∧ (check (sampleL.take i ++ [x])).2 = 0 ∧ sampleL.take (i + 1) = sampleL.take i ++ [x] := by
  have hl : sampleL.length = 9 := rfl
  have hm : sampleLines.length = 9 := rfl
  have h1 : sampleL[i]? = some (sampleL[i]'(by omega)) := List.getElem?_eq_getElem (by omega)
  have h2 : sampleLines[i]? = some (sampleLines[i]'(by omega)) := List.getElem?_eq_getElem (by omega)
  have h3 : line (sampleL[i]'(by omega)) = sampleLines[i]'(by omega) := by
    have := sample_line
    have e := congrArg (fun q => q[i]?) this
    simp only [List.getElem?_map, h1, h2, Option.map_some, Option.some.injEq] at e
    exact e
  have hf := sample_formed _ (List.mem_of_getElem? h1)
  have h4 : sampleL.take (i + 1) = sampleL.take i ++ [sampleL[i]'(by omega)] := by rw [List.take_add_one, h1]; rfl
  refine ⟨_, _, h1, h2, ?_, ?_, sample_check ⟨i, by omega⟩, ?_, h4⟩
  · rw [← h3]; exact readP_line hf
  · exact (by decide : ∀ t ∈ sampleLines, t.length ≤ 100) _ (List.mem_of_getElem? h2)
  · rw [← h4]; exact sample_check ⟨i + 1, by omega⟩
theorem sample_ok : ∀ x ∈ sampleL, EOk x := by
  have h : ∀ x ∈ sampleL, x.kind < 256 ∧ (Lit.int .i64 x.person).wf = true ∧ (Lit.int .i64 x.other).wf = true ∧ (Lit.int .i64 x.order).wf = true ∧ (Lit.int .i64 x.day).wf = true ∧ x.name.length ≤ 9223372036854775807 := by decide +kernel
  intro x hx
  obtain ⟨h1, h2, h3, h4, h5, h6⟩ := h x hx
  exact { kind := h1, person := h2, other := h3, order := h4, day := h5, name := h6 }
end Pe
def sampleCells : Array Value := #[.string ⟨#[48, 32, 110, 97, 109, 101, 32, 49, 32, 48, 32, 48, 32, 97, 110, 110, 32, 108, 101, 101]⟩, .string ⟨#[48, 32, 110, 97, 109, 101, 32, 50, 32, 48, 32, 48, 32, 98, 111, 98, 32, 108, 101, 101]⟩, .string ⟨#[48, 32, 108, 105, 118, 101, 32, 49, 32, 55, 32, 48, 32, 53, 48]⟩, .string ⟨#[48, 32, 108, 105, 118, 101, 32, 50, 32, 56, 32, 48, 32, 48]⟩, .string ⟨#[52, 48, 32, 108, 105, 118, 101, 32, 49, 32, 57, 32, 53, 48, 32, 48]⟩, .string ⟨#[52, 48, 32, 114, 101, 100, 105, 114, 101, 99, 116, 32, 53, 32, 49, 32, 55, 32, 49, 32, 48, 32, 53, 48, 32, 56, 48]⟩, .string ⟨#[54, 48, 32, 100, 101, 97, 116, 104, 32, 50, 32, 54, 48]⟩, .string ⟨#[54, 48, 32, 104, 101, 105, 114, 32, 50, 32, 49, 32, 54, 48, 32, 48]⟩, .string ⟨#[55, 48, 32, 114, 101, 102, 117, 115, 101, 32, 49, 32, 57, 32, 50, 32, 55, 48, 32, 55, 53]⟩]
theorem sampleCells_eq : sampleCells = (Pe.sampleLines.map fun t => Value.string (bs t)).toArray := rfl

set_option maxRecDepth 1000000 in
set_option maxHeartbeats 8000000 in
theorem sample_calls (w : World) (hL : Laid w) :
    Calls Tryz.prog 53 #[] w fun e w' => ∃ A c, e = .returned (.slice A 9 c) ∧ EntsAt w' A 9 Pe.sampleL ∧ Below w.heap.size w w' := by
  have H := Lib.hid hL
  clear hL
  go_enter Tryz.func53, Tryz.ntmps53
  go_upto_region 3 with fail
  obtain ⟨sb, hsb⟩ : ∃ sb, sb = w.heap.size := ⟨_, rfl⟩
  have hS := Blk.fresh w 9 sampleCells
  have hB1 := (Below.refl w.heap.size w).alloc (Nat.le_refl _) (.cells sampleCells 9)
  obtain ⟨w1, hw1⟩ : ∃ w1, w1 = w.alloc (.cells sampleCells 9) := ⟨_, rfl⟩
  rw [← hw1] at hS hB1
  rw [← hsb] at hS ⊢
  have H1 := Lib.hid (And.intro hB1 (And.intro hS hsb))
  unfold sampleCells at hw1
  rw [← hw1]
  clear hw1 hS hB1 hsb
  go_loopg [1, 10] 9 (fun q s1 s10 wr => ∃ (i : Nat) (A : Option Addr) (c : Nat), s1 = .slice A i c ∧ s10 = .int .i64 (i : Int) ∧ i + q = 9 ∧ Hid (EntsAt wr A i (Pe.sampleL.take i) ∧ (A = none → i = 0) ∧ Blk wr sb 9 sampleCells ∧ Below w.heap.size w wr))
  case atStart => exact ⟨0, none, 0, rfl, by go_num, by omega, Lib.hid ⟨⟨rfl, by omega, .inl rfl, fun x hx => by simp at hx⟩, fun _ => rfl, H1.out.2.1, H1.out.1⟩⟩
  case round =>
    obtain ⟨i, A, c, rfl, rfl, hi, hR⟩ := hrel
    by_cases hgo : i < 9
    case neg =>
      have hd1 : decide ((i : Int) < 9) = false := by simp; omega
      have hi9 : i = 9 := by omega
      subst hi9
      go_wp2
      go_ret
      exact ⟨A, c, rfl, hR.out.1, hR.out.2.2.2⟩
    have hd1 : decide ((i : Int) < 9) = true := by simp; omega
    obtain ⟨x, t, hx, ht, hrd, htl, hc1, hc2, htk⟩ := Pe.sample_at hgo
    have g0 : wr.cell? ⟨sb, i, none⟩ = some (.string (bs t)) := by
      rw [hR.out.2.2.1.cell i, sampleCells_eq]
      simp [ht]
    have HX := Lib.hid (And.intro hx (And.intro hc1 (And.intro hc2 htk)))
    have hrc := Read_calls t (by omega) wr (H.out.below hR.out.2.2.2)
    rw [hrd] at hrc
    have HRC := Lib.hid hrc
    clear hx ht hrd hc1 hc2 htk htl hrc
    go_wp2_with fail
    refine HRC.out.mono ?_
    rintro e w2 ⟨rfl, hb2⟩
    unfold eCells
    dsimp only
    go_upto_region 6 with fail
    obtain ⟨g, hg⟩ : ∃ g, g = w2.heap.size := ⟨_, rfl⟩
    obtain ⟨w3, hw3⟩ : ∃ w3, w3 = w2.alloc (.cells (eCells x) 31) := ⟨_, rfl⟩
    have hb3 : Below wr.heap.size wr w3 := by rw [hw3]; exact hb2.alloc hb2.size _
    have hg3 : Blk w3 g 31 (eCells x) := by rw [hw3, hg]; exact Blk.fresh _ _ _
    unfold eCells at hw3
    rw [← hg, ← hw3]
    have H3 := Lib.hid (And.intro hb3 hg3)
    clear hb2 hb3 hg3 hw3 hg g0
    have c0 : w3.cell? ⟨g, 0, none⟩ = some (.int .i64 x.day) := H3.out.2.cell 0
    have c1 : w3.cell? ⟨g, 1, none⟩ = some (.int .u8 (x.kind : Int)) := H3.out.2.cell 1
    have c2 : w3.cell? ⟨g, 2, none⟩ = some (.int .i64 x.since) := H3.out.2.cell 2
    have c3 : w3.cell? ⟨g, 3, none⟩ = some (.int .i64 x.til) := H3.out.2.cell 3
    have c4 : w3.cell? ⟨g, 4, none⟩ = some (.int .i64 x.person) := H3.out.2.cell 4
    have c5 : w3.cell? ⟨g, 5, none⟩ = some (.int .i64 x.place) := H3.out.2.cell 5
    have c6 : w3.cell? ⟨g, 6, none⟩ = some (.int .i64 x.other) := H3.out.2.cell 6
    have c7 : w3.cell? ⟨g, 7, none⟩ = some (.int .i64 x.at_) := H3.out.2.cell 7
    have c8 : w3.cell? ⟨g, 8, none⟩ = some (.int .i64 x.order) := H3.out.2.cell 8
    have c9 : w3.cell? ⟨g, 9, none⟩ = some (.string (bs x.name)) := H3.out.2.cell 9
    have hac := Append_calls A i c (Pe.sampleL.take i) x w3 (hR.out.1.below H3.out.1) hR.out.2.1 (Pe.sample_ok x (List.mem_of_getElem? HX.out.1))
    have HAC := Lib.hid hac
    clear hac
    go_wp2_with fail
    refine HAC.out.mono ?_
    rintro e w4 ⟨hb4, h4⟩
    rcases h4 with ⟨h4, _⟩ | ⟨_, h4, _⟩ | ⟨_, _, v, rfl, hown⟩
    · exact absurd HX.out.2.1 h4
    · exact absurd HX.out.2.2.1 h4
    obtain ⟨A', c', rfl, hE⟩ := own_ents hown (by rw [← HX.out.2.2.2, List.length_take]; have : Pe.sampleL.length = 9 := rfl; omega) (fun y hy => Pe.sample_ok y (by rw [← HX.out.2.2.2] at hy; exact List.mem_of_mem_take hy))
    have hA' : A' = none → i + 1 = 0 := by
      rintro rfl
      rcases hE.at_ with h0 | ⟨ad, h0, _⟩
      · simp at h0
      · cases h0
    rw [← HX.out.2.2.2] at hE
    have hbl := hR.out.2.2.2.trans ((H3.out.1.trans (hb4.mono H3.out.1.size)).mono hR.out.2.2.2.size)
    have hsb := hR.out.2.2.1.below (H3.out.1.trans (hb4.mono H3.out.1.size)) hR.out.2.2.1.lt
    have H4 := Lib.hid (And.intro hE (And.intro hA' (And.intro hsb hbl)))
    clear c0 c1 c2 c3 c4 c5 c6 c7 c8 c9
    clear hb4 hown hE hA' hbl hsb
    dsimp only
    go_wp2
    go_roundg (gk - 1)
    case measure => omega
    case rel => exact ⟨i + 1, A', c', rfl, by go_num, by omega, H4⟩

end Go.Proofs.YtnphlekailodkaaGreatDoor

namespace Go.Proofs.YtnphlekailodkaaGreatDoor
open Go.RowKit Go.Shelf

namespace Pe
theorem follow_r : follow sampleL (2, 8) 0 65 = (⟨1, (1, 9), [⟨2, (2, 8), (1, 9), 0⟩], 0⟩, 0) := by
  have h : followArg (2, 8) 0 65 = true := by decide
  unfold follow
  rw [if_pos h, followFromR_eq]
  exact congrArg (·, (0 : Int)) sample_r
theorem follow_s : (follow sampleL (1, 9) 2 72).1.kind = 2 ∧ (follow sampleL (1, 9) 2 72).2 = 0 := by
  have h : followArg (1, 9) 2 72 = true := by decide
  unfold follow
  rw [if_pos h, followFromR_eq]
  exact ⟨sample_s, rfl⟩
theorem follow_t : (follow sampleL (1, 7) 0 80).1.kind = 4 ∧ (follow sampleL (1, 7) 0 80).2 = 0 := by
  have h : followArg (1, 7) 0 80 = true := by decide
  unfold follow
  rw [if_pos h, followFromR_eq]
  exact ⟨sample_t, rfl⟩
end Pe

set_option maxRecDepth 1000000 in
set_option maxHeartbeats 8000000 in
theorem alive_calls (w : World) (hL : Laid w) : Calls Tryz.prog 16 #[] w fun e w' => e = .returned (.bool true) ∧ Below w.heap.size w w' := by
  have H := Lib.hid hL
  clear hL
  go_enter Tryz.func16, Tryz.ntmps16
  go_wp2_with fail
  refine (sample_calls w H.out).mono ?_
  rintro e w1 ⟨A, c, rfl, hE1, hb1⟩
  have H1 := Lib.hid (And.intro hE1 hb1)
  clear hE1 hb1
  dsimp only
  go_wp2_with fail
  refine (Follow_calls A 9 c Pe.sampleL (2, 8) 0 65 w1 H1.out.1 (by omega)).mono ?_
  rintro e w2 ⟨⟨v, rfl, ho⟩, hb2⟩
  rw [Pe.follow_r] at ho ⊢
  have ho1 : w2.ownsRow w1.heap.size 66 6 v 1 (hRow [⟨2, (2, 8), (1, 9), 0⟩]) := ho
  obtain ⟨g, cap, rfl, hbg, hlt, _⟩ := own_form ho1 (by decide)
  have hcell : w2.cell? ⟨g, 0, none⟩ = some (.int .u8 2) := by
    have h6 := own_range ho1 0 [.int .u8 2] (fun q u hu => by
      match q, hu with
      | 0, hu => simp at hu; subst hu; rfl)
    exact h6 0 _ rfl
  have H2 := Lib.hid (And.intro (H1.out.1.below hb2) (And.intro (H1.out.2.trans (hb2.mono H1.out.2.size)) (And.intro hcell hlt)))
  clear ho ho1 hb2 hcell hlt hbg
  rw [show rCells ((⟨1, (1, 9), [⟨2, (2, 8), (1, 9), 0⟩], 0⟩ : Pe.Route), (0 : Int)).1 (.slice (some ⟨g, 0, none⟩) 1 cap) = #[.int .u8 1, .int .i64 1, .int .i64 9, .slice (some ⟨g, 0, none⟩) 1 cap, .int .i64 0] from rfl]
  dsimp only
  go_upto_region 5 with fail
  obtain ⟨b, hb⟩ : ∃ b, b = w2.heap.size := ⟨_, rfl⟩
  obtain ⟨w3, hw3⟩ : ∃ w3, w3 = w2.alloc (.cells #[.int .u8 1, .int .i64 1, .int .i64 9, .slice (some ⟨g, 0, none⟩) 1 cap, .int .i64 0] 34) := ⟨_, rfl⟩
  have hb23 : Below w2.heap.size w2 w3 := by rw [hw3]; exact (Below.refl _ w2).alloc (Nat.le_refl _) _
  have hR3 : Blk w3 b 34 #[.int .u8 1, .int .i64 1, .int .i64 9, .slice (some ⟨g, 0, none⟩) 1 cap, .int .i64 0] := by rw [hw3, hb]; exact Blk.fresh _ _ _
  rw [← hb, ← hw3]
  have H3 := Lib.hid (And.intro hb23 (And.intro hR3 (H2.out.1.below hb23)))
  clear hb hw3 hb23 hR3
  go_wp2_with fail
  refine (Follow_calls A 9 c Pe.sampleL (1, 9) 2 72 w3 H3.out.2.2 (by omega)).mono ?_
  rintro e w4 ⟨⟨v4, rfl, ho4⟩, hb4⟩
  have H4 := Lib.hid (And.intro hb4 (H3.out.2.2.below hb4))
  obtain ⟨R4, hR4⟩ : ∃ R4, R4 = Pe.follow Pe.sampleL (1, 9) 2 72 := ⟨_, rfl⟩
  have hk4 := Pe.follow_s
  rw [← hR4] at hk4 ho4 ⊢
  unfold rCells
  rw [hk4.1, hk4.2]
  obtain ⟨m4, hm4⟩ : ∃ m, m = R4.1.hops.length := ⟨_, rfl⟩
  rw [← hm4] at ho4
  obtain ⟨A4, c4, rfl, _, _⟩ := own_shape ho4
  clear ho4 hb4 hR4 hk4 hm4
  dsimp only
  go_upto_region 6 with fail
  obtain ⟨b4, hb4⟩ : ∃ b4, b4 = w4.heap.size := ⟨_, rfl⟩
  obtain ⟨w5, hw5⟩ : ∃ w5, w5 = w4.alloc (.cells #[.int .u8 2, .int .i64 R4.1.fin.1, .int .i64 R4.1.fin.2, .slice A4 m4 c4, .int .i64 (R4.1.back : Int)] 34) := ⟨_, rfl⟩
  have hb45 : Below w4.heap.size w4 w5 := by rw [hw5]; exact (Below.refl _ w4).alloc (Nat.le_refl _) _
  have hR5 : Blk w5 b4 34 #[.int .u8 2, .int .i64 R4.1.fin.1, .int .i64 R4.1.fin.2, .slice A4 m4 c4, .int .i64 (R4.1.back : Int)] := by rw [hw5, hb4]; exact Blk.fresh _ _ _
  rw [← hb4, ← hw5]
  have H5 := Lib.hid (And.intro hb45 (And.intro hR5 (H4.out.2.below hb45)))
  clear hb4 hw5 hb45 hR5
  go_wp2_with fail
  refine (Follow_calls A 9 c Pe.sampleL (1, 7) 0 80 w5 H5.out.2.2 (by omega)).mono ?_
  rintro e w6 ⟨⟨v6, rfl, ho6⟩, hb6⟩
  have H6 := Lib.hid hb6
  obtain ⟨R6, hR6⟩ : ∃ R6, R6 = Pe.follow Pe.sampleL (1, 7) 0 80 := ⟨_, rfl⟩
  have hk6 := Pe.follow_t
  rw [← hR6] at hk6 ho6 ⊢
  unfold rCells
  rw [hk6.1, hk6.2]
  obtain ⟨m6, hm6⟩ : ∃ m, m = R6.1.hops.length := ⟨_, rfl⟩
  rw [← hm6] at ho6
  obtain ⟨A6, c6, rfl, _, _⟩ := own_shape ho6
  clear ho6 hb6 hR6 hk6 hm6
  dsimp only
  go_upto_region 8 with fail
  obtain ⟨b6, hb6⟩ : ∃ b6, b6 = w6.heap.size := ⟨_, rfl⟩
  obtain ⟨w7, hw7⟩ : ∃ w7, w7 = (w6.alloc (.cells #[.int .u8 4, .int .i64 R6.1.fin.1, .int .i64 R6.1.fin.2, .slice A6 m6 c6, .int .i64 (R6.1.back : Int)] 34)).alloc (.cells #[.int .i64 1, .int .i64 9] 28) := ⟨_, rfl⟩
  have hb67 : Below w6.heap.size w6 w7 := by rw [hw7]; exact ((Below.refl _ w6).alloc (Nat.le_refl _) _).alloc (by simp) _
  have hR7 : Blk w7 b6 34 #[.int .u8 4, .int .i64 R6.1.fin.1, .int .i64 R6.1.fin.2, .slice A6 m6 c6, .int .i64 (R6.1.back : Int)] := by rw [hw7, hb6]; exact (Blk.fresh _ _ _).alloc _
  have hP7 : Blk w7 (b6 + 1) 28 #[.int .i64 1, .int .i64 9] := by
    rw [hw7, hb6]
    have := Blk.fresh (w6.alloc (.cells #[.int .u8 4, .int .i64 R6.1.fin.1, .int .i64 R6.1.fin.2, .slice A6 m6 c6, .int .i64 (R6.1.back : Int)] 34)) 28 #[.int .i64 1, .int .i64 9]
    simpa using this
  rw [← hb6, ← hw7]
  have s1 := H4.out.1.trans (H5.out.1.mono H4.out.1.size)
  have s2 := s1.trans (H6.out.mono s1.size)
  have s3 := s2.trans (hb67.mono s2.size)
  have tt := H3.out.1.trans (s3.mono H3.out.1.size)
  have u := H6.out.trans (hb67.mono H6.out.size)
  have hR3 := H3.out.2.1.below s3 H3.out.2.1.lt
  have hR5 := H5.out.2.1.below u H5.out.2.1.lt
  have x0 : w7.cell? ⟨b, 0, none⟩ = some (.int .u8 1) := hR3.cell 0
  have x1 : w7.cell? ⟨b, 1, none⟩ = some (.int .i64 1) := hR3.cell 1
  have x2 : w7.cell? ⟨b, 2, none⟩ = some (.int .i64 9) := hR3.cell 2
  have x3 : w7.cell? ⟨b, 3, none⟩ = some (.slice (some ⟨g, 0, none⟩) 1 cap) := hR3.cell 3
  have x4 : w7.cell? ⟨g, 0, none⟩ = some (.int .u8 2) := (tt.cell (p := ⟨g, 0, none⟩) H2.out.2.2.2).trans H2.out.2.2.1
  have x5 : w7.cell? ⟨b4, 0, none⟩ = some (.int .u8 2) := hR5.cell 0
  have x6 : w7.cell? ⟨b6, 0, none⟩ = some (.int .u8 4) := hR7.cell 0
  have x7 : w7.cell? ⟨b6 + 1, 0, none⟩ = some (.int .i64 1) := hP7.cell 0
  have x8 : w7.cell? ⟨b6 + 1, 1, none⟩ = some (.int .i64 9) := hP7.cell 1
  have H7 := Lib.hid (H2.out.2.1.trans (tt.mono H2.out.2.1.size))
  clear hb67 hR7 hP7 hw7 hb6 s1 s2 s3 tt u hR3 hR5
  have hq : ∀ w0, (binOp .eql 28 (.agg #[.int .i64 1, .int .i64 9]) (.agg #[.int .i64 1, .int .i64 9])).run Tryz.prog w0 = .ok (.bool true) w0 := fun w0 => eql_pair (1, 9) (1, 9) w0
  go_wp2
  go_ret
  exact ⟨rfl, H7.out⟩

end Go.Proofs.YtnphlekailodkaaGreatDoor

namespace Go.Proofs.YtnphlekailodkaaGreatDoor
open Go.RowKit

/-- What a law does: it returns true, and what was there stays. -/
def Law (w : World) (e : Ending) (w' : World) : Prop := e = .returned (.bool true) ∧ Below w.heap.size w w'

set_option maxRecDepth 1000000 in
set_option maxHeartbeats 2000000 in
theorem Few_calls (A : Option Addr) (n c : Nat) (w : World) : Calls Tryz.prog 17 #[.slice A n c] w fun e w' => e = .returned (.bool (decide (n ≤ 60))) ∧ w' = w := by
  by_cases h : n ≤ 60
  · have d1 : decide ((n : Int) ≤ 60) = true := by simp; omega
    have h2 : decide (n ≤ 60) = true := by simpa using h
    rw [h2]
    clear h2 h
    go_enter Tryz.func17, Tryz.ntmps17
    go_wp2
    go_ret
    exact ⟨rfl, rfl⟩
  · have d1 : decide ((n : Int) ≤ 60) = false := by simp; omega
    have h2 : decide (n ≤ 60) = false := by simpa using h
    rw [h2]
    clear h2 h
    go_enter Tryz.func17, Tryz.ntmps17
    go_wp2
    go_ret
    exact ⟨rfl, rfl⟩

end Go.Proofs.YtnphlekailodkaaGreatDoor
