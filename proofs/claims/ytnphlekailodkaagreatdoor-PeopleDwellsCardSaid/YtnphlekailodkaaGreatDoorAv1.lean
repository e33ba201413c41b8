/-
  The sample of the chapter, walked.
-/
import Derived.Test.YtnphlekailodkaaGreatDoorRd2
import Derived.Test.YtnphlekailodkaaGreatDoorAv0
import Derived.Test.YtnphlekailodkaaGreatDoorPa
namespace Go.Proofs.YtnphlekailodkaaGreatDoor
open Go.RowKit

namespace Pe
theorem sample_at {i : Nat} (h : i < 9) : ∃ x t, sampleL[i]? = some x ∧ sampleLines[i]? = some t ∧ readP t = (x, 0) ∧ t.length ≤ 100 ∧ (check (sampleL.take i)).2 = 0 ∧ (check (sampleL.take i ++ [x])).2 = 0 ∧ sampleL.take (i + 1) = sampleL.take i ++ [x] := by
  have hl : sampleL.length = 9 := rfl
  have hm : sampleLines.length = 9 := rfl
  have h1 : sampleL[i]? = some (sampleL[i]'(by omega)) := List.getElem?_eq_getElem (by omega)
  have h2 : sampleLines[i]? = some (sampleLines[i]'(by omega)) := List.getElem?_eq_getElem (by omega)
  have h3 : line (sampleL[i]'(by omega)) = sampleLines[i]'(by omega) := by
    have := sample_line
    have e := congrArg (fun q => q[i]?) this
    simp only [List.getElem?_map, h1, h2, Option.map_some, Option.some.injEq] at e
    exact e
  have hf := sample_formed _ (List.mem_of_getElem? h1)
  have h4 : sampleL.take (i + 1) = sampleL.take i ++ [sampleL[i]'(by omega)] := by rw [List.take_add_one, h1]; rfl
  refine ⟨_, _, h1, h2, ?_, ?_, sample_check ⟨i, by omega⟩, ?_, h4⟩
  · rw [← h3]; exact readP_line hf
  · exact (by decide : ∀ t ∈ sampleLines, t.length ≤ 100) _ (List.mem_of_getElem? h2)
  · rw [← h4]; exact sample_check ⟨i + 1, by omega⟩
theorem sample_ok : ∀ x ∈ sampleL, EOk x := by
  have h : ∀ x ∈ sampleL, x.kind < 256 ∧ (Lit.int .i64 x.person).wf = true ∧ (Lit.int .i64 x.other).wf = true ∧ (Lit.int .i64 x.order).wf = true ∧ (Lit.int .i64 x.day).wf = true ∧ x.name.length ≤ 9223372036854775807 := by decide +kernel
  intro x hx
  obtain ⟨h1, h2, h3, h4, h5, h6⟩ := h x hx
  exact { kind := h1, person := h2, other := h3, order := h4, day := h5, name := h6 }
end Pe
def sampleCells : Array Value := #[.string ⟨#[48, 32, 110, 97, 109, 101, 32, 49, 32, 48, 32, 48, 32, 97, 110, 110, 32, 108, 101, 101]⟩, .string ⟨#[48, 32, 110, 97, 109, 101, 32, 50, 32, 48, 32, 48, 32, 98, 111, 98, 32, 108, 101, 101]⟩, .string ⟨#[48, 32, 108, 105, 118, 101, 32, 49, 32, 55, 32, 48, 32, 53, 48]⟩, .string ⟨#[48, 32, 108, 105, 118, 101, 32, 50, 32, 56, 32, 48, 32, 48]⟩, .string ⟨#[52, 48, 32, 108, 105, 118, 101, 32, 49, 32, 57, 32, 53, 48, 32, 48]⟩, .string ⟨#[52, 48, 32, 114, 101, 100, 105, 114, 101, 99, 116, 32, 53, 32, 49, 32, 55, 32, 49, 32, 48, 32, 53, 48, 32, 56, 48]⟩, .string ⟨#[54, 48, 32, 100, 101, 97, 116, 104, 32, 50, 32, 54, 48]⟩, .string ⟨#[54, 48, 32, 104, 101, 105, 114, 32, 50, 32, 49, 32, 54, 48, 32, 48]⟩, .string ⟨#[55, 48, 32, 114, 101, 102, 117, 115, 101, 32, 49, 32, 57, 32, 50, 32, 55, 48, 32, 55, 53]⟩]
theorem sampleCells_eq : sampleCells = (Pe.sampleLines.map fun t => Value.string (bs t)).toArray := rfl

set_option maxRecDepth 1000000 in
set_option maxHeartbeats 8000000 in
theorem sample_calls (w : World) (hL : Laid w) :
    Calls Tryz.prog 53 #[] w fun e w' => ∃ A c, e = .returned (.slice A 9 c) ∧ EntsAt w' A 9 Pe.sampleL ∧ Below w.heap.size w w' := by
  have H := Lib.hid hL
  clear hL
  go_enter Tryz.func53, Tryz.ntmps53
  go_upto_region 3 with fail
  obtain ⟨sb, hsb⟩ : ∃ sb, sb = w.heap.size := ⟨_, rfl⟩
  have hS := Blk.fresh w 9 sampleCells
  have hB1 := (Below.refl w.heap.size w).alloc (Nat.le_refl _) (.cells sampleCells 9)
  obtain ⟨w1, hw1⟩ : ∃ w1, w1 = w.alloc (.cells sampleCells 9) := ⟨_, rfl⟩
  rw [← hw1] at hS hB1
  rw [← hsb] at hS ⊢
  have H1 := Lib.hid (And.intro hB1 (And.intro hS hsb))
  unfold sampleCells at hw1
  rw [← hw1]
  clear hw1 hS hB1 hsb
  go_loopg [1, 10] 9 (fun q s1 s10 wr => ∃ (i : Nat) (A : Option Addr) (c : Nat), s1 = .slice A i c ∧ s10 = .int .i64 (i : Int) ∧ i + q = 9 ∧ Hid (EntsAt wr A i (Pe.sampleL.take i) ∧ (A = none → i = 0) ∧ Blk wr sb 9 sampleCells ∧ Below w.heap.size w wr))
  case atStart => exact ⟨0, none, 0, rfl, by go_num, by omega, Lib.hid ⟨⟨rfl, by omega, .inl rfl, fun x hx => by simp at hx⟩, fun _ => rfl, H1.out.2.1, H1.out.1⟩⟩
  case round =>
    obtain ⟨i, A, c, rfl, rfl, hi, hR⟩ := hrel
    by_cases hgo : i < 9
    case neg =>
      have hd1 : decide ((i : Int) < 9) = false := by simp; omega
      have hi9 : i = 9 := by omega
      subst hi9
      go_wp2
      go_ret
      exact ⟨A, c, rfl, hR.out.1, hR.out.2.2.2⟩
    have hd1 : decide ((i : Int) < 9) = true := by simp; omega
    obtain ⟨x, t, hx, ht, hrd, htl, hc1, hc2, htk⟩ := Pe.sample_at hgo
    have g0 : wr.cell? ⟨sb, i, none⟩ = some (.string (bs t)) := by
      rw [hR.out.2.2.1.cell i, sampleCells_eq]
      simp [ht]
    have HX := Lib.hid (And.intro hx (And.intro hc1 (And.intro hc2 htk)))
    have hrc := Read_calls t (by omega) wr (H.out.below hR.out.2.2.2)
    rw [hrd] at hrc
    have HRC := Lib.hid hrc
    clear hx ht hrd hc1 hc2 htk htl hrc
    go_wp2_with fail
    refine HRC.out.mono ?_
    rintro e w2 ⟨rfl, hb2⟩
    unfold eCells
    dsimp only
    go_upto_region 6 with fail
    obtain ⟨g, hg⟩ : ∃ g, g = w2.heap.size := ⟨_, rfl⟩
    obtain ⟨w3, hw3⟩ : ∃ w3, w3 = w2.alloc (.cells (eCells x) 31) := ⟨_, rfl⟩
    have hb3 : Below wr.heap.size wr w3 := by rw [hw3]; exact hb2.alloc hb2.size _
    have hg3 : Blk w3 g 31 (eCells x) := by rw [hw3, hg]; exact Blk.fresh _ _ _
    unfold eCells at hw3
    rw [← hg, ← hw3]
    have H3 := Lib.hid (And.intro hb3 hg3)
    clear hb2 hb3 hg3 hw3 hg g0
    have c0 : w3.cell? ⟨g, 0, none⟩ = some (.int .i64 x.day) := H3.out.2.cell 0
    have c1 : w3.cell? ⟨g, 1, none⟩ = some (.int .u8 (x.kind : Int)) := H3.out.2.cell 1
    have c2 : w3.cell? ⟨g, 2, none⟩ = some (.int .i64 x.since) := H3.out.2.cell 2
    have c3 : w3.cell? ⟨g, 3, none⟩ = some (.int .i64 x.til) := H3.out.2.cell 3
    have c4 : w3.cell? ⟨g, 4, none⟩ = some (.int .i64 x.person) := H3.out.2.cell 4
    have c5 : w3.cell? ⟨g, 5, none⟩ = some (.int .i64 x.place) := H3.out.2.cell 5
    have c6 : w3.cell? ⟨g, 6, none⟩ = some (.int .i64 x.other) := H3.out.2.cell 6
    have c7 : w3.cell? ⟨g, 7, none⟩ = some (.int .i64 x.at_) := H3.out.2.cell 7
    have c8 : w3.cell? ⟨g, 8, none⟩ = some (.int .i64 x.order) := H3.out.2.cell 8
    have c9 : w3.cell? ⟨g, 9, none⟩ = some (.string (bs x.name)) := H3.out.2.cell 9
    have hac := Append_calls A i c (Pe.sampleL.take i) x w3 (hR.out.1.below H3.out.1) hR.out.2.1 (Pe.sample_ok x (List.mem_of_getElem? HX.out.1))
    have HAC := Lib.hid hac
    clear hac
    go_wp2_with fail
    refine HAC.out.mono ?_
    rintro e w4 ⟨hb4, h4⟩
    rcases h4 with ⟨h4, _⟩ | ⟨_, h4, _⟩ | ⟨_, _, v, rfl, hown⟩
    · exact absurd HX.out.2.1 h4
    · exact absurd HX.out.2.2.1 h4
    obtain ⟨A', c', rfl, hE⟩ := own_ents hown (by rw [← HX.out.2.2.2, List.length_take]; have : Pe.sampleL.length = 9 := rfl; omega) (fun y hy => Pe.sample_ok y (by rw [← HX.out.2.2.2] at hy; exact List.mem_of_mem_take hy))
    have hA' : A' = none → i + 1 = 0 := by
      rintro rfl
      rcases hE.at_ with h0 | ⟨ad, h0, _⟩
      · simp at h0
      · cases h0
    rw [← HX.out.2.2.2] at hE
    have hbl := hR.out.2.2.2.trans ((H3.out.1.trans (hb4.mono H3.out.1.size)).mono hR.out.2.2.2.size)
    have hsb := hR.out.2.2.1.below (H3.out.1.trans (hb4.mono H3.out.1.size)) hR.out.2.2.1.lt
    have H4 := Lib.hid (And.intro hE (And.intro hA' (And.intro hsb hbl)))
    clear c0 c1 c2 c3 c4 c5 c6 c7 c8 c9
    clear hb4 hown hE hA' hbl hsb
    dsimp only
    go_wp2
    go_roundg (gk - 1)
    case measure => omega
    case rel => exact ⟨i + 1, A', c', rfl, by go_num, by omega, H4⟩

end Go.Proofs.YtnphlekailodkaaGreatDoor
