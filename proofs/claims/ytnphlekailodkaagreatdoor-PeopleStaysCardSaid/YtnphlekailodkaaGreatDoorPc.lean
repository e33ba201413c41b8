/-
  Check of the directory.
-/
import Derived.Test.YtnphlekailodkaaGreatDoorPk
namespace Go.Proofs.YtnphlekailodkaaGreatDoor
open Go.RowKit

/-- A list of entries in memory. -/
structure EntsAt (w : World) (A : Option Addr) (n : Nat) (l : List Pe.Ent) : Prop where
  len : n = l.length
  most : n ≤ 9223372036854775807
  at_ : l = [] ∨ ∃ ad, A = some ad ∧ ad.block < w.heap.size ∧ ∀ i x, l[i]? = some x → ∀ j v, (eCells x)[j]? = some v → w.cell? ((ad.add (i * 10)).add j) = some v
  ok : ∀ x ∈ l, EOk x
theorem EntsAt.below {w w' : World} {A : Option Addr} {n : Nat} {l : List Pe.Ent} (h : EntsAt w A n l) (hb : Below w.heap.size w w') : EntsAt w' A n l := by
  refine ⟨h.len, h.most, h.at_.imp id ?_, h.ok⟩
  rintro ⟨ad, hA, hl, hc⟩
  refine ⟨ad, hA, Nat.lt_of_lt_of_le hl hb.size, fun i x hi j v hv => ?_⟩
  have hbl : ((ad.add (i * 10)).add j).block = ad.block := by unfold Addr.add; split <;> split <;> rfl
  rw [hb.cell (by rw [hbl]; exact hl)]
  exact hc i x hi j v hv

set_option maxRecDepth 1000000 in
set_option maxHeartbeats 4000000 in
theorem Check_calls (A : Option Addr) (n c : Nat) (l : List Pe.Ent) (w : World) (h : EntsAt w A n l) :
    Calls Tryz.prog 112 #[.slice A n c] w fun e w' => e = .returned (.tuple #[.int .i64 ((Pe.check l).1 : Int), .int .i64 (Pe.check l).2]) ∧ Below w.heap.size w w' := by
  have H := Lib.hid h
  have hmost := h.most
  have hmm := @run_makeMap Tryz.prog
  clear h
  go_enter Tryz.func112, Tryz.ntmps112
  go_wp2_with fail
  obtain ⟨w0, hw0⟩ : ∃ w0, w0 = ((((w.alloc (.map #[] 0)).alloc (.map #[] 0)).alloc (.map #[] 0)).alloc (.map #[] 0)).alloc (.cells #[.map (some w.heap.size), .map (some (w.heap.size + 1)), .map (some (w.heap.size + 2)), .map (some (w.heap.size + 3)), .int .i64 0, .int .i64 0] 171) := ⟨_, rfl⟩
  obtain ⟨kb, hkb⟩ : ∃ kb, kb = w.heap.size + 4 := ⟨_, rfl⟩
  have hK0 : KB w0 w.heap.size kb w.heap.size (w.heap.size + 1) (w.heap.size + 2) (w.heap.size + 3) [] := by
    have s1 := ((((SetAt.made (P := Tryz.prog) (ki := 3) (kb := 4) w).alloc (.map #[] 0)).alloc (.map #[] 0)).alloc (.map #[] 0)).alloc (.cells #[.map (some w.heap.size), .map (some (w.heap.size + 1)), .map (some (w.heap.size + 2)), .map (some (w.heap.size + 3)), .int .i64 0, .int .i64 0] 171)
    have s2 := (((SetAt.made (P := Tryz.prog) (ki := 3) (kb := 4) (w.alloc (.map #[] 0))).alloc (.map #[] 0)).alloc (.map #[] 0)).alloc (.cells #[.map (some w.heap.size), .map (some (w.heap.size + 1)), .map (some (w.heap.size + 2)), .map (some (w.heap.size + 3)), .int .i64 0, .int .i64 0] 171)
    have s3 := ((SetAt.made (P := Tryz.prog) (ki := 3) (kb := 4) ((w.alloc (.map #[] 0)).alloc (.map #[] 0))).alloc (.map #[] 0)).alloc (.cells #[.map (some w.heap.size), .map (some (w.heap.size + 1)), .map (some (w.heap.size + 2)), .map (some (w.heap.size + 3)), .int .i64 0, .int .i64 0] 171)
    have s4 := (SetAt.made (P := Tryz.prog) (ki := 3) (kb := 4) (((w.alloc (.map #[] 0)).alloc (.map #[] 0)).alloc (.map #[] 0))).alloc (.cells #[.map (some w.heap.size), .map (some (w.heap.size + 1)), .map (some (w.heap.size + 2)), .map (some (w.heap.size + 3)), .int .i64 0, .int .i64 0] 171)
    simp only [World.size_alloc] at s2 s3 s4
    rw [← hw0] at s1 s2 s3 s4
    refine ⟨?_, by omega, by omega, by omega, s1.congr (fun _ => rfl), s2.congr (fun _ => rfl), s3.congr (fun _ => rfl), s4.congr (fun _ => rfl)⟩
    rw [hw0, hkb]
    have hb := Blk.fresh ((((w.alloc (.map #[] 0)).alloc (.map #[] 0)).alloc (.map #[] 0)).alloc (.map #[] 0)) 171 #[.map (some w.heap.size), .map (some (w.heap.size + 1)), .map (some (w.heap.size + 2)), .map (some (w.heap.size + 3)), .int .i64 0, .int .i64 0]
    simp only [World.size_alloc] at hb
    exact hb
  have hB0 : Below w.heap.size w w0 := by
    rw [hw0]
    exact (((((Below.refl _ w).alloc (Nat.le_refl _) _).alloc (by simp) _).alloc (by simp; omega) _).alloc (by simp; omega) _).alloc (by simp; omega) _
  rw [← hw0, ← hkb]
  have H0 := Lib.hid (And.intro hK0 (And.intro hB0 hkb))
  clear hw0 hK0 hB0 hkb hmm
  go_loopg [16] n (fun q s16 wr => ∃ i : Nat, s16 = .int .i64 (i : Int) ∧ i + q = n ∧ i ≤ 400 ∧ Hid (KB wr w.heap.size kb w.heap.size (w.heap.size + 1) (w.heap.size + 2) (w.heap.size + 3) (l.take i) ∧ Below w.heap.size w wr ∧ Pe.check l = Pe.checkFrom l i (l.drop i)))
  case atStart => exact ⟨0, by go_num, by omega, by omega, Lib.hid ⟨H0.out.1, H0.out.2.1, rfl⟩⟩
  case round =>
    obtain ⟨i, rfl, hi, hi4, hR⟩ := hrel
    by_cases hgo : i < n
    case neg =>
      have hd1 : decide ((i : Int) < (n : Int)) = false := by simp; omega
      go_wp2
      go_ret2
      have hc : Pe.check l = (0, 0) := by
        rw [hR.out.2.2, List.drop_of_length_le (by have := H.out.len; omega)]; rfl
      exact ⟨by rw [hc]; rfl, hR.out.2.1⟩
    have hd1 : decide ((i : Int) < (n : Int)) = true := by simp; omega
    obtain ⟨x, hx⟩ : ∃ x, l[i]? = some x := ⟨_, List.getElem?_eq_getElem (by have := H.out.len; omega)⟩
    obtain ⟨ad, rfl, hadl, hc⟩ := H.out.at_.resolve_left (fun e => by rw [e] at hx; cases hx)
    have hbl : ∀ j, ((ad.add (i * 10)).add j).block = ad.block := fun j => by unfold Addr.add; split <;> split <;> rfl
    have hcw : ∀ j v, (eCells x)[j]? = some v → wr.cell? ((ad.add (i * 10)).add j) = some v := fun j v hv => by
      rw [hR.out.2.1.cell (by rw [hbl]; exact hadl)]
      exact hc i x hx j v hv
    have g0 : wr.cell? (ad.add (i * 10)) = some (.int .i64 x.day) := hcw 0 _ rfl
    have g1 : wr.cell? ⟨(ad.add (i * 10)).block, (ad.add (i * 10)).off + 1, none⟩ = some (.int .u8 (x.kind : Int)) := hcw 1 _ rfl
    have g2 : wr.cell? ⟨(ad.add (i * 10)).block, (ad.add (i * 10)).off + 2, none⟩ = some (.int .i64 x.since) := hcw 2 _ rfl
    have g3 : wr.cell? ⟨(ad.add (i * 10)).block, (ad.add (i * 10)).off + 3, none⟩ = some (.int .i64 x.til) := hcw 3 _ rfl
    have g4 : wr.cell? ⟨(ad.add (i * 10)).block, (ad.add (i * 10)).off + 4, none⟩ = some (.int .i64 x.person) := hcw 4 _ rfl
    have g5 : wr.cell? ⟨(ad.add (i * 10)).block, (ad.add (i * 10)).off + 5, none⟩ = some (.int .i64 x.place) := hcw 5 _ rfl
    have g6 : wr.cell? ⟨(ad.add (i * 10)).block, (ad.add (i * 10)).off + 6, none⟩ = some (.int .i64 x.other) := hcw 6 _ rfl
    have g7 : wr.cell? ⟨(ad.add (i * 10)).block, (ad.add (i * 10)).off + 7, none⟩ = some (.int .i64 x.at_) := hcw 7 _ rfl
    have g8 : wr.cell? ⟨(ad.add (i * 10)).block, (ad.add (i * 10)).off + 8, none⟩ = some (.int .i64 x.order) := hcw 8 _ rfl
    have g9 : wr.cell? ⟨(ad.add (i * 10)).block, (ad.add (i * 10)).off + 9, none⟩ = some (.string (bs x.name)) := hcw 9 _ rfl
    have HX := Lib.hid (And.intro hx (H.out.ok x (List.mem_of_getElem? hx)))
    clear hx hc hbl hcw hadl
    go_wp2_with fail
    obtain ⟨w2, hw2⟩ : ∃ w2, w2 = wr.alloc (.cells (eCells x) 31) := ⟨_, rfl⟩
    have hB2 : Below wr.heap.size wr w2 := by rw [hw2]; exact (Below.refl _ wr).alloc (Nat.le_refl _) _
    have hsz : w.heap.size ≤ w2.heap.size := Nat.le_trans hR.out.2.1.size hB2.size
    have hap := add_calls x (hR.out.1.below hB2) HX.out.2 hsz (by rw [List.length_take]; omega)
    unfold eCells at hw2
    rw [← hw2]
    have HAP := Lib.hid (And.intro hap (hR.out.2.1.trans (hB2.mono hR.out.2.1.size)))
    clear hap hB2 hsz hw2
    refine HAP.out.1.mono ?_
    rintro e w3 ⟨rfl, hB3, hK3⟩
    have hdrop : l.drop i = x :: l.drop (i + 1) := by
      have h1 := HX.out.1
      have hl : i < l.length := (List.getElem?_eq_some_iff.1 h1).1
      rw [List.drop_eq_getElem_cons hl]
      congr 1
      rw [List.getElem?_eq_getElem hl] at h1
      injection h1
    obtain ⟨f, hf⟩ : ∃ f, f = Pe.next (l.take i) x := ⟨_, rfl⟩
    rw [← hf] at hK3 ⊢
    have hck : Pe.check l = if f ≠ 0 then (i, f) else Pe.checkFrom l (i + 1) (l.drop (i + 1)) := by
      rw [hR.out.2.2, hdrop, Pe.checkFrom, ← hf]
    have H3 := Lib.hid (And.intro hck (And.intro (HAP.out.2.trans hB3) (And.intro hK3 hf)))
    clear hck hB3 hK3 hf hdrop g0 g1 g2 g3 g4 g5 g6 g7 g8 g9
    dsimp only
    by_cases hf0 : f = 0
    case neg =>
      have hd2 : (f != 0) = true := by simpa using hf0
      have HF := Lib.hid hf0
      clear hf0
      go_wp2
      go_ret2
      exact ⟨by rw [H3.out.1, if_pos HF.out]; rfl, H3.out.2.1⟩
    subst hf0
    go_wp2
    go_roundg (gk - 1)
    case measure => omega
    case rel =>
      have hsh := Pe.next_short H3.out.2.2.2.symm
      have hll := H.out.len
      rw [List.length_take] at hsh
      refine ⟨i + 1, by go_num, by omega, by omega, Lib.hid ⟨?_, H3.out.2.1, by rw [H3.out.1, if_neg (by simp)]⟩⟩
      have := H3.out.2.2.1 (by first | trivial | rfl)
      rwa [← (Pe.take_next (x := x) (r := l.drop (i + 1)) (by
        have h1 := HX.out.1
        have hl : i < l.length := (List.getElem?_eq_some_iff.1 h1).1
        rw [List.drop_eq_getElem_cons hl]
        congr 1
        rw [List.getElem?_eq_getElem hl] at h1
        injection h1)).1] at this

end Go.Proofs.YtnphlekailodkaaGreatDoor
