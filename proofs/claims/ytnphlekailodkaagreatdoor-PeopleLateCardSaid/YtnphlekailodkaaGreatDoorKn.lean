/-
  Known of the directory and of the reference; Known returns what the reference returns: the law's walk.
-/
import Derived.Test.YtnphlekailodkaaGreatDoorLw
import Derived.Test.YtnphlekailodkaaGreatDoorSe
import Derived.Deep.AppendLies
namespace Go.Proofs.YtnphlekailodkaaGreatDoor
open Go.RowKit

namespace Pe
/-- What was known on a day. -/
def known (l : List Ent) (d : Int) : List Ent := l.takeWhile fun x => decide (x.day ≤ d)
theorem known_all {l : List Ent} {d : Int} (h : ∀ x ∈ l, x.day ≤ d) : known l d = l := by
  unfold known
  induction l with
  | nil => rfl
  | cons x r ih =>
    rw [List.takeWhile_cons, if_pos (by simpa using h x (by simp)), ih (fun y hy => h y (by simp [hy]))]
theorem known_take : ∀ {l : List Ent} {d : Int} {i : Nat} {x : Ent}, l[i]? = some x → (∀ y ∈ l.take i, y.day ≤ d) → d < x.day → known l d = l.take i
  | [], d, i, x, h, _, _ => by simp at h
  | y :: r, d, 0, x, h, _, hx => by
    simp at h
    subst h
    unfold known
    rw [List.takeWhile_cons, if_neg (by simp; omega)]; rfl
  | y :: r, d, i + 1, x, h, hy, hx => by
    have ih := known_take (l := r) (d := d) (i := i) (x := x) (by simpa using h) (fun z hz => hy z (by simp [hz])) hx
    unfold known at ih ⊢
    rw [List.takeWhile_cons, if_pos (by simpa using hy y (by simp)), ih]; rfl
theorem known_day {l : List Ent} {d : Int} : ∀ x ∈ known l d, x.day ≤ d := by
  unfold known
  induction l with
  | nil => intro x hx; cases hx
  | cons y r ih =>
    intro x hx
    by_cases h : y.day ≤ d
    · rw [List.takeWhile_cons, if_pos (by simpa using h)] at hx
      rcases List.mem_cons.1 hx with rfl | hx
      · exact h
      · exact ih x hx
    · rw [List.takeWhile_cons, if_neg (by simpa using h)] at hx
      cases hx
theorem known_less {d e : Int} (hde : e < d) : ∀ l : List Ent, known (known l d) e = known l e
  | [] => rfl
  | x :: r => by
    have ih := known_less hde r
    unfold known at ih ⊢
    by_cases h : x.day ≤ d
    · have e1 : List.takeWhile (fun x : Ent => decide (x.day ≤ d)) (x :: r) = x :: List.takeWhile (fun x : Ent => decide (x.day ≤ d)) r := by rw [List.takeWhile_cons, if_pos (by simpa using h)]
      rw [e1]
      by_cases h2 : x.day ≤ e
      · rw [List.takeWhile_cons, if_pos (by simpa using h2), ih, List.takeWhile_cons, if_pos (by simpa using h2)]
      · rw [List.takeWhile_cons, if_neg (by simpa using h2), List.takeWhile_cons, if_neg (by simpa using h2)]
    · have e1 : List.takeWhile (fun x : Ent => decide (x.day ≤ d)) (x :: r) = [] := by rw [List.takeWhile_cons, if_neg (by simpa using h)]
      rw [e1, List.takeWhile_cons, if_neg (by simp; omega)]; rfl
theorem known_known (l : List Ent) (d e : Int) : known (known l d) e = known l (if d ≤ e then d else e) := by
  by_cases h : d ≤ e
  · rw [if_pos h]
    exact known_all (fun x hx => by have := known_day x hx; omega)
  · rw [if_neg h]
    exact known_less (by omega) l
theorem known_le (l : List Ent) (d : Int) : (known l d).length ≤ l.length := List.IsPrefix.length_le (List.takeWhile_prefix _)
theorem known_mem {l : List Ent} {d : Int} {x : Ent} (h : x ∈ known l d) : x ∈ l := (List.takeWhile_prefix _).subset h
end Pe

theorem EntsAt.take {w : World} {ad : Addr} {n : Nat} {l : List Pe.Ent} (h : EntsAt w (some ad) n l) {i : Nat} (hi : i ≤ n) : EntsAt w (some ad) i (l.take i) := by
  refine ⟨by rw [List.length_take]; have := h.len; omega, by have := h.most; omega, ?_, fun x hx => h.ok x (List.mem_of_mem_take hx)⟩
  rcases h.at_ with h0 | ⟨ad', e, hl, hc⟩
  · left; rw [h0]; simp
  · right
    refine ⟨ad', e, hl, fun j x hj => hc j x ?_⟩
    rw [List.getElem?_take] at hj
    split at hj
    · exact hj
    · cases hj

set_option maxRecDepth 100000 in
set_option maxHeartbeats 2000000 in
theorem Clone_wide_calls (A : Option Addr) (n c : Nat) (l : List Pe.Ent) (w : World) (h : EntsAt w A n l) (hA : A = none → n = 0) (hn : n * 88 ≤ 140737488355328) :
    Calls Tryz.prog 52 #[.slice A n c] w fun e w' => ∃ v, e = .returned v ∧ w'.ownsRow w.heap.size 31 10 v n (eRow l) ∧ Below w.heap.size w w' := by
  have hln := h.len
  have hq : ∀ (w : World) (a : Option Addr) (n c n' c' : Nat), (binOp .eql 22 (.slice a n c) (.slice none n' c')).run Tryz.prog w = .ok (.bool a.isNone) w := fun w a n c n' c' => Lib.run_eql_slice_nil w _ _ a n c n' c' Tryz.underlying22
  cases A with
  | none =>
    have h0 := hA rfl
    have hl0 : l = [] := List.eq_nil_of_length_eq_zero (by omega)
    rw [hl0]
    subst h0
    clear h hA hln
    go_enter Tryz.func52, Tryz.ntmps52
    go_wp2
    go_ret
    exact ⟨_, rfl, World.ownsRow_nil _ _ _ _, Below.refl _ _⟩
  | some ad =>
    obtain ⟨i0, hi0, hz0, hz1, hz2⟩ := info_parts infoEntry
    have HI0 := Lib.hid (And.intro hi0 (And.intro hz0 (And.intro hz1 hz2)))
    have HS := Lib.hid (And.intro h.src hln)
    clear hi0 hz0 hz1 hz2 h hA hln
    go_enter Tryz.func52, Tryz.ntmps52
    go_wp2_with (at_builtin; refine wpList_append_own _ rfl _ _ 22 rfl w.heap.size 31 i0 _ 10 88 Tryz.underlying22 HI0.out.1 HI0.out.2.1 HI0.out.2.2.1 HI0.out.2.2.2 rfl (by decide) _ _ _ rfl (World.ownsRow_made w #[] 0 (Nat.le_refl _) (Nat.zero_le _) (by simp)) ad n c (eRow l) rfl ?qc1 ?qc2 ?qc3 ?qc4 ?qc5 ?qc6 ?_)
    case qc1 => rw [eRow_len, HS.out.2]
    case qc2 =>
      intro j u hj
      have := HS.out.1 j u hj
      rw [World.cell?_alloc_some _ _ _ (by rw [this]; rfl)]
      exact this
    case qc3 => exact eRow_one l
    case qc4 => simp only [maxLen]; omega
    case qc5 => omega
    case qc6 => simp
    intro v' w1 hown hgrow hnil
    go_wp2
    go_ret
    refine ⟨v', rfl, by simpa using hown, ?_⟩
    exact ((Below.refl _ w).alloc (Nat.le_refl _) _).grown hgrow (by simp) (by intro k hk; simp [Value.ownBlock] at hk; omega)

set_option maxRecDepth 1000000 in
set_option maxHeartbeats 4000000 in
theorem Known_calls (A : Option Addr) (n c : Nat) (l : List Pe.Ent) (d : Int) (w : World) (h : EntsAt w A n l) (hc : n ≤ c) (hA : A = none → n = 0) (hn : n * 88 ≤ 140737488355328) :
    Calls Tryz.prog 13 #[.slice A n c, .int .i64 d] w fun e w' => ∃ v, e = .returned v ∧ w'.ownsRow w.heap.size 31 10 v (Pe.known l d).length (eRow (Pe.known l d)) ∧ Below w.heap.size w w' := by
  obtain ⟨V, hV⟩ : ∃ V, V = Pe.known l d := ⟨_, rfl⟩
  rw [← hV]
  have H := Lib.hid (And.intro h (And.intro hc (And.intro hA (And.intro hn hV))))
  have hmost := h.most
  clear h hc hA hn hV
  go_enter Tryz.func13, Tryz.ntmps13
  go_wp2_with fail
  go_loopg [9] n (fun q s9 wr => ∃ i : Nat, s9 = .int .i64 (i : Int) ∧ i + q = n ∧ Hid (Below w.heap.size w wr ∧ ∀ y ∈ l.take i, y.day ≤ d))
  case atStart => exact ⟨0, by go_num, by omega, Lib.hid ⟨Below.refl _ _, by simp⟩⟩
  case round =>
    obtain ⟨i, rfl, hi, hR⟩ := hrel
    have hE := Lib.hid (H.out.1.below hR.out.1)
    by_cases hgo : i < n
    case neg =>
      have hd1 : decide ((i : Int) < (n : Int)) = false := by simp; omega
      go_wp2_with fail
      refine (Clone_wide_calls A n c l wr hE.out H.out.2.2.1 H.out.2.2.2.1).mono ?_
      rintro e w2 ⟨v, rfl, hown, hb2⟩
      have H2 := Lib.hid (And.intro hown hb2)
      clear hown hb2
      dsimp only
      go_wp2
      go_ret
      have hv : V = l := by
        rw [H.out.2.2.2.2]
        refine Pe.known_all (fun x hx => hR.out.2 x ?_)
        rw [List.take_of_length_le (by have := H.out.1.len; omega)]
        exact hx
      refine ⟨_, rfl, ?_, hR.out.1.trans (H2.out.2.mono hR.out.1.size)⟩
      rw [hv, ← H.out.1.len]
      exact own_weaken H2.out.1 hR.out.1.size
    have hd1 : decide ((i : Int) < (n : Int)) = true := by simp; omega
    obtain ⟨x, ad, hx, rfl, hok, hcw⟩ := hE.out.one hgo
    have g0 : wr.cell? (ad.add (i * 10)) = some (.int .i64 x.day) := hcw 0 _ rfl
    have g1 : wr.cell? ⟨(ad.add (i * 10)).block, (ad.add (i * 10)).off + 1, none⟩ = some (.int .u8 (x.kind : Int)) := hcw 1 _ rfl
    have g2 : wr.cell? ⟨(ad.add (i * 10)).block, (ad.add (i * 10)).off + 2, none⟩ = some (.int .i64 x.since) := hcw 2 _ rfl
    have g3 : wr.cell? ⟨(ad.add (i * 10)).block, (ad.add (i * 10)).off + 3, none⟩ = some (.int .i64 x.til) := hcw 3 _ rfl
    have g4 : wr.cell? ⟨(ad.add (i * 10)).block, (ad.add (i * 10)).off + 4, none⟩ = some (.int .i64 x.person) := hcw 4 _ rfl
    have g5 : wr.cell? ⟨(ad.add (i * 10)).block, (ad.add (i * 10)).off + 5, none⟩ = some (.int .i64 x.place) := hcw 5 _ rfl
    have g6 : wr.cell? ⟨(ad.add (i * 10)).block, (ad.add (i * 10)).off + 6, none⟩ = some (.int .i64 x.other) := hcw 6 _ rfl
    have g7 : wr.cell? ⟨(ad.add (i * 10)).block, (ad.add (i * 10)).off + 7, none⟩ = some (.int .i64 x.at_) := hcw 7 _ rfl
    have g8 : wr.cell? ⟨(ad.add (i * 10)).block, (ad.add (i * 10)).off + 8, none⟩ = some (.int .i64 x.order) := hcw 8 _ rfl
    have g9 : wr.cell? ⟨(ad.add (i * 10)).block, (ad.add (i * 10)).off + 9, none⟩ = some (.string (bs x.name)) := hcw 9 _ rfl
    have HX := Lib.hid hx
    clear hx hcw hok
    go_upto_region 4 with fail
    obtain ⟨xb, hg⟩ : ∃ g, g = wr.heap.size := ⟨_, rfl⟩
    obtain ⟨w3, hw⟩ : ∃ w0, w0 = wr.alloc (.cells (eCells x) 31) := ⟨_, rfl⟩
    have hbl : Below wr.heap.size wr w3 := by rw [hw]; exact (Below.refl _ wr).alloc (Nat.le_refl _) _
    have hgb : Blk w3 xb 31 (eCells x) := by rw [hw, hg]; exact Blk.fresh _ _ _
    unfold eCells at hw
    rw [← hg, ← hw]
    have H3 := Lib.hid (hR.out.1.trans (hbl.mono hR.out.1.size))
    have x0 : w3.cell? ⟨xb, 0, none⟩ = some (.int .i64 x.day) := hgb.cell 0
    clear g0 g1 g2 g3 g4 g5 g6 g7 g8 g9
    clear hbl hgb hg hw
    by_cases hday : d < x.day
    · have hd2 : decide (d < x.day) = true := by simpa using hday
      have HD := Lib.hid hday
      clear hday
      have hic : i ≤ c := by have := H.out.2.1; omega
      have hcl := Clone_wide_calls (some ad) i c (l.take i) w3 ((H.out.1.below H3.out).take (by omega)) (fun e => by cases e) (by have := H.out.2.2.2.1; omega)
      have HCL := Lib.hid hcl
      clear hcl
      go_wp2_with fail
      refine HCL.out.mono ?_
      rintro e w4 ⟨v, rfl, hown, hb4⟩
      have H4 := Lib.hid (And.intro hown hb4)
      clear hown hb4
      dsimp only
      go_wp2
      go_ret
      have hv : V = l.take i := by rw [H.out.2.2.2.2]; exact Pe.known_take HX.out hR.out.2 HD.out
      refine ⟨_, rfl, ?_, H3.out.trans (H4.out.2.mono H3.out.size)⟩
      rw [hv, show (l.take i).length = i by rw [List.length_take]; have := H.out.1.len; omega]
      exact own_weaken H4.out.1 H3.out.size
    · have hd2 : decide (d < x.day) = false := by simpa using hday
      have HD := Lib.hid hday
      clear hday
      go_wp2
      go_roundg (gk - 1)
      case measure => omega
      case rel =>
        refine ⟨i + 1, by go_num, by omega, Lib.hid ⟨H3.out, fun y hy => ?_⟩⟩
        rw [List.take_add_one, HX.out] at hy
        rcases List.mem_append.1 hy with hy | hy
        · exact hR.out.2 y hy
        · simp at hy
          rw [hy]
          have := HD.out
          omega

set_option maxRecDepth 1000000 in
set_option maxHeartbeats 4000000 in
theorem rKnown_calls (A : Option Addr) (n c : Nat) (l : List Pe.Ent) (d : Int) (w : World) (h : EntsAt w A n l) (hn : n * 88 ≤ 140737488355328) :
    Calls Tryz.prog 15 #[.slice A n c, .int .i64 d] w fun e w' => ∃ v, e = .returned v ∧ w'.ownsRow w.heap.size 31 10 v (Pe.known l d).length (eRow (Pe.known l d)) ∧ Below w.heap.size w w' := by
  obtain ⟨i0, hi0, hz0, hz1, hz2⟩ := info_parts infoEntry
  have HI0 := Lib.hid (And.intro hi0 (And.intro hz0 (And.intro hz1 hz2)))
  obtain ⟨V, hV⟩ : ∃ V, V = Pe.known l d := ⟨_, rfl⟩
  rw [← hV]
  have H := Lib.hid (And.intro h hV)
  have hmost := h.most
  clear hi0 hz0 hz1 hz2 h hV
  go_enter Tryz.func15, Tryz.ntmps15
  go_wp2_with fail
  go_loopg [5, 6] n (fun q s5 s6 wr => ∃ (i : Nat) (A' : Option Addr) (c' : Nat), s5 = .slice A' i c' ∧ s6 = .int .i64 (i : Int) ∧ i + q = n ∧ Hid (Below w.heap.size w wr ∧ wr.ownsRow w.heap.size 31 10 (.slice A' i c') i (eRow (l.take i)) ∧ ∀ y ∈ l.take i, y.day ≤ d))
  case atStart => exact ⟨0, none, 0, rfl, rfl, by omega, Lib.hid ⟨Below.refl _ _, World.ownsRow_nil _ _ _ _, by simp⟩⟩
  case round =>
    obtain ⟨i, A', c', rfl, rfl, hi, hR⟩ := hrel
    have hE := Lib.hid (H.out.1.below hR.out.1)
    by_cases hgo : i < n
    case neg =>
      have hd1 : decide ((i : Int) < (n : Int)) = false := by simp; omega
      have HVV := Lib.hid (show V = l.take i by
        have h1 : l.take i = l := List.take_of_length_le (by have := H.out.1.len; omega)
        rw [H.out.2, h1]
        exact Pe.known_all (fun x hx => hR.out.2.2 x (by rw [h1]; exact hx)))
      go_wp2
      go_ret
      refine ⟨_, rfl, ?_, hR.out.1⟩
      rw [HVV.out, show (l.take i).length = i by rw [List.length_take]; have := H.out.1.len; omega]
      exact hR.out.2.1
    have hd1 : decide ((i : Int) < (n : Int)) = true := by simp; omega
    obtain ⟨x, ad, hx, rfl, hok, hcw⟩ := hE.out.one hgo
    have g0 : wr.cell? (ad.add (i * 10)) = some (.int .i64 x.day) := hcw 0 _ rfl
    have g1 : wr.cell? ⟨(ad.add (i * 10)).block, (ad.add (i * 10)).off + 1, none⟩ = some (.int .u8 (x.kind : Int)) := hcw 1 _ rfl
    have g2 : wr.cell? ⟨(ad.add (i * 10)).block, (ad.add (i * 10)).off + 2, none⟩ = some (.int .i64 x.since) := hcw 2 _ rfl
    have g3 : wr.cell? ⟨(ad.add (i * 10)).block, (ad.add (i * 10)).off + 3, none⟩ = some (.int .i64 x.til) := hcw 3 _ rfl
    have g4 : wr.cell? ⟨(ad.add (i * 10)).block, (ad.add (i * 10)).off + 4, none⟩ = some (.int .i64 x.person) := hcw 4 _ rfl
    have g5 : wr.cell? ⟨(ad.add (i * 10)).block, (ad.add (i * 10)).off + 5, none⟩ = some (.int .i64 x.place) := hcw 5 _ rfl
    have g6 : wr.cell? ⟨(ad.add (i * 10)).block, (ad.add (i * 10)).off + 6, none⟩ = some (.int .i64 x.other) := hcw 6 _ rfl
    have g7 : wr.cell? ⟨(ad.add (i * 10)).block, (ad.add (i * 10)).off + 7, none⟩ = some (.int .i64 x.at_) := hcw 7 _ rfl
    have g8 : wr.cell? ⟨(ad.add (i * 10)).block, (ad.add (i * 10)).off + 8, none⟩ = some (.int .i64 x.order) := hcw 8 _ rfl
    have g9 : wr.cell? ⟨(ad.add (i * 10)).block, (ad.add (i * 10)).off + 9, none⟩ = some (.string (bs x.name)) := hcw 9 _ rfl
    have HX := Lib.hid hx
    clear hx hcw hok
    by_cases hday : x.day ≤ d
    case neg =>
      have hd2 : decide (x.day ≤ d) = false := by simpa using hday
      have HVV := Lib.hid (show V = l.take i by rw [H.out.2]; exact Pe.known_take HX.out hR.out.2.2 (by omega))
      clear hday
      go_wp2
      go_ret
      refine ⟨_, rfl, ?_, hR.out.1⟩
      rw [HVV.out, show (l.take i).length = i by rw [List.length_take]; have := H.out.1.len; omega]
      exact hR.out.2.1
    have hd2 : decide (x.day ≤ d) = true := by simpa using hday
    have HD := Lib.hid hday
    clear hday
    go_wp2_with (at_builtin; refine wpList_append_lies _ rfl _ _ 22 rfl w.heap.size 31 i0 _ 10 88 Tryz.underlying22 HI0.out.1 HI0.out.2.1 HI0.out.2.2.1 HI0.out.2.2.2 (by rfl) (by decide) (.slice A' i c') i (eRow (l.take i)) rfl (own_below hR.out.2.1 ((Below.refl _ wr).alloc (Nat.le_refl _) _)) ⟨wr.heap.size, 0, none⟩ 1 1 (eCells x).toList rfl rfl (World.news_of_block (cs := eCells x) (t := 31) (fr := (0, 0)) (heap_alloc_new wr _)) ?o1 (by decide) ?o2 ?o3 ?o4 _ rfl ?_)
    case o1 => simp [eCells, Value.oneCell']
    case o2 => simp only [maxLen]; omega
    case o3 => omega
    case o4 => have := hR.out.1.size; simp; omega
    intro gn cn W2 hown hgr _ hlt
    have HA := Lib.hid (And.intro (show W2.ownsRow w.heap.size 31 10 (.slice (some ⟨gn, 0, none⟩) (i + 1) cn) (i + 1) (eRow (l.take (i + 1))) by rw [List.take_add_one, HX.out]; show W2.ownsRow _ _ _ _ _ (eRow (l.take i ++ [x])); rw [eRow_snoc]; exact hown) ((hR.out.1.alloc hR.out.1.size _).grown hgr (hR.out.1.alloc hR.out.1.size _).size (fun z hz => (hR.out.2.1.lt z hz).1)))
    clear hown hgr hlt
    clear g0 g1 g2 g3 g4 g5 g6 g7 g8 g9
    go_wp2
    go_roundg (gk - 1)
    case measure => omega
    case rel =>
      refine ⟨i + 1, some ⟨gn, 0, none⟩, cn, rfl, by go_num, by omega, Lib.hid ⟨HA.out.2, HA.out.1, fun y hy => ?_⟩⟩
      rw [List.take_add_one, HX.out] at hy
      rcases List.mem_append.1 hy with hy | hy
      · exact hR.out.2.2 y hy
      · simp at hy
        rw [hy]
        exact HD.out

end Go.Proofs.YtnphlekailodkaaGreatDoor
