/-
  Append of the directory.
-/
import Derived.Test.YtnphlekailodkaaGreatDoorPc
import Derived.Lib.SliceRun
namespace Go.Proofs.YtnphlekailodkaaGreatDoor
open Go.RowKit

namespace Pe
theorem checkFrom_ok (l : List Ent) : ∀ (r : List Ent) (i : Nat), l.drop i = r → (checkFrom l i r).2 = 0 → ∀ j x, i ≤ j → l[j]? = some x → next (l.take j) x = 0
  | [], i, h, _, j, x, hj, hx => by
    have hl : j < l.length := (List.getElem?_eq_some_iff.1 hx).1
    have : l.length ≤ i := List.drop_eq_nil_iff.1 h
    omega
  | y :: r, i, h, he, j, x, hj, hx => by
    obtain ⟨_, h2, _, h4⟩ := take_next h
    unfold checkFrom at he
    split at he
    · rename_i hn
      exact absurd he hn
    · rename_i hn
      rw [ne_eq, Decidable.not_not] at hn
      by_cases hij : i = j
      · subst hij
        rw [h4] at hx
        cases hx
        exact hn
      · exact checkFrom_ok l r (i + 1) h2 he j x (by omega) hx
theorem check_valid {l : List Ent} (h : (check l).2 = 0) : Valid l := fun i x hx => checkFrom_ok l l 0 rfl h i x (by omega) hx
theorem Valid.short {l : List Ent} (h : Valid l) : l.length ≤ 400 := by
  by_cases hl : l.length ≤ 400
  · exact hl
  · have hx : l[400]? = some (l[400]'(by omega)) := List.getElem?_eq_getElem (by omega)
    have := next_short (h 400 _ hx)
    rw [List.length_take] at this
    omega
end Pe

theorem own_weaken {w : World} {base base' : Nat} {e : TypeId} {size n : Nat} {v : Value} {xs : List Value} (h : w.ownsRow base e size v n xs) (hb : base' ≤ base) : w.ownsRow base' e size v n xs := by
  refine ⟨h.1, h.2.imp id ?_⟩
  rintro ⟨g, cap, cur, h1, h2, h3⟩
  exact ⟨g, cap, cur, h1, Nat.le_trans hb h2, h3⟩
theorem infoEntry : (Tryz.prog.info? 31).map (fun i => (i.zero, i.size, i.bytes)) = some (some (.agg #[.int .i64 0, .int .u8 0, .int .i64 0, .int .i64 0, .int .i64 0, .int .i64 0, .int .i64 0, .int .i64 0, .int .i64 0, .string ⟨#[]⟩]), 10, 88) := by kernel_rfl
/-- The cells of a list of entries. -/
def eRow (l : List Pe.Ent) : List Value := l.flatMap fun x => (eCells x).toList
theorem eCells_size (x : Pe.Ent) : (eCells x).toList.length = 10 := rfl
theorem eRow_len (l : List Pe.Ent) : (eRow l).length = l.length * 10 := by
  induction l with
  | nil => rfl
  | cons x r ih => simp only [eRow, List.flatMap_cons, List.length_append, List.length_cons] at ih ⊢; rw [ih, eCells_size]; omega
theorem eRow_snoc (l : List Pe.Ent) (x : Pe.Ent) : eRow (l ++ [x]) = eRow l ++ (eCells x).toList := by simp [eRow]
theorem eRow_get : ∀ (l : List Pe.Ent) (k : Nat) (u : Value), (eRow l)[k]? = some u → ∃ i x j, k = i * 10 + j ∧ l[i]? = some x ∧ (eCells x)[j]? = some u
  | [], k, u, h => by simp [eRow] at h
  | x :: r, k, u, h => by
    have e : eRow (x :: r) = (eCells x).toList ++ eRow r := rfl
    rw [e] at h
    by_cases hk : k < 10
    · rw [List.getElem?_append_left (by rw [eCells_size]; exact hk)] at h
      exact ⟨0, x, k, by omega, rfl, by simpa using h⟩
    · rw [List.getElem?_append_right (by rw [eCells_size]; omega), eCells_size] at h
      obtain ⟨i, y, j, h1, h2, h3⟩ := eRow_get r (k - 10) u h
      exact ⟨i + 1, y, j, by omega, by simpa using h2, h3⟩
theorem eRow_one (l : List Pe.Ent) : ∀ u ∈ eRow l, u.oneCell' = true := by
  intro u hu
  simp only [eRow, List.mem_flatMap] at hu
  obtain ⟨x, _, hx⟩ := hu
  simp [eCells] at hx
  rcases hx with rfl | rfl | rfl | rfl | rfl | rfl | rfl | rfl | rfl | rfl <;> rfl
theorem eRow_at {l : List Pe.Ent} {i j : Nat} {x : Pe.Ent} {u : Value} (h1 : l[i]? = some x) (h2 : (eCells x)[j]? = some u) : (eRow l)[i * 10 + j]? = some u := by
  induction l generalizing i with
  | nil => simp at h1
  | cons y r ih =>
    have e : eRow (y :: r) = (eCells y).toList ++ eRow r := rfl
    have hj : j < 10 := by have := (Array.getElem?_eq_some_iff.1 h2).1; simpa [eCells] using this
    rw [e]
    cases i with
    | zero =>
      simp at h1
      subst h1
      rw [List.getElem?_append_left (by rw [eCells_size]; omega)]
      simpa using h2
    | succ i =>
      rw [List.getElem?_append_right (by rw [eCells_size]; omega), eCells_size]
      have := ih (i := i) (by simpa using h1)
      rw [show (i + 1) * 10 + j - 10 = i * 10 + j from by omega]
      exact this
theorem EntsAt.src {w : World} {ad : Addr} {n : Nat} {l : List Pe.Ent} (h : EntsAt w (some ad) n l) : ∀ k u, (eRow l)[k]? = some u → w.cell? (ad.add k) = some u := by
  intro k u hk
  obtain ⟨i, x, j, rfl, h2, h3⟩ := eRow_get l k u hk
  rcases h.at_ with h0 | ⟨ad', hA, _, hc⟩
  · rw [h0] at h2; cases h2
  · cases hA
    rw [← Addr.add_add]
    exact hc i x h2 j u h3
theorem own_ents {w : World} {base n : Nat} {v : Value} {l : List Pe.Ent} (h : w.ownsRow base 31 10 v n (eRow l)) (hn : n = l.length) (hok : ∀ x ∈ l, EOk x) : ∃ A c, v = .slice A n c ∧ EntsAt w A n l := by
  obtain ⟨A, c, rfl, hlc, hcm⟩ := own_shape h
  refine ⟨A, c, rfl, hn, by simp only [maxLen] at hcm; omega, ?_, hok⟩
  by_cases h0 : n = 0
  · left; exact List.eq_nil_of_length_eq_zero (by omega)
  · right
    obtain ⟨g, cap, hv, _, hlt, _⟩ := own_form h (by omega)
    obtain ⟨rfl, _, rfl⟩ : A = some ⟨g, 0, none⟩ ∧ n = n ∧ c = cap := by injection hv with h1 h2 h3; exact ⟨h1, h2, h3⟩
    refine ⟨_, rfl, hlt, fun i x hi j u hj => ?_⟩
    rw [Addr.add_add, Addr.add_mid, Nat.zero_add]
    have := own_range h (i * 10 + j) [u] (fun q v hv => by
      match q, hv with
      | 0, hv => simp at hv; subst hv; simpa using eRow_at hi hj) 0 _ rfl
    simpa using this

set_option maxRecDepth 100000 in
set_option maxHeartbeats 2000000 in
theorem Clone_calls (A : Option Addr) (n c : Nat) (l : List Pe.Ent) (w : World) (h : EntsAt w A n l) (hA : A = none → n = 0) (hn : n ≤ 100000) :
    Calls Tryz.prog 52 #[.slice A n c] w fun e w' => ∃ v, e = .returned v ∧ w'.ownsRow w.heap.size 31 10 v n (eRow l) ∧ Below w.heap.size w w' := by
  have hln := h.len
  have hq : ∀ (w : World) (a : Option Addr) (n c n' c' : Nat), (binOp .eql 22 (.slice a n c) (.slice none n' c')).run Tryz.prog w = .ok (.bool a.isNone) w := fun w a n c n' c' => Lib.run_eql_slice_nil w _ _ a n c n' c' Tryz.underlying22
  cases A with
  | none =>
    have h0 := hA rfl
    have hl0 : l = [] := List.eq_nil_of_length_eq_zero (by omega)
    rw [hl0]
    subst h0
    clear h hA hln
    go_enter Tryz.func52, Tryz.ntmps52
    go_wp2
    go_ret
    exact ⟨_, rfl, World.ownsRow_nil _ _ _ _, Below.refl _ _⟩
  | some ad =>
    obtain ⟨i0, hi0, hz0, hz1, hz2⟩ := info_parts infoEntry
    have HI0 := Lib.hid (And.intro hi0 (And.intro hz0 (And.intro hz1 hz2)))
    have HS := Lib.hid (And.intro h.src hln)
    clear hi0 hz0 hz1 hz2 h hA hln
    go_enter Tryz.func52, Tryz.ntmps52
    go_wp2_with (at_builtin; refine wpList_append_own _ rfl _ _ 22 rfl w.heap.size 31 i0 _ 10 88 Tryz.underlying22 HI0.out.1 HI0.out.2.1 HI0.out.2.2.1 HI0.out.2.2.2 rfl (by decide) _ _ _ rfl (World.ownsRow_made w #[] 0 (Nat.le_refl _) (Nat.zero_le _) (by simp)) ad n c (eRow l) rfl ?qc1 ?qc2 ?qc3 ?qc4 ?qc5 ?qc6 ?_)
    case qc1 => rw [eRow_len, HS.out.2]
    case qc2 =>
      intro j u hj
      have := HS.out.1 j u hj
      rw [World.cell?_alloc_some _ _ _ (by rw [this]; rfl)]
      exact this
    case qc3 => exact eRow_one l
    case qc4 => simp only [maxLen]; omega
    case qc5 => omega
    case qc6 => simp
    intro v' w1 hown hgrow hnil
    go_wp2
    go_ret
    refine ⟨v', rfl, by simpa using hown, ?_⟩
    exact ((Below.refl _ w).alloc (Nat.le_refl _) _).grown hgrow (by simp) (by intro k hk; simp [Value.ownBlock] at hk; omega)

set_option maxRecDepth 1000000 in
set_option maxHeartbeats 4000000 in
theorem Append_calls (A : Option Addr) (n c : Nat) (l : List Pe.Ent) (x : Pe.Ent) (w : World) (h : EntsAt w A n l) (hA : A = none → n = 0) (hx : EOk x) :
    Calls Tryz.prog 84 #[.slice A n c, .agg (eCells x)] w fun e w' => Below w.heap.size w w' ∧
      (((Pe.check l).2 ≠ 0 ∧ e = .returned (.tuple #[.slice none 0 0, .int .i64 (Pe.check l).2])) ∨
       ((Pe.check l).2 = 0 ∧ (Pe.check (l ++ [x])).2 ≠ 0 ∧ e = .returned (.tuple #[.slice none 0 0, .int .i64 (Pe.check (l ++ [x])).2])) ∨
       ((Pe.check l).2 = 0 ∧ (Pe.check (l ++ [x])).2 = 0 ∧ ∃ v, e = .returned (.tuple #[v, .int .i64 0]) ∧ w'.ownsRow w.heap.size 31 10 v (n + 1) (eRow (l ++ [x])))) := by
  obtain ⟨i0, hi0, hz0, hz1, hz2⟩ := info_parts infoEntry
  have HI0 := Lib.hid (And.intro hi0 (And.intro hz0 (And.intro hz1 hz2)))
  obtain ⟨f, hf⟩ : ∃ f, f = (Pe.check l).2 := ⟨_, rfl⟩
  obtain ⟨f0, hf00⟩ : ∃ f0, f0 = (Pe.check l).1 := ⟨_, rfl⟩
  have hcc := fun w0 (hb : Below w.heap.size w w0) => Check_calls A n c l w0 (h.below hb)
  obtain ⟨f2, hf2⟩ : ∃ f2, f2 = (Pe.check (l ++ [x])).2 := ⟨_, rfl⟩
  rw [← hf] at hcc ⊢
  rw [← hf2]
  rw [← hf00] at hcc
  have H := Lib.hid (And.intro h (And.intro hA (And.intro hx (And.intro hf hcc))))
  have HF2 := Lib.hid hf2
  clear hi0 hz0 hz1 hz2 h hA hx hf hcc hf00 hf2
  go_enter Tryz.func84, Tryz.ntmps84
  unfold eCells
  go_wp2_with fail
  obtain ⟨ex, hex⟩ : ∃ ex, ex = w.heap.size := ⟨_, rfl⟩
  obtain ⟨w0, hw0⟩ : ∃ w0, w0 = w.alloc (.cells (eCells x) 31) := ⟨_, rfl⟩
  have hB0 : Below w.heap.size w w0 := by rw [hw0]; exact (Below.refl _ w).alloc (Nat.le_refl _) _
  have hE0 : Blk w0 ex 31 (eCells x) := by rw [hw0, hex]; exact Blk.fresh _ _ _
  unfold eCells at hw0
  rw [← hw0, ← hex]
  have H0 := Lib.hid (And.intro hB0 (And.intro hE0 hex))
  clear hB0 hE0 hw0 hex
  refine (H.out.2.2.2.2 w0 H0.out.1).mono ?_
  rintro e w1 ⟨rfl, hB1⟩
  have H1 := Lib.hid (And.intro (H0.out.1.trans (hB1.mono H0.out.1.size)) (H0.out.2.1.below hB1 H0.out.2.1.lt))
  clear hB1
  dsimp only
  by_cases hf0 : f = 0
  case neg =>
    have hd1 : (f != 0) = true := by simpa using hf0
    have HF := Lib.hid hf0
    clear hf0
    go_wp2
    go_ret2
    exact ⟨H1.out.1, .inl ⟨HF.out, rfl⟩⟩
  subst hf0
  have hshort := (Pe.check_valid H.out.2.2.2.1.symm).short
  have hn4 : n ≤ 400 := by rw [H.out.1.len]; exact hshort
  clear hshort
  go_upto_region 4 with fail
  go_cut [8] (fun s8 wx => ∃ g cap : Nat, s8 = .slice (some ⟨g, 0, none⟩) (n + 1) cap ∧ Hid (wx.ownsRow w.heap.size 31 10 (.slice (some ⟨g, 0, none⟩) (n + 1) cap) (n + 1) (eRow (l ++ [x])) ∧ Below w.heap.size w wx))
  case first =>
    refine wp_region_R (RL [(2, fun w' => Blk w' ex 31 (eCells x))]) (by kernel_rfl) (RL_cons (H1.out.2.heap rfl) (RL_nil _)) (fun hp => ?_)
    refine wpAnyR_take (i := 0) (oi := ⟨some 19, _, _, _, _, _⟩) (v := ?_) rfl (by kernel_rfl) (by kernel_rfl) (by kernel_rfl) (fun _ _ _ h => h) hp (.inl ⟨by rfl, fun w _ => ?_⟩) (fun hq => ?_)
    rotate_left
    · go_simp
      with_reducible rfl
    clear hp; have hp := hq; clear hq
    try simp only [Act.put, List.setIfInBounds_toArray, List.set_cons_zero, List.set_cons_succ]
    refine wpAnyR_take (i := 2) (oi := ⟨some 21, _, _, _, _, _⟩) (v := ?_) rfl (by kernel_rfl) (by kernel_rfl) (by kernel_rfl) (fun _ _ _ h => h) hp (.inl ⟨by rfl, fun w hR => ?_⟩) (fun hq => ?_)
    rotate_left
    · have hR := hR.1 rfl
      (try dsimp only at hR)
      have h0 : w.cell? ⟨ex, 0, none⟩ = some (.int .i64 x.day) := hR.cell 0
      have h1 : w.cell? ⟨ex, 1, none⟩ = some (.int .u8 (x.kind : Int)) := hR.cell 1
      have h2 : w.cell? ⟨ex, 2, none⟩ = some (.int .i64 x.since) := hR.cell 2
      have h3 : w.cell? ⟨ex, 3, none⟩ = some (.int .i64 x.til) := hR.cell 3
      have h4 : w.cell? ⟨ex, 4, none⟩ = some (.int .i64 x.person) := hR.cell 4
      have h5 : w.cell? ⟨ex, 5, none⟩ = some (.int .i64 x.place) := hR.cell 5
      have h6 : w.cell? ⟨ex, 6, none⟩ = some (.int .i64 x.other) := hR.cell 6
      have h7 : w.cell? ⟨ex, 7, none⟩ = some (.int .i64 x.at_) := hR.cell 7
      have h8 : w.cell? ⟨ex, 8, none⟩ = some (.int .i64 x.order) := hR.cell 8
      have h9 : w.cell? ⟨ex, 9, none⟩ = some (.string (bs x.name)) := hR.cell 9
      clear hR
      go_simp
      with_reducible rfl
    clear hp; have hp := hq; clear hq
    try simp only [Act.put, List.setIfInBounds_toArray, List.set_cons_zero, List.set_cons_succ]
    refine wpAnyR_two (i := 1) (j := 3) (by kernel_rfl) ?_ ?_
    refine stepR (i := 1) (o := ⟨some 20, _, _, _, _, _⟩) rfl (by rfl) (fun K hK => ?_) -- Op.call { callee := Callee.value (Operand.func 52), args := #[Operand.tmp 19], argTypes := #[22] }
    go_simp
    have BW1 : Below w.heap.size w w1.drew := H1.out.1.drew
    have BW2 : Below w.heap.size w (w1.drew.alloc (.cells (eCells x) 31)) := BW1.alloc BW1.size _
    have KW1 : Blk w1.drew ex 31 (eCells x) := H1.out.2.drew
    have KW2 : Blk (w1.drew.alloc (.cells (eCells x) 31)) ex 31 (eCells x) := KW1.alloc _
    refine (Clone_calls A n c l _ (H.out.1.below (by first | exact BW1 | exact BW2)) H.out.2.1 (by omega)).mono ?_
    rintro e w3 ⟨v3, rfl, hown3, hB3⟩
    show K _ _
    have hS2 : Blk w3 ex 31 (eCells x) := by first | exact KW1.below hB3 KW1.lt | exact KW2.below hB3 KW2.lt
    have hW3 : Below w.heap.size w w3 := by first | exact BW1.trans (hB3.mono BW1.size) | exact BW2.trans (hB3.mono BW2.size)
    have hO3 : w3.ownsRow w.heap.size 31 10 v3 n (eRow l) := by first | exact own_weaken hown3 BW1.size | exact own_weaken hown3 BW2.size
    have HZ3 := Lib.hid (And.intro hW3 (And.intro hO3 hB3))
    clear BW1 BW2 KW1 KW2 hown3 hB3 hW3 hO3
    refine hK _ _ (pend_on hS2 pend_nil) (fun hq => ?_)
    clear hp hK K; have hp := hq; clear hq
    try simp only [Act.put, List.setIfInBounds_toArray, List.set_cons_zero, List.set_cons_succ]
    refine wpAnyR_step (i := 3) (o := ⟨some 22, _, _, _, _, _⟩) (by kernel_rfl) rfl (by rfl) (fun K hK => ?_) -- Op.buildSlice 22 1 #[(0, Operand.tmp 21)]
    go_simp
    have hS2 : Blk w1.drew ex 31 (eCells x) := H1.out.2.drew
    refine hK _ _ (pend_off (by kernel_rfl) pend_nil) (fun hq => ?_)
    clear hp hK K; have hp := hq; clear hq
    try simp only [Act.put, List.setIfInBounds_toArray, List.set_cons_zero, List.set_cons_succ]
    refine wpAnyR_step (i := 4) (o := ⟨some 23, _, _, _, _, _⟩) (by kernel_rfl) rfl (by rfl) (fun K hK => ?_) -- Op.call { callee := Callee.builtin Builtin.append, args := #[Operand.tmp 20, Operand.tmp 22], argTypes := #[22
    first
      | (refine wp_append_lies _ _ _ _ rfl w.heap.size 31 i0 _ 10 88 Tryz.underlying22 HI0.out.1 HI0.out.2.1 HI0.out.2.2.1 HI0.out.2.2.2 (by rfl) (by omega) v3 n (eRow l) rfl (HZ3.out.2.1.alloc _) ⟨w3.heap.size, 0, none⟩ 1 1 (eCells x).toList rfl rfl (World.news_of_block (cs := eCells x) (t := 31) (fr := (0, 0)) (heap_alloc_new w3 _)) (by have := eRow_one [x]; simpa [eRow] using this) (by omega) (by simp only [maxLen]; omega) (by omega) (by have := HZ3.out.1.size; simp; omega) _ rfl ?_
         intro g4 cap4 w4 hown4 hgrow4 hat4 hlt4
         have hW4 : Below w.heap.size w w4 := (HZ3.out.1.alloc HZ3.out.1.size _).grown hgrow4 (by have := HZ3.out.1.size; simp; omega) (fun k hk => (HZ3.out.2.1.lt k hk).1)
         have HZ4 := Lib.hid (And.intro hown4 hW4))
      | (have hnb : Blk w3 w1.heap.size 31 (eCells x) := (Blk.fresh w1.drew 31 (eCells x)).below HZ3.out.2.2 (by simp)
         refine wp_append_lies _ _ _ _ rfl w.heap.size 31 i0 _ 10 88 Tryz.underlying22 HI0.out.1 HI0.out.2.1 HI0.out.2.2.1 HI0.out.2.2.2 (by rfl) (by omega) v3 n (eRow l) rfl HZ3.out.2.1 ⟨w1.heap.size, 0, none⟩ 1 1 (eCells x).toList rfl rfl (World.news_of_block (cs := eCells x) (t := 31) (fr := (0, 0)) hnb) (by have := eRow_one [x]; simpa [eRow] using this) (by omega) (by simp only [maxLen]; omega) (by omega) HZ3.out.1.size _ rfl ?_
         intro g4 cap4 w4 hown4 hgrow4 hat4 hlt4
         have hW4 : Below w.heap.size w w4 := HZ3.out.1.grown hgrow4 HZ3.out.1.size (fun k hk => (HZ3.out.2.1.lt k hk).1)
         have HZ4 := Lib.hid (And.intro hown4 hW4))
    refine hK _ _ (pend_off (by kernel_rfl) pend_nil) (fun hq => ?_)
    clear hp hK K; have hp := hq; clear hq
    try simp only [Act.put, List.setIfInBounds_toArray, List.set_cons_zero, List.set_cons_succ]
    refine wpAnyR_take (i := 5) (oi := ⟨some 8, _, _, _, _, _⟩) (v := ?_) rfl (by kernel_rfl) (by kernel_rfl) (by kernel_rfl) (fun _ _ _ h => h) hp (.inl ⟨by rfl, fun w _ => ?_⟩) (fun hq => ?_)
    rotate_left
    · go_simp
      with_reducible rfl
    clear hp; have hp := hq; clear hq
    try simp only [Act.put, List.setIfInBounds_toArray, List.set_cons_zero, List.set_cons_succ]
    refine wpAnyR_done (by kernel_rfl) ?_ _
    clear hp
    rotate_left
    refine stepR (i := 3) (o := ⟨some 22, _, _, _, _, _⟩) rfl (by rfl) (fun K hK => ?_) -- Op.buildSlice 22 1 #[(0, Operand.tmp 21)]
    go_simp
    have hS2 : Blk w1.drew ex 31 (eCells x) := H1.out.2.drew
    refine hK _ _ (pend_off (by kernel_rfl) pend_nil) (fun hq => ?_)
    clear hp hK K; have hp := hq; clear hq
    try simp only [Act.put, List.setIfInBounds_toArray, List.set_cons_zero, List.set_cons_succ]
    refine wpAnyR_step (i := 1) (o := ⟨some 20, _, _, _, _, _⟩) (by kernel_rfl) rfl (by rfl) (fun K hK => ?_) -- Op.call { callee := Callee.value (Operand.func 52), args := #[Operand.tmp 19], argTypes := #[22] }
    go_simp
    have BW1 : Below w.heap.size w w1.drew := H1.out.1.drew
    have BW2 : Below w.heap.size w (w1.drew.alloc (.cells (eCells x) 31)) := BW1.alloc BW1.size _
    have KW1 : Blk w1.drew ex 31 (eCells x) := H1.out.2.drew
    have KW2 : Blk (w1.drew.alloc (.cells (eCells x) 31)) ex 31 (eCells x) := KW1.alloc _
    refine (Clone_calls A n c l _ (H.out.1.below (by first | exact BW1 | exact BW2)) H.out.2.1 (by omega)).mono ?_
    rintro e w3 ⟨v3, rfl, hown3, hB3⟩
    show K _ _
    have hS2 : Blk w3 ex 31 (eCells x) := by first | exact KW1.below hB3 KW1.lt | exact KW2.below hB3 KW2.lt
    have hW3 : Below w.heap.size w w3 := by first | exact BW1.trans (hB3.mono BW1.size) | exact BW2.trans (hB3.mono BW2.size)
    have hO3 : w3.ownsRow w.heap.size 31 10 v3 n (eRow l) := by first | exact own_weaken hown3 BW1.size | exact own_weaken hown3 BW2.size
    have HZ3 := Lib.hid (And.intro hW3 (And.intro hO3 hB3))
    clear BW1 BW2 KW1 KW2 hown3 hB3 hW3 hO3
    refine hK _ _ (pend_off (by kernel_rfl) pend_nil) (fun hq => ?_)
    clear hp hK K; have hp := hq; clear hq
    try simp only [Act.put, List.setIfInBounds_toArray, List.set_cons_zero, List.set_cons_succ]
    refine wpAnyR_step (i := 4) (o := ⟨some 23, _, _, _, _, _⟩) (by kernel_rfl) rfl (by rfl) (fun K hK => ?_) -- Op.call { callee := Callee.builtin Builtin.append, args := #[Operand.tmp 20, Operand.tmp 22], argTypes := #[22
    first
      | (refine wp_append_lies _ _ _ _ rfl w.heap.size 31 i0 _ 10 88 Tryz.underlying22 HI0.out.1 HI0.out.2.1 HI0.out.2.2.1 HI0.out.2.2.2 (by rfl) (by omega) v3 n (eRow l) rfl (HZ3.out.2.1.alloc _) ⟨w3.heap.size, 0, none⟩ 1 1 (eCells x).toList rfl rfl (World.news_of_block (cs := eCells x) (t := 31) (fr := (0, 0)) (heap_alloc_new w3 _)) (by have := eRow_one [x]; simpa [eRow] using this) (by omega) (by simp only [maxLen]; omega) (by omega) (by have := HZ3.out.1.size; simp; omega) _ rfl ?_
         intro g4 cap4 w4 hown4 hgrow4 hat4 hlt4
         have hW4 : Below w.heap.size w w4 := (HZ3.out.1.alloc HZ3.out.1.size _).grown hgrow4 (by have := HZ3.out.1.size; simp; omega) (fun k hk => (HZ3.out.2.1.lt k hk).1)
         have HZ4 := Lib.hid (And.intro hown4 hW4))
      | (have hnb : Blk w3 w1.heap.size 31 (eCells x) := (Blk.fresh w1.drew 31 (eCells x)).below HZ3.out.2.2 (by simp)
         refine wp_append_lies _ _ _ _ rfl w.heap.size 31 i0 _ 10 88 Tryz.underlying22 HI0.out.1 HI0.out.2.1 HI0.out.2.2.1 HI0.out.2.2.2 (by rfl) (by omega) v3 n (eRow l) rfl HZ3.out.2.1 ⟨w1.heap.size, 0, none⟩ 1 1 (eCells x).toList rfl rfl (World.news_of_block (cs := eCells x) (t := 31) (fr := (0, 0)) hnb) (by have := eRow_one [x]; simpa [eRow] using this) (by omega) (by simp only [maxLen]; omega) (by omega) HZ3.out.1.size _ rfl ?_
         intro g4 cap4 w4 hown4 hgrow4 hat4 hlt4
         have hW4 : Below w.heap.size w w4 := HZ3.out.1.grown hgrow4 HZ3.out.1.size (fun k hk => (HZ3.out.2.1.lt k hk).1)
         have HZ4 := Lib.hid (And.intro hown4 hW4))
    refine hK _ _ (pend_off (by kernel_rfl) pend_nil) (fun hq => ?_)
    clear hp hK K; have hp := hq; clear hq
    try simp only [Act.put, List.setIfInBounds_toArray, List.set_cons_zero, List.set_cons_succ]
    refine wpAnyR_take (i := 5) (oi := ⟨some 8, _, _, _, _, _⟩) (v := ?_) rfl (by kernel_rfl) (by kernel_rfl) (by kernel_rfl) (fun _ _ _ h => h) hp (.inl ⟨by rfl, fun w _ => ?_⟩) (fun hq => ?_)
    rotate_left
    · go_simp
      with_reducible rfl
    clear hp; have hp := hq; clear hq
    try simp only [Act.put, List.setIfInBounds_toArray, List.set_cons_zero, List.set_cons_succ]
    refine wpAnyR_done (by kernel_rfl) ?_ _
    clear hp
    all_goals
      go_wp2_with fail
      go_meet
      exact ⟨g4, cap4, rfl, Lib.hid ⟨by rw [eRow_snoc]; exact HZ4.out.1, HZ4.out.2⟩⟩
  case rest =>
  obtain ⟨g, cap, rfl, HZ⟩ := hcut
  have hlen1 : n + 1 = (l ++ [x]).length := by have := H.out.1.len; simp; omega
  obtain ⟨A2, c2, hv2, hE2⟩ := own_ents HZ.out.1 hlen1 (fun y hy => by
    rcases List.mem_append.1 hy with hy | hy
    · exact H.out.1.ok y hy
    · rw [List.mem_singleton.1 hy]; exact H.out.2.2.1)
  obtain ⟨rfl, _, rfl⟩ : some ⟨g, 0, none⟩ = A2 ∧ n + 1 = n + 1 ∧ cap = c2 := by injection hv2 with h1 h2 h3; exact ⟨h1, h2, h3⟩
  have hc2 := Check_calls (some ⟨g, 0, none⟩) (n + 1) cap (l ++ [x]) wc hE2
  rw [← HF2.out] at hc2
  have HC2 := Lib.hid hc2
  clear hc2 hE2 hv2 hlen1
  apply_assumption
  go_wp2_with fail
  refine HC2.out.mono ?_
  rintro e w5 ⟨rfl, hB5⟩
  have H5 := Lib.hid (And.intro (HZ.out.2.trans (hB5.mono HZ.out.2.size)) hB5)
  clear hB5
  dsimp only
  by_cases hf2 : f2 = 0
  case neg =>
    have hd1 : (f2 != 0) = true := by simpa using hf2
    have HF := Lib.hid hf2
    clear hf2
    go_wp2
    go_ret2
    refine ⟨H5.out.1, ?_⟩
    first | exact .inl ⟨HF.out, rfl⟩ | exact .inr (.inl ⟨rfl, HF.out, rfl⟩)
  subst hf2
  go_wp2
  go_ret2
  have hown5 := (Chg.of_below (fp := fun _ => False) (a := wc) H5.out.2).own HZ.out.1 (fun _ _ h => h)
  refine ⟨H5.out.1, ?_⟩
  first | exact ⟨_, rfl, hown5⟩ | exact .inr ⟨rfl, _, rfl, hown5⟩ | exact .inr (.inr ⟨rfl, rfl, _, rfl, hown5⟩)

end Go.Proofs.YtnphlekailodkaaGreatDoor
