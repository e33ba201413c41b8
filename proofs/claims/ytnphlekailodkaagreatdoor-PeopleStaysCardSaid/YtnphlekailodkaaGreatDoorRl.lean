/-
  The reference's First, walked; a pair put into a sorted list, in plain Lean. The reference's circle, walked. Circles of a partial function, in plain Lean: a circle, its turns, and that two circles with a common element are one. No program in sight. The circles of hops, in plain Lean: the reference's list of them, and that what the directory finds is the same. No program in sight. Lists of lists of pairs, in memory.
-/
import Derived.Test.YtnphlekailodkaaGreatDoorDw
import Derived.Test.YtnphlekailodkaaGreatDoorRp6
import Derived.WalkKit
import Derived.Test.YtnphlekailodkaaGreatDoorAg
namespace Go.Proofs.YtnphlekailodkaaGreatDoor
open Go.RowKit

namespace Pe
/-- A pair comes before another one. -/
def firstP (a b : Pair) : Bool := decide (a.1 < b.1) || (a.1 == b.1 && decide (a.2 < b.2))
theorem firstP_iff (a b : Pair) : firstP a b = true ↔ ltP a b := by
  unfold firstP ltP
  simp only [Bool.or_eq_true, Bool.and_eq_true, decide_eq_true_eq, beq_iff_eq]
/-- A pair put before the first one that is not less; not again if it is there. -/
def insP (c : Pair) : List Pair → List Pair
  | [] => [c]
  | x :: r => if firstP c x = true ∨ c = x then (if c = x then x :: r else c :: x :: r) else x :: insP c r
theorem mem_insP (c z : Pair) : ∀ l : List Pair, z ∈ insP c l ↔ z = c ∨ z ∈ l
  | [] => by simp [insP]
  | x :: r => by
    unfold insP
    split
    · split
      · rename_i h; subst h; simp
      · simp
    · rw [List.mem_cons, mem_insP c z r, List.mem_cons]
      constructor
      · rintro (h | h | h) <;> simp [h]
      · rintro (h | h | h) <;> simp [h]
theorem insP_less {c : Pair} : ∀ {a : List Pair} (b : List Pair), (∀ x ∈ a, ¬ (firstP c x = true ∨ c = x)) → insP c (a ++ b) = a ++ insP c b
  | [], b, _ => rfl
  | x :: a, b, h => by
    have e : insP c (x :: (a ++ b)) = if firstP c x = true ∨ c = x then (if c = x then x :: (a ++ b) else c :: x :: (a ++ b)) else x :: insP c (a ++ b) := rfl
    rw [List.cons_append, e, if_neg (h x (by simp)), insP_less b (fun y hy => h y (by simp [hy])), List.cons_append]
theorem insP_done {c : Pair} : ∀ {a : List Pair} (b : List Pair), (∃ x ∈ a, firstP c x = true ∨ c = x) → insP c (a ++ b) = insP c a ++ b
  | [], b, h => by obtain ⟨x, hx, _⟩ := h; cases hx
  | x :: a, b, h => by
    rw [List.cons_append]
    unfold insP
    by_cases hx : firstP c x = true ∨ c = x
    · rw [if_pos hx, if_pos hx]
      split <;> rfl
    · rw [if_neg hx, if_neg hx]
      obtain ⟨y, hy, hn⟩ := h
      rcases List.mem_cons.1 hy with rfl | hy
      · exact absurd hn hx
      · rw [insP_done b ⟨y, hy, hn⟩]; rfl
theorem insP_length (c : Pair) : ∀ l : List Pair, (insP c l).length ≤ l.length + 1
  | [] => by simp [insP]
  | x :: r => by
    unfold insP
    have := insP_length c r
    split
    · split <;> simp
    · simp; omega
theorem insP_sorted (c : Pair) : ∀ {l : List Pair}, l.Pairwise ltP → (insP c l).Pairwise ltP
  | [], _ => by simp [insP]
  | x :: r, h => by
    have h' := h
    rw [List.pairwise_cons] at h
    unfold insP
    split
    · rename_i hle
      split
      · exact h'
      · rename_i hne
        have hcx : ltP c x := by
          rcases hle with hle | hle
          · exact (firstP_iff c x).1 hle
          · exact absurd hle hne
        rw [List.pairwise_cons]
        refine ⟨fun z hz => ?_, h'⟩
        rcases List.mem_cons.1 hz with rfl | hz
        · exact hcx
        · exact ltP_tr _ _ _ hcx (h.1 z hz)
    · rename_i hlt
      rw [List.pairwise_cons]
      refine ⟨fun z hz => ?_, insP_sorted c h.2⟩
      rcases (mem_insP c z r).1 hz with rfl | hz
      · have h1 : ¬ ltP z x := fun h => hlt (.inl ((firstP_iff z x).2 h))
        have h2 : z ≠ x := fun h => hlt (.inr h)
        unfold ltP at *
        by_cases e1 : x.1 = z.1
        · refine .inr ⟨e1, ?_⟩
          have : x.2 ≠ z.2 := fun e2 => h2 (Prod.ext e1.symm e2.symm)
          omega
        · omega
      · exact h.1 z hz
end Pe

set_option maxRecDepth 1000000 in
set_option maxHeartbeats 4000000 in
theorem rFirst_calls (x y : Pe.Pair) (w : World) :
    Calls Tryz.prog 100 #[.agg (pCells x), .agg (pCells y)] w fun e w' => e = .returned (.bool (Pe.firstP x y)) ∧ Below w.heap.size w w' := by
  obtain ⟨V, hV⟩ : ∃ V, V = Pe.firstP x y := ⟨_, rfl⟩
  rw [← hV]
  unfold Pe.firstP at hV
  have HV := Lib.hid hV
  clear hV
  go_enter Tryz.func100, Tryz.ntmps100
  unfold pCells
  go_upto_region 1 with fail
  obtain ⟨b, hb⟩ : ∃ b, b = w.heap.size := ⟨_, rfl⟩
  obtain ⟨w1, hw1⟩ : ∃ w1, w1 = (w.alloc (.cells (pCells x) 28)).alloc (.cells (pCells y) 28) := ⟨_, rfl⟩
  have hB1 : Below w.heap.size w w1 := by rw [hw1]; exact ((Below.refl _ w).alloc (Nat.le_refl _) _).alloc (by simp) _
  have hc1 : Blk w1 b 28 (pCells x) := by rw [hw1, hb]; exact (Blk.fresh w _ _).alloc _
  have hr1 : Blk w1 (b + 1) 28 (pCells y) := by rw [hw1, hb]; have := Blk.fresh (w.alloc (.cells (pCells x) 28)) 28 (pCells y); simpa using this
  unfold pCells at hw1
  rw [← hb, ← hw1]
  have H1 := Lib.hid hB1
  have x0 : w1.cell? ⟨b, 0, none⟩ = some (.int .i64 x.1) := hc1.cell 0
  have x1 : w1.cell? ⟨b, 1, none⟩ = some (.int .i64 x.2) := hc1.cell 1
  have y0 : w1.cell? ⟨b + 1, 0, none⟩ = some (.int .i64 y.1) := hr1.cell 0
  have y1 : w1.cell? ⟨b + 1, 1, none⟩ = some (.int .i64 y.2) := hr1.cell 1
  clear hB1 hc1 hr1 hw1 hb
  cases h1 : decide (x.1 < y.1)
  · cases h2 : (x.1 == y.1)
    · have HQ := Lib.hid (And.intro h1 h2)
      go_wp2
      go_ret
      exact ⟨by rw [HV.out, HQ.out.1, HQ.out.2]; rfl, H1.out⟩
    · cases h3 : decide (x.2 < y.2)
      all_goals
        have HQ := Lib.hid (And.intro h1 (And.intro h2 h3))
        go_wp2
        go_ret
        exact ⟨by rw [HV.out, HQ.out.1, HQ.out.2.1, HQ.out.2.2]; rfl, H1.out⟩
  · have HQ := Lib.hid h1
    go_wp2
    go_ret
    exact ⟨by rw [HV.out, HQ.out]; rfl, H1.out⟩

theorem Pe.take_gp {l : List Pe.Pair} {i : Nat} {y : Pe.Pair} (h : l[i]? = some y) : l.take (i + 1) = l.take i ++ [y] := by rw [List.take_add_one, h]; rfl
set_option maxRecDepth 1000000 in
set_option maxHeartbeats 8000000 in
theorem raddedPair_calls (A : Option Addr) (m c : Nat) (l : List Pe.Pair) (k : Pe.Pair) (w : World) (h : PairsAt w A m l) (hm : m ≤ 100000) :
    Calls Tryz.prog 73 #[.slice A m c, .agg (pCells k)] w fun e w' => ∃ v, e = .returned v ∧ w'.ownsRow w.heap.size 28 2 v (Pe.insP k l).length (pRow (Pe.insP k l)) ∧ Below w.heap.size w w' := by
  obtain ⟨i0, hi0, hz0, hz1, hz2⟩ := info_parts infoCandN
  have HI0 := Lib.hid (And.intro hi0 (And.intro hz0 (And.intro hz1 hz2)))
  have H := Lib.hid h
  clear hi0 hz0 hz1 hz2 h
  go_enter Tryz.func73, Tryz.ntmps73
  unfold pCells
  go_upto_region 1 with fail
  obtain ⟨b, hb⟩ : ∃ b, b = w.heap.size := ⟨_, rfl⟩
  obtain ⟨w1, hw1⟩ : ∃ w1, w1 = w.alloc (.cells (pCells k) 28) := ⟨_, rfl⟩
  have hb1 : Below w.heap.size w w1 := by rw [hw1]; exact (Below.refl _ w).alloc (Nat.le_refl _) _
  have hc1 : Blk w1 b 28 (pCells k) := by rw [hw1, hb]; exact Blk.fresh _ _ _
  unfold pCells at hw1
  rw [← hb, ← hw1]
  obtain ⟨e1, he1⟩ : ∃ e1, e1 = w1.heap.size := ⟨_, rfl⟩
  have hbe : b < e1 := by rw [he1]; exact hc1.lt
  have hwe : w.heap.size ≤ e1 := by rw [he1]; exact hb1.size
  have H1 := Lib.hid (And.intro hb1 (And.intro hc1 he1))
  clear hb1 hc1 hw1 hb he1
  go_wp2_with fail
  go_loopg [5, 6, 7] m (fun q s5 s6 s7 wr => ∃ (i : Nat) (dn : Bool) (o : List Pe.Pair) (A' : Option Addr) (n' c' : Nat), s5 = .slice A' n' c' ∧ s6 = .bool dn ∧ s7 = .int .i64 (i : Int) ∧ i + q = m ∧ n' ≤ i + 1 ∧ Hid ((Below w.heap.size w wr ∧ wr.ownsRow e1 28 2 (.slice A' n' c') n' (pRow o) ∧ Blk wr b 28 (pCells k) ∧ e1 ≤ wr.heap.size) ∧ n' = o.length ∧ (dn = false → o = l.take i ∧ ∀ x ∈ l.take i, ¬ (Pe.firstP k x = true ∨ k = x)) ∧ (dn = true → o = Pe.insP k (l.take i) ∧ ∃ x ∈ l.take i, Pe.firstP k x = true ∨ k = x)))
  case atStart => exact ⟨0, false, [], none, 0, 0, rfl, rfl, rfl, by omega, by omega, Lib.hid ⟨⟨H1.out.1, World.ownsRow_nil _ _ _ _, H1.out.2.1, by have := H1.out.2.2; omega⟩, rfl, fun _ => ⟨by simp, by simp⟩, fun e => by cases e⟩⟩
  case round =>
    obtain ⟨i, dn, o, A', n', c', rfl, rfl, rfl, hi, hn', hR⟩ := hrel
    by_cases hgo : i < m
    case neg =>
      have hd1 : decide ((i : Int) < (m : Int)) = false := by simp; omega
      have htk : l.take i = l := List.take_of_length_le (by have := H.out.len; omega)
      have HTK := Lib.hid htk
      clear htk
      have k0 : wr.cell? ⟨b, 0, none⟩ = some (.int .i64 k.1) := hR.out.1.2.2.1.cell 0
      have k1 : wr.cell? ⟨b, 1, none⟩ = some (.int .i64 k.2) := hR.out.1.2.2.1.cell 1
      cases dn
      · have hins : Pe.insP k l = o ++ [k] := by
          obtain ⟨h1, h2⟩ := hR.out.2.2.1 (by simp)
          rw [HTK.out] at h1 h2
          have := Pe.insP_less [] h2
          rw [List.append_nil] at this
          rw [this, h1]; rfl
        have HINS := Lib.hid hins
        clear hins
        go_wp2_with (at_builtin; refine wpList_append_lies _ rfl _ _ 46 rfl e1 28 i0 _ 2 16 Tryz.underlying46 HI0.out.1 HI0.out.2.1 HI0.out.2.2.1 HI0.out.2.2.2 (by rfl) (by decide) (.slice A' n' c') n' (pRow o) rfl (own_below hR.out.1.2.1 ((Below.refl _ wr).alloc (Nat.le_refl _) _)) ⟨wr.heap.size, 0, none⟩ 1 1 [.int .i64 k.1, .int .i64 k.2] rfl rfl (World.news_of_block (cs := #[.int .i64 k.1, .int .i64 k.2]) (t := 28) (fr := (0, 0)) (heap_alloc_new wr _)) ?o1 (by decide) ?o2 ?o3 ?o4 _ rfl ?_)
        case o1 => simp [Value.oneCell']
        case o2 => simp only [maxLen]; omega
        case o3 => omega
        case o4 => have := hR.out.1.2.2.2; simp; omega
        intro gn1 cn1 W1 hown hgr _ hlt
        have HA1 := Lib.hid (And.intro ((hR.out.1.1.alloc hR.out.1.1.size _).grown hgr (hR.out.1.1.alloc hR.out.1.1.size _).size (fun z hz => by have := (hR.out.1.2.1.lt z hz).1; omega)) (And.intro (show W1.ownsRow e1 28 2 (.slice (some ⟨gn1, 0, none⟩) (n' + 1) cn1) (n' + 1) (pRow (o ++ [k])) by rw [pRow_snoc]; exact hown) (And.intro ((hR.out.1.2.2.1.alloc _).grown hgr (fun e => by have := (hR.out.1.2.1.lt b e.symm).1; omega)) (Nat.le_trans hR.out.1.2.2.2 (Nat.le_trans (by simp) hgr.size)))))
        clear hown hgr hlt
        go_wp2
        go_ret
        refine ⟨_, rfl, ?_, HA1.out.1⟩
        rw [HINS.out, show (o ++ [k]).length = n' + 1 by simp; exact hR.out.2.1.symm]
        exact own_weaken HA1.out.2.1 hwe
      · go_wp2
        go_ret
        refine ⟨_, rfl, ?_, hR.out.1.1⟩
        obtain ⟨h1, _⟩ := hR.out.2.2.2 (by simp)
        rw [HTK.out] at h1
        rw [← h1, ← hR.out.2.1]
        exact own_weaken hR.out.1.2.1 hwe
    have hd1 : decide ((i : Int) < (m : Int)) = true := by simp; omega
    obtain ⟨y, ad, hy, rfl, hcy⟩ := (H.out.below hR.out.1.1).one hgo
    have HYY := Lib.hid hy
    clear hy
    cases dn
    case true =>
      have p0 : wr.cell? (ad.add (i * 2)) = some (.int .i64 y.1) := hcy 0 _ rfl
      have p1 : wr.cell? ⟨(ad.add (i * 2)).block, (ad.add (i * 2)).off + 1, none⟩ = some (.int .i64 y.2) := hcy 1 _ rfl
      go_wp2_with (at_builtin; refine wpList_append_lies _ rfl _ _ 46 rfl e1 28 i0 _ 2 16 Tryz.underlying46 HI0.out.1 HI0.out.2.1 HI0.out.2.2.1 HI0.out.2.2.2 (by rfl) (by decide) (.slice A' n' c') n' (pRow o) rfl (own_below hR.out.1.2.1 ((Below.refl _ wr).alloc (Nat.le_refl _) _)) ⟨wr.heap.size, 0, none⟩ 1 1 [.int .i64 y.1, .int .i64 y.2] rfl rfl (World.news_of_block (cs := #[.int .i64 y.1, .int .i64 y.2]) (t := 28) (fr := (0, 0)) (heap_alloc_new wr _)) ?o1 (by decide) ?o2 ?o3 ?o4 _ rfl ?_)
      case o1 => simp [Value.oneCell']
      case o2 => simp only [maxLen]; omega
      case o3 => omega
      case o4 => have := hR.out.1.2.2.2; simp; omega
      intro gn1 cn1 W1 hown hgr _ hlt
      have HA1 := Lib.hid (And.intro ((hR.out.1.1.alloc hR.out.1.1.size _).grown hgr (hR.out.1.1.alloc hR.out.1.1.size _).size (fun z hz => by have := (hR.out.1.2.1.lt z hz).1; omega)) (And.intro (show W1.ownsRow e1 28 2 (.slice (some ⟨gn1, 0, none⟩) (n' + 1) cn1) (n' + 1) (pRow (o ++ [y])) by rw [pRow_snoc]; exact hown) (And.intro ((hR.out.1.2.2.1.alloc _).grown hgr (fun e => by have := (hR.out.1.2.1.lt b e.symm).1; omega)) (Nat.le_trans hR.out.1.2.2.2 (Nat.le_trans (by simp) hgr.size)))))
      clear hown hgr hlt
      clear hcy p0 p1
      go_wp2
      go_roundg (gk - 1)
      case measure => omega
      case rel =>
        refine ⟨i + 1, true, o ++ [y], some ⟨gn1, 0, none⟩, n' + 1, cn1, rfl, rfl, by go_num, by omega, by omega, Lib.hid ⟨HA1.out, by simp; exact hR.out.2.1, (fun e => by cases e), fun _ => ?_⟩⟩
        obtain ⟨h1, z, hz, hkz⟩ := hR.out.2.2.2 (by simp)
        rw [Pe.take_gp HYY.out]
        exact ⟨by rw [h1, Pe.insP_done _ ⟨z, hz, hkz⟩], z, by simp [hz], hkz⟩
    have hni : i = n' := by
      obtain ⟨h1, _⟩ := hR.out.2.2.1 (by simp)
      have h2 := H.out.len
      rw [hR.out.2.1, h1, List.length_take]; omega
    subst hni
    have hyc : ∀ w0, Below w.heap.size w w0 → w0.cell? (ad.add (i * 2)) = some (.int .i64 y.1) ∧ w0.cell? ⟨(ad.add (i * 2)).block, (ad.add (i * 2)).off + 1, none⟩ = some (.int .i64 y.2) := fun w0 hb => by
      obtain ⟨y2, a2, q1, q2, q3⟩ := (H.out.below hb).one hgo
      obtain rfl : ad = a2 := by injection q2
      rw [HYY.out] at q1
      injection q1 with q1
      subst q1
      exact ⟨q3 0 _ rfl, q3 1 _ rfl⟩
    have HYC := Lib.hid hyc
    obtain ⟨FV, hFV⟩ : ∃ FV, FV = Pe.firstP k y := ⟨_, rfl⟩
    obtain ⟨EV, hEV⟩ : ∃ EV, EV = decide (k = y) := ⟨_, rfl⟩
    have hfc := rFirst_calls k y
    rw [← hFV] at hfc
    unfold pCells at hfc
    have HFC := Lib.hid hfc
    have HFV := Lib.hid (And.intro hFV hEV)
    have heq : ∀ w0, (binOp .eql 28 (.agg #[.int .i64 k.1, .int .i64 k.2]) (.agg #[.int .i64 y.1, .int .i64 y.2])).run Tryz.prog w0 = .ok (.bool EV) w0 := fun w0 => by rw [hEV]; exact eql_pair k y w0
    clear hyc hcy hfc hFV hEV
    go_upto_region 7 with fail
    go_cut [8] from 9 to 48 (fun s8 wx => s8 = .bool FV ∧ Hid (Below w.heap.size w wx ∧ wx.ownsRow e1 28 2 (.slice A' i c') i (pRow o) ∧ Blk wx b 28 (pCells k) ∧ e1 ≤ wx.heap.size))
    case first =>
      have D0 := Lib.hid (And.intro hR.out.1.1.drew (And.intro (own_below hR.out.1.2.1 (Below.refl _ wr).drew) (And.intro hR.out.1.2.2.1.drew hR.out.1.2.2.2)))
      refine wp_region_R (RL [(0, fun w' => Blk w' b 28 (pCells k)), (4, fun w' => w'.cell? (ad.add (i * 2)) = some (.int .i64 y.1) ∧ w'.cell? ⟨(ad.add (i * 2)).block, (ad.add (i * 2)).off + 1, none⟩ = some (.int .i64 y.2))]) (by kernel_rfl) (RL_cons D0.out.2.2.1 (RL_cons (HYC.out _ D0.out.1) (RL_nil _))) (fun hp => ?_)
      refine wpAnyR_take (i := 0) (oi := ⟨some 17, _, _, _, _, _⟩) (v := ?_) rfl (by kernel_rfl) (by kernel_rfl) (by kernel_rfl) (fun _ _ _ h => h) hp (.inl ⟨by rfl, fun w hR => ?_⟩) (fun hq => ?_)
      rotate_left
      · have hR := hR.1 rfl
        (try dsimp only at hR)
        have k0 : w.cell? ⟨b, 0, none⟩ = some (.int .i64 k.1) := hR.cell 0
        have k1 : w.cell? ⟨b, 1, none⟩ = some (.int .i64 k.2) := hR.cell 1
        clear hR
        go_simp
        with_reducible rfl
      clear hp; have hp := hq; clear hq
      try simp only [Act.put, List.setIfInBounds_toArray, List.set_cons_zero, List.set_cons_succ]
      refine wpAnyR_take (i := 1) (oi := ⟨some 18, _, _, _, _, _⟩) (v := ?_) rfl (by kernel_rfl) (by kernel_rfl) (by kernel_rfl) (fun _ _ _ h => h) hp (.inl ⟨by rfl, fun w _ => ?_⟩) (fun hq => ?_)
      rotate_left
      · go_simp
        with_reducible rfl
      clear hp; have hp := hq; clear hq
      try simp only [Act.put, List.setIfInBounds_toArray, List.set_cons_zero, List.set_cons_succ]
      refine wpAnyR_take (i := 2) (oi := ⟨some 19, _, _, _, _, _⟩) (v := ?_) rfl (by kernel_rfl) (by kernel_rfl) (by kernel_rfl) (fun _ _ _ h => h) hp (.inl ⟨by rfl, fun w _ => ?_⟩) (fun hq => ?_)
      rotate_left
      · go_simp
        with_reducible rfl
      clear hp; have hp := hq; clear hq
      try simp only [Act.put, List.setIfInBounds_toArray, List.set_cons_zero, List.set_cons_succ]
      refine wpAnyR_take (i := 3) (oi := ⟨some 20, _, _, _, _, _⟩) (v := ?_) rfl (by kernel_rfl) (by kernel_rfl) (by kernel_rfl) (fun _ _ _ h => h) hp (.inl ⟨by rfl, fun w _ => ?_⟩) (fun hq => ?_)
      rotate_left
      · go_simp
        with_reducible rfl
      clear hp; have hp := hq; clear hq
      try simp only [Act.put, List.setIfInBounds_toArray, List.set_cons_zero, List.set_cons_succ]
      refine wpAnyR_take (i := 4) (oi := ⟨some 21, _, _, _, _, _⟩) (v := ?_) rfl (by kernel_rfl) (by kernel_rfl) (by kernel_rfl) (fun _ _ _ h => h) hp (.inl ⟨by rfl, fun w hR => ?_⟩) (fun hq => ?_)
      rotate_left
      · have hR := hR.2.1 rfl
        (try dsimp only at hR)
        obtain ⟨h1, h2⟩ := hR
        go_simp
        with_reducible rfl
      clear hp; have hp := hq; clear hq
      try simp only [Act.put, List.setIfInBounds_toArray, List.set_cons_zero, List.set_cons_succ]
      refine wpAnyR_step (i := 5) (o := ⟨some 22, _, _, _, _, _⟩) (by kernel_rfl) rfl (by rfl) (fun K hK => ?_) -- Op.call { callee := Callee.value (Operand.func 100), args := #[Operand.tmp 17, Operand.tmp 21], argTypes := #[
      go_simp
      refine (HFC.out _).mono ?_
      rintro e wa ⟨rfl, hba⟩
      show K _ _
      have Da := Lib.hid (And.intro (D0.out.1.trans (hba.mono D0.out.1.size)) (And.intro (own_below D0.out.2.1 hba) (And.intro (D0.out.2.2.1.below hba D0.out.2.2.1.lt) (Nat.le_trans D0.out.2.2.2 hba.size))))
      have hS0 := Da.out.2.2.1
      have hS4 := HYC.out wa Da.out.1
      clear hba
      refine hK _ _ (pend_off (by kernel_rfl) (pend_off (by kernel_rfl) pend_nil)) (fun hq => ?_)
      clear hp hK K; have hp := hq; clear hq
      try simp only [Act.put, List.setIfInBounds_toArray, List.set_cons_zero, List.set_cons_succ]
      refine wpAnyR_take (i := 6) (oi := ⟨some 8, _, _, _, _, _⟩) (v := ?_) rfl (by kernel_rfl) (by kernel_rfl) (by kernel_rfl) (fun _ _ _ h => h) hp (.inl ⟨by rfl, fun w _ => ?_⟩) (fun hq => ?_)
      rotate_left
      · go_simp
        with_reducible rfl
      clear hp; have hp := hq; clear hq
      try simp only [Act.put, List.setIfInBounds_toArray, List.set_cons_zero, List.set_cons_succ]
      refine wpAnyR_done (by kernel_rfl) ?_ _
      clear hp
      go_wp2
      go_meet
      exact ⟨rfl, Da⟩
    case rest =>
    obtain ⟨rfl, H4⟩ := hcut
    obtain ⟨w4, rfl⟩ : ∃ w4 : World, w4 = wc := ⟨_, rfl⟩
    apply_assumption
    have k0 : w4.cell? ⟨b, 0, none⟩ = some (.int .i64 k.1) := H4.out.2.2.1.cell 0
    have k1 : w4.cell? ⟨b, 1, none⟩ = some (.int .i64 k.2) := H4.out.2.2.1.cell 1
    have p0 := (HYC.out w4 H4.out.1).1
    have p1 := (HYC.out w4 H4.out.1).2
    go_upto_region 8 with fail
    go_cut [31] from 9 to 48 (fun s31 wx => s31 = .bool (FV || EV) ∧ Hid (Below w.heap.size w wx ∧ wx.ownsRow e1 28 2 (.slice A' i c') i (pRow o) ∧ Blk wx b 28 (pCells k) ∧ e1 ≤ wx.heap.size))
    case first =>
      cases FV
      all_goals
        go_quiet (fail)
        go_wp2
        go_meet
        exact ⟨rfl, Lib.hid ⟨H4.out.1.trans ((below_drewN _ _).mono H4.out.1.size), own_below H4.out.2.1 (below_drewN _ _), H4.out.2.2.1.below (below_drewN _ _) H4.out.2.2.1.lt, by simpa using H4.out.2.2.2⟩⟩
    case rest =>
    obtain ⟨rfl, H5⟩ := hcut
    obtain ⟨w5, rfl⟩ : ∃ w5 : World, w5 = wc := ⟨_, rfl⟩
    clear H4 k0 k1 p0 p1
    apply_assumption
    have k0 : w5.cell? ⟨b, 0, none⟩ = some (.int .i64 k.1) := H5.out.2.2.1.cell 0
    have k1 : w5.cell? ⟨b, 1, none⟩ = some (.int .i64 k.2) := H5.out.2.2.1.cell 1
    have p0 := (HYC.out w5 H5.out.1).1
    have p1 := (HYC.out w5 H5.out.1).2
    cases hN : (FV || EV)
    · have hF : FV = false ∧ EV = false := by cases FV <;> cases EV <;> simp_all
      obtain ⟨rfl, rfl⟩ := hF
      have HNO := Lib.hid (show ¬ (Pe.firstP k y = true ∨ k = y) by
        rintro (h1 | h1)
        · rw [← HFV.out.1] at h1; cases h1
        · have := HFV.out.2; rw [decide_eq_true h1] at this; cases this)
      go_wp2_with (at_builtin; refine wpList_append_lies _ rfl _ _ 46 rfl e1 28 i0 _ 2 16 Tryz.underlying46 HI0.out.1 HI0.out.2.1 HI0.out.2.2.1 HI0.out.2.2.2 (by rfl) (by decide) (.slice A' i c') i (pRow o) rfl (own_below H5.out.2.1 ((Below.refl _ w5).alloc (Nat.le_refl _) _)) ⟨w5.heap.size, 0, none⟩ 1 1 [.int .i64 y.1, .int .i64 y.2] rfl rfl (World.news_of_block (cs := #[.int .i64 y.1, .int .i64 y.2]) (t := 28) (fr := (0, 0)) (heap_alloc_new w5 _)) ?o1 (by decide) ?o2 ?o3 ?o4 _ rfl ?_)
      case o1 => simp [Value.oneCell']
      case o2 => simp only [maxLen]; omega
      case o3 => omega
      case o4 => have := H5.out.2.2.2; simp; omega
      intro gn1 cn1 W1 hown hgr _ hlt
      have HA1 := Lib.hid (And.intro ((H5.out.1.alloc H5.out.1.size _).grown hgr (H5.out.1.alloc H5.out.1.size _).size (fun z hz => by have := (H5.out.2.1.lt z hz).1; omega)) (And.intro (show W1.ownsRow e1 28 2 (.slice (some ⟨gn1, 0, none⟩) (i + 1) cn1) (i + 1) (pRow (o ++ [y])) by rw [pRow_snoc]; exact hown) (And.intro ((H5.out.2.2.1.alloc _).grown hgr (fun e => by have := (H5.out.2.1.lt b e.symm).1; omega)) (Nat.le_trans H5.out.2.2.2 (Nat.le_trans (by simp) hgr.size)))))
      clear hown hgr hlt
      clear k0 k1 p0 p1
      go_wp2
      go_roundg (gk - 1)
      case measure => omega
      case rel =>
        refine ⟨i + 1, false, o ++ [y], some ⟨gn1, 0, none⟩, i + 1, cn1, rfl, rfl, by go_num, by omega, by omega, Lib.hid ⟨HA1.out, by simp; exact hR.out.2.1, fun _ => ?_, (fun e => by cases e)⟩⟩
        obtain ⟨h1, h2⟩ := hR.out.2.2.1 (by simp)
        rw [Pe.take_gp HYY.out, ← h1]
        refine ⟨rfl, fun x hx => ?_⟩
        rcases List.mem_append.1 hx with hx | hx
        · rw [h1] at hx; exact h2 x hx
        · rw [List.mem_singleton.1 hx]; exact HNO.out
    have HYES := Lib.hid (show Pe.firstP k y = true ∨ k = y by
      rw [HFV.out.1, HFV.out.2] at hN
      rw [Bool.or_eq_true, decide_eq_true_eq] at hN
      exact hN)
    go_wp2_with (at_builtin; refine wpList_append_lies _ rfl _ _ 46 rfl e1 28 i0 _ 2 16 Tryz.underlying46 HI0.out.1 HI0.out.2.1 HI0.out.2.2.1 HI0.out.2.2.2 (by rfl) (by decide) (.slice A' i c') i (pRow o) rfl (own_below H5.out.2.1 ((Below.refl _ w5).alloc (Nat.le_refl _) _)) ⟨w5.heap.size, 0, none⟩ 1 1 [.int .i64 k.1, .int .i64 k.2] rfl rfl (World.news_of_block (cs := #[.int .i64 k.1, .int .i64 k.2]) (t := 28) (fr := (0, 0)) (heap_alloc_new w5 _)) ?o1 (by decide) ?o2 ?o3 ?o4 _ rfl ?_)
    case o1 => simp [Value.oneCell']
    case o2 => simp only [maxLen]; omega
    case o3 => omega
    case o4 => have := H5.out.2.2.2; simp; omega
    intro gn1 cn1 W1 hown hgr _ hlt
    have HA1 := Lib.hid (And.intro ((H5.out.1.alloc H5.out.1.size _).grown hgr (H5.out.1.alloc H5.out.1.size _).size (fun z hz => by have := (H5.out.2.1.lt z hz).1; omega)) (And.intro (show W1.ownsRow e1 28 2 (.slice (some ⟨gn1, 0, none⟩) (i + 1) cn1) (i + 1) (pRow (o ++ [k])) by rw [pRow_snoc]; exact hown) (And.intro ((H5.out.2.2.1.alloc _).grown hgr (fun e => by have := (H5.out.2.1.lt b e.symm).1; omega)) (Nat.le_trans H5.out.2.2.2 (Nat.le_trans (by simp) hgr.size)))))
    clear hown hgr hlt
    clear k0 k1 p0 p1 hN
    have k0 : W1.cell? ⟨b, 0, none⟩ = some (.int .i64 k.1) := HA1.out.2.2.1.cell 0
    have k1 : W1.cell? ⟨b, 1, none⟩ = some (.int .i64 k.2) := HA1.out.2.2.1.cell 1
    have p0 := (HYC.out W1 HA1.out.1).1
    have p1 := (HYC.out W1 HA1.out.1).2
    go_upto_region 11 with fail
    go_cut [41] from 9 to 48 (fun s41 wx => s41 = .bool EV ∧ Hid (Below w.heap.size w wx ∧ wx.ownsRow e1 28 2 (.slice (some ⟨gn1, 0, none⟩) (i + 1) cn1) (i + 1) (pRow (o ++ [k])) ∧ Blk wx b 28 (pCells k) ∧ e1 ≤ wx.heap.size))
    case first =>
      go_quiet (fail)
      go_wp2
      go_meet
      exact ⟨rfl, Lib.hid ⟨HA1.out.1.trans ((below_drewN _ _).mono HA1.out.1.size), own_below HA1.out.2.1 (below_drewN _ _), HA1.out.2.2.1.below (below_drewN _ _) HA1.out.2.2.1.lt, by simpa using HA1.out.2.2.2⟩⟩
    case rest =>
    obtain ⟨rfl, H6⟩ := hcut
    obtain ⟨w6, rfl⟩ : ∃ w6 : World, w6 = wc := ⟨_, rfl⟩
    clear k0 k1 p0 p1
    apply_assumption
    cases EV
    · have p0 := (HYC.out w6 H6.out.1).1
      have p1 := (HYC.out w6 H6.out.1).2
      have HNE := Lib.hid (show k ≠ y from fun e => by have := HFV.out.2; rw [decide_eq_true e] at this; cases this)
      go_wp2_with (at_builtin; refine wpList_append_lies _ rfl _ _ 46 rfl e1 28 i0 _ 2 16 Tryz.underlying46 HI0.out.1 HI0.out.2.1 HI0.out.2.2.1 HI0.out.2.2.2 (by rfl) (by decide) (.slice (some ⟨gn1, 0, none⟩) (i + 1) cn1) (i + 1) (pRow (o ++ [k])) rfl (own_below H6.out.2.1 ((Below.refl _ w6).alloc (Nat.le_refl _) _)) ⟨w6.heap.size, 0, none⟩ 1 1 [.int .i64 y.1, .int .i64 y.2] rfl rfl (World.news_of_block (cs := #[.int .i64 y.1, .int .i64 y.2]) (t := 28) (fr := (0, 0)) (heap_alloc_new w6 _)) ?o1 (by decide) ?o2 ?o3 ?o4 _ rfl ?_)
      case o1 => simp [Value.oneCell']
      case o2 => simp only [maxLen]; omega
      case o3 => omega
      case o4 => have := H6.out.2.2.2; simp; omega
      intro gn2 cn2 W2 hown hgr _ hlt
      have HA2 := Lib.hid (And.intro ((H6.out.1.alloc H6.out.1.size _).grown hgr (H6.out.1.alloc H6.out.1.size _).size (fun z hz => by have := (H6.out.2.1.lt z hz).1; omega)) (And.intro (show W2.ownsRow e1 28 2 (.slice (some ⟨gn2, 0, none⟩) ((i + 1) + 1) cn2) ((i + 1) + 1) (pRow ((o ++ [k]) ++ [y])) by rw [pRow_snoc]; exact hown) (And.intro ((H6.out.2.2.1.alloc _).grown hgr (fun e => by have := (H6.out.2.1.lt b e.symm).1; omega)) (Nat.le_trans H6.out.2.2.2 (Nat.le_trans (by simp) hgr.size)))))
      clear hown hgr hlt
      clear p0 p1
      go_wp2
      go_roundg (gk - 1)
      case measure => omega
      case rel =>
        refine ⟨i + 1, true, (o ++ [k]) ++ [y], some ⟨gn2, 0, none⟩, i + 1 + 1, cn2, rfl, rfl, by go_num, by omega, by omega, Lib.hid ⟨HA2.out, by simp; exact hR.out.2.1, (fun e => by cases e), fun _ => ?_⟩⟩
        obtain ⟨h1, h2⟩ := hR.out.2.2.1 (by simp)
        rw [Pe.take_gp HYY.out, Pe.insP_less _ h2, h1]
        have hf : Pe.firstP k y = true := HYES.out.resolve_right HNE.out
        exact ⟨by simp [Pe.insP, hf, HNE.out], y, by simp, HYES.out⟩
    · have HEQ := Lib.hid (show k = y from of_decide_eq_true HFV.out.2.symm)
      go_wp2
      go_roundg (gk - 1)
      case measure => omega
      case rel =>
        refine ⟨i + 1, true, o ++ [k], some ⟨gn1, 0, none⟩, i + 1, cn1, rfl, rfl, by go_num, by omega, by omega, Lib.hid ⟨H6.out, by simp; exact hR.out.2.1, (fun e => by cases e), fun _ => ?_⟩⟩
        obtain ⟨h1, h2⟩ := hR.out.2.2.1 (by simp)
        rw [Pe.take_gp HYY.out, Pe.insP_less _ h2, h1]
        exact ⟨by simp [Pe.insP, HEQ.out], y, by simp, HYES.out⟩

end Go.Proofs.YtnphlekailodkaaGreatDoor

namespace Go.Proofs.YtnphlekailodkaaGreatDoor
open Go.RowKit

namespace Pe
def circleFrom (l : List Ent) (c : Pair) (d : Int) : Nat → List Pair → List Pair × Bool
  | 0, _ => ([], false)
  | n + 1, out =>
    if (step l (out.getLast?.getD c) d).2 ≠ 2 then ([], false)
    else if (step l (out.getLast?.getD c) d).1.to = c then (out, true)
    else if firstP (step l (out.getLast?.getD c) d).1.to c = true then ([], false)
    else circleFrom l c d n (out ++ [(step l (out.getLast?.getD c) d).1.to])
/-- The circle that begins with a pair, if the pair is the least one of a circle: the reference's word. -/
def circleR (l : List Ent) (c : Pair) (d : Int) : List Pair × Bool := circleFrom l c d (l.length + 1) [c]
theorem step_three (l : List Ent) (c : Pair) (d : Int) : (step l c d).2 = 0 ∨ (step l c d).2 = 1 ∨ (step l c d).2 = 2 := by
  unfold step
  repeat' split
  all_goals simp
end Pe

set_option maxRecDepth 1000000 in
set_option maxHeartbeats 8000000 in
theorem rcircle_calls (A : Option Addr) (n c : Nat) (l : List Pe.Ent) (cd : Pe.Pair) (d : Int) (w : World) (h : EntsAt w A n l) (hn : n ≤ 100000) :
    Calls Tryz.prog 75 #[.slice A n c, .agg (pCells cd), .int .i64 d] w fun e w' => ∃ v, e = .returned (.tuple #[v, .bool (Pe.circleR l cd d).2]) ∧ w'.ownsRow w.heap.size 28 2 v (Pe.circleR l cd d).1.length (pRow (Pe.circleR l cd d).1) ∧ Below w.heap.size w w' := by
  obtain ⟨i0, hi0, hz0, hz1, hz2⟩ := info_parts infoCandN
  have HI0 := Lib.hid (And.intro hi0 (And.intro hz0 (And.intro hz1 hz2)))
  have H := Lib.hid h
  obtain ⟨V, hV⟩ : ∃ V, V = Pe.circleR l cd d := ⟨_, rfl⟩
  rw [← hV]
  unfold Pe.circleR at hV
  have HV := Lib.hid (And.intro hV h.len)
  clear hi0 hz0 hz1 hz2 h hV
  go_enter Tryz.func75, Tryz.ntmps75
  unfold pCells
  go_upto_region 1 with fail
  obtain ⟨b, hb⟩ : ∃ b, b = w.heap.size := ⟨_, rfl⟩
  obtain ⟨w1, hw1⟩ : ∃ w1, w1 = w.alloc (.cells (pCells cd) 28) := ⟨_, rfl⟩
  have hb1 : Below w.heap.size w w1 := by rw [hw1]; exact (Below.refl _ w).alloc (Nat.le_refl _) _
  have hc1 : Blk w1 b 28 (pCells cd) := by rw [hw1, hb]; exact Blk.fresh _ _ _
  unfold pCells at hw1
  rw [← hb, ← hw1]
  obtain ⟨e1, he1⟩ : ∃ e1, e1 = w1.heap.size := ⟨_, rfl⟩
  have hbe : b < e1 := by rw [he1]; exact hc1.lt
  have hwe : w.heap.size ≤ e1 := by rw [he1]; exact hb1.size
  have H1 := Lib.hid (And.intro hb1 (And.intro hc1 he1))
  have k0 : w1.cell? ⟨b, 0, none⟩ = some (.int .i64 cd.1) := hc1.cell 0
  have k1 : w1.cell? ⟨b, 1, none⟩ = some (.int .i64 cd.2) := hc1.cell 1
  clear hb1 hc1 hw1 hb he1
  go_upto_region 2 with fail
  obtain ⟨w2, hw2⟩ : ∃ w2, w2 = w1.alloc (.cells (pCells cd) 28) := ⟨_, rfl⟩
  have hb2 : Below w1.heap.size w1 w2 := by rw [hw2]; exact (Below.refl _ w1).alloc (Nat.le_refl _) _
  have hown : w2.ownsRow e1 28 2 (.slice (some ⟨w1.heap.size, 0, none⟩) 1 1) 1 (pRow [cd]) := by
    rw [hw2]
    exact ⟨by simp [pRow, encP], .inr ⟨w1.heap.size, 1, pCells cd, rfl, by have := H1.out.2.2; omega, heap_alloc_new w1 _, Nat.le_refl _, by decide, rfl, by simp [pRow, encP, pCells]⟩⟩
  unfold pCells at hw2
  rw [← hw2]
  have H2 := Lib.hid (And.intro (H1.out.1.trans (hb2.mono H1.out.1.size)) (And.intro (H1.out.2.1.below hb2 H1.out.2.1.lt) (And.intro hown (show e1 ≤ w2.heap.size from by have h1 := hb2.size; have h2 := H1.out.2.2; omega))))
  clear hb2 hown hw2 k0 k1
  go_wp2_with fail
  go_loopg [8, 9] (n + 1) (fun q s8 s9 wr => ∃ (i : Nat) (o : List Pe.Pair) (A' : Option Addr) (n' c' : Nat), s8 = .slice A' n' c' ∧ s9 = .int .i64 (i : Int) ∧ i + q = n + 1 ∧ n' = i + 1 ∧ Hid (Below w.heap.size w wr ∧ Blk wr b 28 (pCells cd) ∧ wr.ownsRow e1 28 2 (.slice A' n' c') n' (pRow o) ∧ e1 ≤ wr.heap.size ∧ n' = o.length ∧ V = Pe.circleFrom l cd d q o))
  case atStart => exact ⟨0, [cd], some ⟨w1.heap.size, 0, none⟩, 1, 1, rfl, by go_num, by omega, rfl, Lib.hid ⟨H2.out.1, H2.out.2.1, H2.out.2.2.1, H2.out.2.2.2, rfl, by rw [HV.out.1, HV.out.2]⟩⟩
  case round =>
    obtain ⟨i, o, A', n', c', rfl, rfl, hi, rfl, hR⟩ := hrel
    by_cases hgo : i ≤ n
    case neg =>
      have hd1 : decide ((i : Int) ≤ (n : Int)) = false := by simp; omega
      obtain rfl : gk = 0 := by omega
      go_wp2
      go_ret2
      have hv : V = ([], false) := hR.out.2.2.2.2.2
      exact ⟨.slice none 0 0, by rw [hv]; rfl, by rw [hv]; exact World.ownsRow_nil _ _ _ _, hR.out.1⟩
    have hd1 : decide ((i : Int) ≤ (n : Int)) = true := by simp; omega
    obtain ⟨g, rfl⟩ : ∃ g', gk = g' + 1 := ⟨gk - 1, by omega⟩
    obtain ⟨B2, c2, e2, hPA, _⟩ := own_pairsAt hR.out.2.2.1 hR.out.2.2.2.2.1
    obtain ⟨rfl, rfl⟩ : A' = B2 ∧ c' = c2 := by injection e2 with h1 _ h3; exact ⟨h1, h3⟩
    obtain ⟨x, ad, hx, rfl, hcx⟩ := hPA.one (i := i) (by omega)
    have p0 : wr.cell? (ad.add (i * 2)) = some (.int .i64 x.1) := hcx 0 _ rfl
    have p1 : wr.cell? ⟨(ad.add (i * 2)).block, (ad.add (i * 2)).off + 1, none⟩ = some (.int .i64 x.2) := hcx 1 _ rfl
    have hlast : o.getLast?.getD cd = x := by
      rw [List.getLast?_eq_getElem?, ← hR.out.2.2.2.2.1, Nat.add_sub_cancel, hx]; rfl
    have hF := hR.out.2.2.2.2.2
    unfold Pe.circleFrom at hF
    rw [hlast] at hF
    have h3 := Pe.step_three l x d
    have hhc := rhop_calls A n c l x d wr (H.out.below hR.out.1)
    obtain ⟨⟨hp, how⟩, hst⟩ : ∃ z, z = Pe.step l x d := ⟨_, rfl⟩
    rw [← hst] at hF h3 hhc
    obtain ⟨K, hK⟩ : ∃ K, K = ((Pe.rcode how : Nat) : Int) := ⟨_, rfl⟩
    dsimp only at hF h3 hhc
    rw [← hK] at hhc
    unfold pCells hCells at hhc
    have HHC := Lib.hid hhc
    have HF := Lib.hid (And.intro hF (And.intro h3 hK))
    clear hx hcx e2 hPA hlast hF h3 hhc hst hK
    go_wp2_with fail
    refine HHC.out.mono ?_
    rintro e w3 ⟨rfl, hb3⟩
    have H3 := Lib.hid (And.intro (hR.out.1.trans (hb3.mono hR.out.1.size)) (And.intro (hR.out.2.1.below hb3 hR.out.2.1.lt) (And.intro (own_below hR.out.2.2.1 hb3) (Nat.le_trans hR.out.2.2.2.1 hb3.size))))
    clear hb3 p0 p1
    dsimp only
    go_upto_region 6 with fail
    obtain ⟨hb, hg⟩ : ∃ g, g = w3.heap.size := ⟨_, rfl⟩
    obtain ⟨w4, hw⟩ : ∃ w0, w0 = w3.alloc (.cells (hCells hp) 66) := ⟨_, rfl⟩
    have hbl : Below w3.heap.size w3 w4 := by rw [hw]; exact (Below.refl _ w3).alloc (Nat.le_refl _) _
    have hgb : Blk w4 hb 66 (hCells hp) := by rw [hw, hg]; exact Blk.fresh _ _ _
    unfold hCells at hw
    rw [← hg, ← hw]
    have H4 := Lib.hid (And.intro (H3.out.1.trans (hbl.mono H3.out.1.size)) (And.intro (H3.out.2.1.below hbl H3.out.2.1.lt) (And.intro (own_below H3.out.2.2.1 hbl) (And.intro (Nat.le_trans H3.out.2.2.2 hbl.size) hgb))))
    clear hbl hgb hg hw
    have hlo : i + 1 = o.length := hR.out.2.2.2.2.1
    have HLO := Lib.hid hlo
    clear hlo
    by_cases h2 : how = 2
    case neg =>
      have HVV := Lib.hid (show V = ([], false) by rw [HF.out.1, if_pos h2])
      have hK : K = 0 ∨ K = 2 := by
        rw [HF.out.2.2]
        rcases HF.out.2.1 with e | e | e
        · left; rw [e]; rfl
        · right; rw [e]; rfl
        · exact absurd e h2
      clear h2
      rcases hK with rfl | rfl
      · skip
        go_wp2
        go_ret2
        exact ⟨.slice none 0 0, by rw [HVV.out]; rfl, by rw [HVV.out]; exact World.ownsRow_nil _ _ _ _, H4.out.1⟩
      · skip
        go_wp2
        go_ret2
        exact ⟨.slice none 0 0, by rw [HVV.out]; rfl, by rw [HVV.out]; exact World.ownsRow_nil _ _ _ _, H4.out.1⟩
    obtain rfl : K = 1 := by rw [HF.out.2.2, h2]; rfl
    have HF1 := Lib.hid (show V = if hp.to = cd then (o, true) else if Pe.firstP hp.to cd = true then ([], false) else Pe.circleFrom l cd d g (o ++ [hp.to]) by rw [HF.out.1, if_neg (by omega)])
    clear h2
    have k0 : w4.cell? ⟨b, 0, none⟩ = some (.int .i64 cd.1) := H4.out.2.1.cell 0
    have k1 : w4.cell? ⟨b, 1, none⟩ = some (.int .i64 cd.2) := H4.out.2.1.cell 1
    have t3 : w4.cell? ⟨hb, 3, none⟩ = some (.int .i64 hp.to.1) := H4.out.2.2.2.2.cell 3
    have t4 : w4.cell? ⟨hb, 4, none⟩ = some (.int .i64 hp.to.2) := H4.out.2.2.2.2.cell 4
    obtain ⟨EV, hEV⟩ : ∃ EV, EV = decide (hp.to = cd) := ⟨_, rfl⟩
    have heq : ∀ w0, (binOp .eql 28 (.agg #[.int .i64 hp.to.1, .int .i64 hp.to.2]) (.agg #[.int .i64 cd.1, .int .i64 cd.2])).run Tryz.prog w0 = .ok (.bool EV) w0 := fun w0 => by rw [hEV]; exact eql_pair hp.to cd w0
    have HEV := Lib.hid hEV
    clear hEV
    cases EV
    case true =>
      have HVV := Lib.hid (show V = (o, true) by rw [HF1.out, if_pos (of_decide_eq_true HEV.out.symm)])
      go_wp2
      go_ret2
      exact ⟨_, by rw [HVV.out]; rfl, by rw [HVV.out]; show World.ownsRow _ _ _ _ _ o.length _; rw [← HLO.out]; exact own_weaken H4.out.2.2.1 hwe, H4.out.1⟩
    have HF2 := Lib.hid (show V = if Pe.firstP hp.to cd = true then ([], false) else Pe.circleFrom l cd d g (o ++ [hp.to]) by rw [HF1.out, if_neg (of_decide_eq_false HEV.out.symm)])
    obtain ⟨FV, hFV⟩ : ∃ FV, FV = Pe.firstP hp.to cd := ⟨_, rfl⟩
    have hfc := rFirst_calls hp.to cd w4
    rw [← hFV] at hfc
    unfold pCells at hfc
    have HFC := Lib.hid hfc
    have HFV := Lib.hid hFV
    clear hfc hFV
    go_wp2_with fail
    refine HFC.out.mono ?_
    rintro e w5 ⟨rfl, hb5⟩
    have H5 := Lib.hid (And.intro (H4.out.1.trans (hb5.mono H4.out.1.size)) (And.intro (H4.out.2.1.below hb5 H4.out.2.1.lt) (And.intro (own_below H4.out.2.2.1 hb5) (And.intro (Nat.le_trans H4.out.2.2.2.1 hb5.size) (H4.out.2.2.2.2.below hb5 H4.out.2.2.2.2.lt)))))
    clear hb5 k0 k1 t3 t4
    dsimp only
    cases FV
    case true =>
      have HVV := Lib.hid (show V = ([], false) by rw [HF2.out, if_pos HFV.out.symm])
      go_wp2
      go_ret2
      exact ⟨.slice none 0 0, by rw [HVV.out]; rfl, by rw [HVV.out]; exact World.ownsRow_nil _ _ _ _, H5.out.1⟩
    have HVV := Lib.hid (show V = Pe.circleFrom l cd d g (o ++ [hp.to]) by rw [HF2.out, if_neg (by rw [← HFV.out]; simp)])
    have t3 : w5.cell? ⟨hb, 3, none⟩ = some (.int .i64 hp.to.1) := H5.out.2.2.2.2.cell 3
    have t4 : w5.cell? ⟨hb, 4, none⟩ = some (.int .i64 hp.to.2) := H5.out.2.2.2.2.cell 4
    go_wp2_with (at_builtin; refine wpList_append_lies _ rfl _ _ 46 rfl e1 28 i0 _ 2 16 Tryz.underlying46 HI0.out.1 HI0.out.2.1 HI0.out.2.2.1 HI0.out.2.2.2 (by rfl) (by decide) (.slice (some ad) (i + 1) c') (i + 1) (pRow o) rfl (own_below H5.out.2.2.1 ((Below.refl _ w5).alloc (Nat.le_refl _) _)) ⟨w5.heap.size, 0, none⟩ 1 1 [.int .i64 hp.to.1, .int .i64 hp.to.2] rfl rfl (World.news_of_block (cs := #[.int .i64 hp.to.1, .int .i64 hp.to.2]) (t := 28) (fr := (0, 0)) (heap_alloc_new w5 _)) ?o1 (by decide) ?o2 ?o3 ?o4 _ rfl ?_)
    case o1 => simp [Value.oneCell']
    case o2 => simp only [maxLen]; omega
    case o3 => omega
    case o4 => have := H5.out.2.2.2.1; simp; omega
    intro gn cn W2 hown hgr _ hlt
    have HA := Lib.hid (And.intro ((H5.out.1.alloc H5.out.1.size _).grown hgr (H5.out.1.alloc H5.out.1.size _).size (fun z hz => by have := (H5.out.2.2.1.lt z hz).1; omega)) (And.intro (show W2.ownsRow e1 28 2 (.slice (some ⟨gn, 0, none⟩) (i + 1 + 1) cn) (i + 1 + 1) (pRow (o ++ [hp.to])) by rw [pRow_snoc]; exact hown) (And.intro ((H5.out.2.1.alloc _).grown hgr (fun e => by have := (H5.out.2.2.1.lt b e.symm).1; omega)) (Nat.le_trans H5.out.2.2.2.1 (Nat.le_trans (by simp) hgr.size)))))
    clear hown hgr hlt t3 t4
    go_wp2
    go_roundg g
    case measure => omega
    case rel => exact ⟨i + 1, o ++ [hp.to], some ⟨gn, 0, none⟩, i + 1 + 1, cn, rfl, by go_num, by omega, rfl, Lib.hid ⟨HA.out.1, HA.out.2.2.1, HA.out.2.1, HA.out.2.2.2, by simp; exact HLO.out, HVV.out⟩⟩

end Go.Proofs.YtnphlekailodkaaGreatDoor

namespace Go.Proofs.YtnphlekailodkaaGreatDoor.Cg

variable {α : Type}
/-- Each element leads to the one behind it. -/
def Path (f : α → Option α) : List α → Prop
  | [] => True
  | [_] => True
  | a :: b :: r => f a = some b ∧ Path f (b :: r)
theorem Path.tail {f : α → Option α} {a : α} {r : List α} (h : Path f (a :: r)) : Path f r := by
  cases r with
  | nil => trivial
  | cons b r => exact h.2
theorem path_split {f : α → Option α} {m : α} {q : List α} : ∀ {p : List α}, Path f (p ++ m :: q) ↔ Path f (p ++ [m]) ∧ Path f (m :: q)
  | [] => by simp [Path]
  | [a] => by
    cases q with
    | nil => simp [Path]
    | cons b q => simp only [List.cons_append, List.nil_append, Path, and_true]
  | a :: b :: p => by
    have ih := path_split (f := f) (m := m) (q := q) (p := b :: p)
    simp only [List.cons_append, Path] at ih ⊢
    rw [ih, and_assoc]
theorem Path.left {f : α → Option α} {m : α} {p q : List α} (h : Path f (p ++ m :: q)) : Path f (p ++ [m]) := (path_split.1 h).1
theorem Path.right {f : α → Option α} {p : List α} : ∀ {q : List α}, Path f (p ++ q) → Path f q
  | [], _ => trivial
  | _ :: _, h => (path_split.1 h).2
theorem Path.init {f : α → Option α} {p : List α} {m : α} (h : Path f (p ++ [m])) : Path f p := by
  induction p with
  | nil => trivial
  | cons a p ih =>
    cases p with
    | nil => trivial
    | cons b p => exact ⟨h.1, ih h.2⟩
theorem path_snoc {f : α → Option α} {a b : α} {p : List α} : Path f (p ++ [a, b]) ↔ Path f (p ++ [a]) ∧ f a = some b := by
  have := path_split (f := f) (m := a) (q := [b]) (p := p)
  simpa [Path] using this
/-- What is closed under f holds a path whose first element it holds. -/
theorem Path.sub {f : α → Option α} {S : α → Prop} (hS : ∀ a b, S a → f a = some b → S b) : ∀ {a : α} {r : List α}, Path f (a :: r) → S a → ∀ x ∈ a :: r, S x
  | a, [], _, ha, x, hx => by rw [List.mem_singleton.1 hx]; exact ha
  | a, b :: r, h, ha, x, hx => by
    rcases List.mem_cons.1 hx with rfl | hx
    · exact ha
    · exact Path.sub hS h.2 (hS a b ha h.1) x hx

/-- A circle: each element leads to the next, the last one to the first, and all are different. -/
def IsC (f : α → Option α) : List α → Prop
  | [] => False
  | a :: r => (a :: r).Nodup ∧ Path f (a :: r ++ [a])
theorem IsC.turn {f : α → Option α} {a b : α} {u v : List α} (h : IsC f (a :: u ++ b :: v)) : IsC f (b :: v ++ a :: u) := by
  obtain ⟨h1, h2⟩ := h
  refine ⟨?_, ?_⟩
  · have : (b :: v ++ a :: u).Perm (a :: u ++ b :: v) := List.perm_append_comm
    exact this.nodup_iff.2 h1
  · have h3 : Path f ((a :: u) ++ b :: (v ++ [a])) := by simpa using h2
    have h4 := path_split.1 h3
    have h5 : Path f ((b :: v) ++ a :: (u ++ [b])) := path_split.2 ⟨by simpa using h4.2, by simpa using h4.1⟩
    simpa using h5
/-- The same circle begins with each of its elements. -/
theorem IsC.at {f : α → Option α} {x : List α} (h : IsC f x) {z : α} (hz : z ∈ x) : ∃ p s, x = p ++ z :: s ∧ IsC f (z :: s ++ p) := by
  obtain ⟨p, s, rfl⟩ := List.append_of_mem hz
  refine ⟨p, s, rfl, ?_⟩
  cases p with
  | nil => simpa using h
  | cons a u => exact h.turn
theorem IsC.next {f : α → Option α} {x : List α} (h : IsC f x) {z : α} (hz : z ∈ x) : ∃ y ∈ x, f z = some y := by
  obtain ⟨p, s, rfl, h2⟩ := h.at hz
  have h3 : Path f (z :: (s ++ p) ++ [z]) := h2.2
  cases hq : s ++ p with
  | nil =>
    rw [hq] at h3
    exact ⟨z, by simp, h3.1⟩
  | cons b r =>
    rw [hq] at h3
    refine ⟨b, ?_, h3.1⟩
    have : b ∈ s ++ p := by rw [hq]; simp
    rcases List.mem_append.1 this with h | h <;> simp [h]
theorem IsC.closed {f : α → Option α} {x : List α} (h : IsC f x) : ∀ a b, a ∈ x → f a = some b → b ∈ x := fun a b ha hb => by
  obtain ⟨y, hy, hf⟩ := h.next ha
  rw [hb] at hf
  injection hf with hf
  rw [hf]; exact hy
/-- What is closed under f holds a circle of which it holds one element. -/
theorem IsC.sub {f : α → Option α} {S : α → Prop} (hS : ∀ a b, S a → f a = some b → S b) {x : List α} (h : IsC f x) {z : α} (hz : z ∈ x) (hs : S z) : ∀ y ∈ x, S y := by
  obtain ⟨p, s, rfl, h2⟩ := h.at hz
  intro y hy
  refine Path.sub hS h2.2.init hs y ?_
  rcases List.mem_append.1 hy with hy | hy
  · simp [hy]
  · rcases List.mem_cons.1 hy with rfl | hy <;> simp_all
theorem path_prefix {f : α → Option α} : ∀ {a : α} {r s : List α}, Path f (a :: r) → Path f (a :: s) → r.length ≤ s.length → ∃ t, s = r ++ t
  | a, [], s, _, _, _ => ⟨s, rfl⟩
  | a, b :: r, [], _, _, h => by simp at h
  | a, b :: r, c :: s, h1, h2, h => by
    have e := h1.1.symm.trans h2.1
    injection e with e
    subst e
    obtain ⟨t, rfl⟩ := path_prefix h1.2 h2.2 (by simpa using h)
    exact ⟨t, rfl⟩
theorem IsC.same_of_le {f : α → Option α} {a : α} {r s : List α} (h1 : IsC f (a :: r)) (h2 : IsC f (a :: s)) (h : r.length ≤ s.length) : r = s := by
  obtain ⟨t, ht⟩ := path_prefix (r := r ++ [a]) (s := s ++ [a]) h1.2 h2.2 (by simpa using h)
  cases t with
  | nil => rw [List.append_nil] at ht; exact (List.append_cancel_right ht).symm
  | cons b t =>
    exfalso
    have hl := congrArg List.length ht
    simp at hl
    have hi : (s ++ [a])[r.length]? = (r ++ [a] ++ b :: t)[r.length]? := by rw [ht]
    rw [List.append_assoc, List.getElem?_append_left (by omega), List.getElem?_append_right (Nat.le_refl _)] at hi
    simp at hi
    have hm : a ∈ s := List.mem_of_getElem? hi
    exact (List.nodup_cons.1 h2.1).1 hm
theorem IsC.same {f : α → Option α} {a : α} {r s : List α} (h1 : IsC f (a :: r)) (h2 : IsC f (a :: s)) : a :: r = a :: s := by
  rcases Nat.le_total r.length s.length with h | h
  · rw [h1.same_of_le h2 h]
  · rw [h2.same_of_le h1 h]
/-- The first element is less than all others. -/
def Least (lt : α → α → Prop) : List α → Prop
  | [] => True
  | a :: r => ∀ y ∈ r, lt a y
theorem IsC.one {f : α → Option α} {lt : α → α → Prop} (irr : ∀ a, ¬ lt a a) (tr : ∀ a b c, lt a b → lt b c → lt a c) {x y : List α} (h1 : IsC f x) (h2 : IsC f y) (l1 : Least lt x) (l2 : Least lt y) {z : α} (zx : z ∈ x) (zy : z ∈ y) : x = y := by
  have hxy : ∀ u ∈ x, u ∈ y := h1.sub (S := (· ∈ y)) h2.closed zx zy
  have hyx : ∀ u ∈ y, u ∈ x := h2.sub (S := (· ∈ x)) h1.closed zy zx
  cases x with
  | nil => exact h1.elim
  | cons a r =>
    cases y with
    | nil => exact h2.elim
    | cons b s =>
      have e : a = b := by
        rcases List.mem_cons.1 (hxy a (by simp)) with e | h
        · exact e
        · rcases List.mem_cons.1 (hyx b (by simp)) with e | h'
          · exact e.symm
          · exact absurd (tr _ _ _ (l2 a h) (l1 b h')) (irr b)
      subst e
      exact h1.same h2

/-! ### the directory's search -/
/-- The circles found so far: out holds each circle of which S has an element, once, from its least element on; S is closed. -/
structure Found (f : α → Option α) (lt : α → α → Prop) (S : List α) (out : List (List α)) : Prop where
  circ : ∀ x ∈ out, IsC f x ∧ Least lt x ∧ ∀ z ∈ x, z ∈ S
  all : ∀ y, IsC f y → Least lt y → (∃ z ∈ y, z ∈ S) → y ∈ out
  once : out.Nodup
  clos : ∀ a b, a ∈ S → f a = some b → b ∈ S
theorem Found.start (f : α → Option α) (lt : α → α → Prop) : Found f lt [] [] := ⟨(by simp), (fun y _ _ ⟨_, _, h⟩ => (nomatch h)), (by simp), (by simp)⟩
/-- A way under way: no element of it was seen before it. -/
structure OnW (f : α → Option α) (S W : List α) (at_ : α) : Prop where
  nodup : (S ++ W).Nodup
  path : Path f (W ++ [at_])
theorem OnW.start {f : α → Option α} {S : List α} (h : S.Nodup) (a : α) : OnW f S [] a := ⟨by simpa using h, by simp [Path]⟩
theorem OnW.on {f : α → Option α} {S W : List α} {a b : α} (h : OnW f S W a) (hn : a ∉ S ++ W) (hf : f a = some b) : OnW f S (W ++ [a]) b := by
  refine ⟨?_, ?_⟩
  · rw [← List.append_assoc, List.nodup_append]
    exact ⟨h.nodup, by simp, fun x hx y hy => by rw [List.mem_singleton.1 hy]; rintro rfl; exact hn hx⟩
  · rw [List.append_assoc]
    exact path_snoc.2 ⟨h.path, hf⟩
theorem path_tail_sub {f : α → Option α} {W : List α} {a : α} {y : List α} (hp : Path f (W ++ [a])) (hc : IsC f y) {z : α} (hz : z ∈ W ++ [a]) (hy : z ∈ y) : a ∈ y := by
  obtain ⟨p, s, e⟩ := List.append_of_mem hz
  rw [e] at hp
  have h2 := Path.sub hc.closed hp.right hy
  refine h2 a ?_
  have : (z :: s).getLast? = some a := by
    have h3 : (W ++ [a]).getLast? = some a := by simp
    rw [e, List.getLast?_append] at h3
    simpa using h3
  exact List.mem_of_getLast? this
/-- The way came to what was seen before it. -/
theorem Found.seen {f : α → Option α} {lt : α → α → Prop} {S W : List α} {out : List (List α)} {a : α} (h : Found f lt S out) (hw : OnW f S W a) (ha : a ∈ S) : Found f lt (S ++ W) out := by
  refine ⟨fun x hx => ⟨(h.circ x hx).1, (h.circ x hx).2.1, fun z hz => List.mem_append_left _ ((h.circ x hx).2.2 z hz)⟩, ?_, h.once, ?_⟩
  · rintro y hy hl ⟨z, hz, hzs⟩
    rcases List.mem_append.1 hzs with hzs | hzw
    · exact h.all y hy hl ⟨z, hz, hzs⟩
    · exact h.all y hy hl ⟨a, path_tail_sub hw.path hy (List.mem_append_left _ hzw) hz, ha⟩
  · intro x b hx hb
    rcases List.mem_append.1 hx with hx | hx
    · exact List.mem_append_left _ (h.clos x b hx hb)
    · obtain ⟨p, s, rfl⟩ := List.append_of_mem hx
      have hp := hw.path
      rw [List.append_assoc] at hp
      have hp2 := hp.right
      cases s with
      | nil =>
        have := hp2.1
        rw [hb] at this
        injection this with this
        subst this
        exact List.mem_append_left _ ha
      | cons c s =>
        have := hp2.1
        rw [hb] at this
        injection this with this
        subst this
        simp
/-- The way ends. -/
theorem Found.ends {f : α → Option α} {lt : α → α → Prop} {S W : List α} {out : List (List α)} {a : α} (h : Found f lt S out) (hw : OnW f S W a) (ha : f a = none) : Found f lt (S ++ (W ++ [a])) out := by
  refine ⟨fun x hx => ⟨(h.circ x hx).1, (h.circ x hx).2.1, fun z hz => List.mem_append_left _ ((h.circ x hx).2.2 z hz)⟩, ?_, h.once, ?_⟩
  · rintro y hy hl ⟨z, hz, hzs⟩
    rcases List.mem_append.1 hzs with hzs | hzw
    · exact h.all y hy hl ⟨z, hz, hzs⟩
    · have h1 := path_tail_sub hw.path hy hzw hz
      obtain ⟨_, _, h2⟩ := hy.next h1
      rw [ha] at h2; cases h2
  · intro x b hx hb
    rcases List.mem_append.1 hx with hx | hx
    · exact List.mem_append_left _ (h.clos x b hx hb)
    · obtain ⟨p, s, e⟩ := List.append_of_mem hx
      have hp := hw.path
      rw [e] at hp
      have hp2 := hp.right
      cases s with
      | nil =>
        have : x = a := by
          have := congrArg List.getLast? e
          simpa using this.symm
        rw [this, ha] at hb; cases hb
      | cons c s =>
        have := hp2.1
        rw [hb] at this
        injection this with this
        subst this
        rw [e]; simp
/-- The way closes: its end is a circle that was not seen. -/
theorem OnW.circle {f : α → Option α} {S W V : List α} {a b : α} (hw : OnW f S (W ++ b :: V) a) (hn : a ∉ S ++ (W ++ b :: V)) (ha : f a = some b) : IsC f (b :: V ++ [a]) := by
  refine ⟨?_, ?_⟩
  · have h1 := (hw.on hn ha).nodup
    have : (S ++ W ++ (b :: V ++ [a])).Nodup := by simpa using h1
    exact (List.nodup_append.1 this).2.1
  · have h1 := (hw.on hn ha).path
    have h2 : Path f (W ++ (b :: V ++ [a] ++ [b])) := by simpa using h1
    exact h2.right
theorem OnW.circ {f : α → Option α} {S W : List α} {a b : α} {j : Nat} (hw : OnW f S W a) (hn : a ∉ S ++ W) (ha : f a = some b) (hj : (W ++ [a])[j]? = some b) : IsC f ((W ++ [a]).drop j) := by
  obtain ⟨hl, he⟩ := List.getElem?_eq_some_iff.1 hj
  have h1 := hw.on hn ha
  have h2 : (W ++ [a]).drop j = b :: (W ++ [a]).drop (j + 1) := by rw [List.drop_eq_getElem_cons hl, he]
  have h3 := h1.path
  rw [← List.take_append_drop j (W ++ [a]), List.append_assoc] at h3
  have h4 := h3.right
  have h5 : ((W ++ [a]).drop j).Nodup := (List.drop_sublist j (W ++ [a])).nodup (List.nodup_append.1 h1.nodup).2.1
  rw [h2] at h4 h5 ⊢
  exact ⟨h5, h4⟩
theorem OnW.circle1 {f : α → Option α} {a : α} (ha : f a = some a) : IsC f [a] := ⟨by simp, ha, trivial⟩
theorem Found.closes {f : α → Option α} {lt : α → α → Prop} (irr : ∀ a, ¬ lt a a) (tr : ∀ a b c, lt a b → lt b c → lt a c) {S W : List α} {out : List (List α)} {a b : α} (h : Found f lt S out) (hw : OnW f S W a) (hn : a ∉ S ++ W) (ha : f a = some b) {x : List α} (hx : IsC f x) (hl : Least lt x) (hax : a ∈ x) (hxw : ∀ z ∈ x, z ∈ W ++ [a]) : Found f lt (S ++ (W ++ [a])) (out ++ [x]) := by
  have hbx : b ∈ x := hx.closed a b hax ha
  have hnd : (S ++ (W ++ [a])).Nodup := (hw.on hn ha).nodup
  refine ⟨?_, ?_, ?_, ?_⟩
  · intro y hy
    rcases List.mem_append.1 hy with hy | hy
    · exact ⟨(h.circ y hy).1, (h.circ y hy).2.1, fun z hz => List.mem_append_left _ ((h.circ y hy).2.2 z hz)⟩
    · rw [List.mem_singleton.1 hy]
      exact ⟨hx, hl, fun z hz => List.mem_append_right _ (hxw z hz)⟩
  · rintro y hy hyl ⟨z, hz, hzs⟩
    rcases List.mem_append.1 hzs with hzs | hzw
    · exact List.mem_append_left _ (h.all y hy hyl ⟨z, hz, hzs⟩)
    · have h1 := path_tail_sub hw.path hy hzw hz
      rw [hx.one irr tr hy hl hyl hax h1]
      simp
  · rw [List.nodup_append]
    refine ⟨h.once, by simp, ?_⟩
    intro y hy z hz
    rw [List.mem_singleton.1 hz]
    rintro rfl
    have h1 := (h.circ y hy).2.2 a hax
    exact (List.nodup_append.1 hnd).2.2 a h1 a (by simp) rfl
  · intro y c hy hc
    rcases List.mem_append.1 hy with hy | hy
    · exact List.mem_append_left _ (h.clos y c hy hc)
    · obtain ⟨p, s, e⟩ := List.append_of_mem hy
      have hp := hw.path
      rw [e] at hp
      have hp2 := hp.right
      cases s with
      | nil =>
        have : y = a := by
          have := congrArg List.getLast? e
          simpa using this.symm
        rw [this, ha] at hc
        injection hc with hc
        subst hc
        exact List.mem_append_right _ (hxw _ hbx)
      | cons d s =>
        have := hp2.1
        rw [hc] at this
        injection this with this
        subst this
        rw [e]; simp
/-- Two circles that begin with the same element are one. -/
theorem heads_one {f : α → Option α} {x y : List α} (h1 : IsC f x) (h2 : IsC f y) (h : x.head? = y.head?) : x = y := by
  cases x with
  | nil => exact h1.elim
  | cons a r =>
    cases y with
    | nil => exact h2.elim
    | cons b s =>
      simp at h
      subst h
      exact h1.same h2

end Go.Proofs.YtnphlekailodkaaGreatDoor.Cg

namespace Go.Proofs.YtnphlekailodkaaGreatDoor
namespace Pe
open Cg

/-- Where a pair leads, if to a pair. -/
def nextP (l : List Ent) (d : Int) (c : Pair) : Option Pair := if (step l c d).2 = 2 then some (step l c d).1.to else none
theorem nextP_some {l : List Ent} {d : Int} {c b : Pair} : nextP l d c = some b ↔ (step l c d).2 = 2 ∧ (step l c d).1.to = b := by
  unfold nextP
  split
  · rename_i h; simp [h]
  · rename_i h; simp [h]
theorem nextP_none {l : List Ent} {d : Int} {c : Pair} : nextP l d c = none ↔ (step l c d).2 ≠ 2 := by
  unfold nextP
  split
  · rename_i h; simp [h]
  · rename_i h; simp [h]
/-- The pairs to which one entry may lead. -/
def tgt (l : List Ent) (d : Int) (x : Ent) : List Pair := if x.kind = 5 then (if (target l x d).2 = true then [(target l x d).1] else []) else if x.kind = 4 then (if (reached l x.other d).2 = true then [(reached l x.other d).1] else []) else []
/-- The pairs to which some entries may lead, in the order of the entries. -/
def tgts (l : List Ent) (d : Int) (m : List Ent) : List Pair := m.flatMap (tgt l d)
theorem tgts_snoc (l : List Ent) (d : Int) (m : List Ent) (x : Ent) : tgts l d (m ++ [x]) = tgts l d m ++ tgt l d x := by simp [tgts]
theorem tgts_length (l : List Ent) (d : Int) : ∀ m : List Ent, (tgts l d m).length ≤ m.length
  | [] => by simp [tgts]
  | x :: m => by
    have ih := tgts_length l d m
    have h : (tgt l d x).length ≤ 1 := by
      unfold tgt
      repeat' split
      all_goals simp
    simp only [tgts, List.flatMap_cons, List.length_append, List.length_cons] at ih ⊢
    omega
theorem step_tgt {l : List Ent} {c : Pair} {d : Int} (h : (step l c d).2 = 2) : (step l c d).1.to ∈ tgts l d l := by
  unfold step at h ⊢
  split
  · rename_i hd
    rw [if_pos hd] at h
    split
    · rename_i hh; simp only [hh] at h; cases h
    · rename_i p hh
      simp only [hh] at h
      split
      · rename_i hr
        unfold heir? at hh
        rw [lastOf_onDay] at hh
        obtain ⟨x, hx, rfl⟩ := Option.map_eq_some_iff.1 hh
        obtain ⟨hm, hq⟩ := lastOf_some hx
        refine List.mem_flatMap.2 ⟨x, hm, ?_⟩
        simp only [Bool.and_eq_true, beq_iff_eq] at hq
        unfold tgt
        rw [if_neg (by rw [hq.2.1]; decide), if_pos hq.2.1, if_pos hr]
        simp
      · rename_i hr; rw [if_neg hr] at h; cases h
  · rename_i hd
    rw [if_neg hd] at h
    split
    · rename_i hh; simp only [hh] at h; cases h
    · rename_i x hh
      simp only [hh] at h
      split
      · rename_i hr
        rw [order_eq] at hh
        unfold orderR at hh
        have hx : x ∈ l ∧ applies l c d x = true := by
          rcases Option.or_eq_some_iff.1 hh with h1 | ⟨_, h1⟩
          · have := lastOf_some h1
            simp only [Bool.and_eq_true] at this
            exact ⟨this.1, this.2.1⟩
          · exact lastOf_some h1
        refine List.mem_flatMap.2 ⟨x, hx.1, ?_⟩
        have hk := hx.2
        unfold applies at hk
        simp only [Bool.and_eq_true, beq_iff_eq] at hk
        unfold tgt
        rw [if_pos hk.1.1.1, if_pos hr]
        simp
      · rename_i hr; rw [if_neg hr] at h; cases h
theorem next_tgt {l : List Ent} {c b : Pair} {d : Int} (h : nextP l d c = some b) : b ∈ tgts l d l := by
  obtain ⟨h1, rfl⟩ := nextP_some.1 h
  exact step_tgt h1
theorem circ_tgts {l : List Ent} {d : Int} {x : List Pair} (h : IsC (nextP l d) x) : ∀ z ∈ x, z ∈ tgts l d l := by
  intro z hz
  obtain ⟨p, s, rfl, h2⟩ := h.at hz
  have h3 : Path (nextP l d) ((z :: (s ++ p)) ++ [z]) := h2.2
  obtain ⟨w, hw⟩ : ∃ w, (z :: (s ++ p)).getLast? = some w := by
    cases hq : (z :: (s ++ p)).getLast? with
    | none => simp at hq
    | some w => exact ⟨w, rfl⟩
  obtain ⟨q, hq⟩ := List.getLast?_eq_some_iff.1 hw
  rw [hq, List.append_assoc] at h3
  have h4 : Path (nextP l d) (q ++ [w, z]) := h3
  exact next_tgt (path_snoc.1 h4).2
theorem circ_length {l : List Ent} {d : Int} {x : List Pair} (h : IsC (nextP l d) x) : x.length ≤ l.length := by
  have hn : x.Nodup := by
    cases x with
    | nil => exact h.elim
    | cons a r => exact h.1
  have h1 := nodup_le hn (circ_tgts h)
  have h2 := tgts_length l d l
  omega

/-! ### the reference's circle -/
theorem path_nodup {f : Pair → Option Pair} {c : Pair} {r : List Pair} (h : Path f (c :: r ++ [c])) (hc : c ∉ r) : (c :: r).Nodup := by
  rw [List.nodup_cons]
  refine ⟨hc, ?_⟩
  suffices hh : ∀ s p, r = p ++ s → s.Nodup by exact hh r [] rfl
  intro s
  induction s with
  | nil => simp
  | cons z s ih =>
    intro p e
    have hs : s.Nodup := ih (p ++ [z]) (by simpa using e)
    rw [List.nodup_cons]
    refine ⟨fun hz => ?_, hs⟩
    obtain ⟨q, t, rfl⟩ := List.append_of_mem hz
    have h1 : Path f ((c :: p) ++ (z :: (q ++ z :: (t ++ [c])))) := by rw [e] at h; simpa using h
    have h2 := h1.right
    have h3 : Path f ((z :: q) ++ (z :: (t ++ [c]))) := h2
    have h4 := h3.right
    obtain ⟨u, hu⟩ := path_prefix h4 h2 (by simp; omega)
    have hl := congrArg List.length hu
    simp at hl
    have hi : (q ++ z :: (t ++ [c]))[t.length]? = (t ++ [c] ++ u)[t.length]? := by rw [hu]
    rw [List.append_assoc t, List.getElem?_append_right (Nat.le_refl _), show q ++ z :: (t ++ [c]) = (q ++ z :: t) ++ [c] by simp, List.getElem?_append_left (by simp; omega)] at hi
    simp at hi
    have hm : c ∈ q ++ z :: t := List.mem_of_getElem? hi
    apply hc
    rw [e]
    simp only [List.mem_append, List.mem_cons] at hm ⊢
    rcases hm with h | h | h <;> simp [h]
theorem circleFrom_sound {l : List Ent} {c : Pair} {d : Int} : ∀ {n : Nat} {r x : List Pair}, Path (nextP l d) (c :: r) → (∀ y ∈ r, ltP c y) → circleFrom l c d n (c :: r) = (x, true) → IsC (nextP l d) x ∧ Least ltP x ∧ x.head? = some c
  | 0, r, x, _, _, h => by simp [circleFrom] at h
  | n + 1, r, x, hp, hl, h => by
    obtain ⟨a, ha⟩ : ∃ a, (c :: r).getLast? = some a := by
      cases hq : (c :: r).getLast? with
      | none => simp at hq
      | some w => exact ⟨w, rfl⟩
    have hpa : ∀ b, nextP l d a = some b → Path (nextP l d) (c :: r ++ [b]) := by
      intro b hb
      obtain ⟨q, hq⟩ := List.getLast?_eq_some_iff.1 ha
      rw [hq] at hp ⊢
      rw [List.append_assoc]
      exact path_snoc.2 ⟨hp, hb⟩
    unfold circleFrom at h
    rw [ha] at h
    simp only [Option.getD_some] at h
    split at h
    · cases h
    · rename_i h2
      have h2 : (step l a d).2 = 2 := Classical.not_not.1 h2
      split at h
      · rename_i hto
        injection h with h _
        subst h
        have hnx := hpa c (nextP_some.2 ⟨h2, hto⟩)
        refine ⟨⟨path_nodup hnx (fun hc => ltP_irr c (hl c hc)), hnx⟩, hl, rfl⟩
      · rename_i hto
        split at h
        · cases h
        · rename_i hfp
          refine circleFrom_sound (hpa _ (nextP_some.2 ⟨h2, rfl⟩)) (fun y hy => ?_) h
          rcases List.mem_append.1 hy with hy | hy
          · exact hl y hy
          · rw [List.mem_singleton.1 hy]
            rw [firstP_iff] at hfp
            unfold ltP at hfp ⊢
            by_cases e1 : (step l a d).1.to.1 = c.1
            · refine .inr ⟨e1.symm, ?_⟩
              have : (step l a d).1.to.2 ≠ c.2 := fun e2 => hto (Prod.ext e1 e2)
              omega
            · omega
theorem circleFrom_full {l : List Ent} {c : Pair} {d : Int} : ∀ {n : Nat} {o s : List Pair} {a : Pair}, IsC (nextP l d) (o ++ a :: s) → Least ltP (o ++ a :: s) → (o ++ a :: s).head? = some c → s.length + 1 ≤ n → circleFrom l c d n (o ++ [a]) = (o ++ a :: s, true)
  | 0, o, s, a, _, _, _, h => by omega
  | n + 1, o, s, a, hc, hl, hh, hn => by
    have hx : ∃ r, o ++ a :: s = c :: r := by
      cases o with
      | nil => simp at hh; subst hh; exact ⟨s, rfl⟩
      | cons b o => simp at hh; subst hh; exact ⟨o ++ a :: s, rfl⟩
    obtain ⟨r, hr⟩ := hx
    have hc' := hc
    rw [hr] at hc
    have hp : Path (nextP l d) (o ++ a :: (s ++ [c])) := by
      have := hc.2
      rw [← hr] at this
      simpa using this
    have hp := hp.right
    unfold circleFrom
    simp only [List.getLast?_append, List.getLast?_singleton, Option.some_or, Option.getD_some]
    cases s with
    | nil =>
      obtain ⟨h2, hto⟩ := nextP_some.1 hp.1
      rw [if_neg (by rw [h2]; simp), if_pos hto]
    | cons b s =>
      obtain ⟨h2, hto⟩ := nextP_some.1 hp.1
      have hlt : ltP c b := by
        rw [hr] at hl
        refine hl b ?_
        have hb : b ∈ c :: r := by rw [← hr]; simp
        rcases List.mem_cons.1 hb with e | h
        · exfalso
          subst e
          have hnd := (List.nodup_cons.1 hc.1).1
          cases o with
          | nil =>
            simp at hr
            exact hnd (by rw [← hr.2]; simp)
          | cons q o =>
            simp at hr
            exact hnd (by rw [← hr.2]; simp)
        · exact h
      rw [if_neg (by rw [h2]; simp), hto, if_neg (fun e => ltP_irr c (by rw [e] at hlt; exact hlt)), if_neg (by rw [firstP_iff]; exact fun h => ltP_irr c (ltP_tr _ _ _ hlt h))]
      have := circleFrom_full (n := n) (o := o ++ [a]) (s := s) (a := b) (c := c) (by simpa using hc') (by simpa using hl) (by simpa using hh) (by simp at hn; omega)
      simpa using this
theorem circleR_sound {l : List Ent} {c : Pair} {d : Int} (h : (circleR l c d).2 = true) : IsC (nextP l d) (circleR l c d).1 ∧ Least ltP (circleR l c d).1 ∧ (circleR l c d).1.head? = some c := by
  unfold circleR at *
  exact circleFrom_sound (r := []) (by simp [Path]) (by simp) (Prod.ext rfl h)
theorem circleR_full {l : List Ent} {c : Pair} {d : Int} {r : List Pair} (h : IsC (nextP l d) (c :: r)) (hl : Least ltP (c :: r)) : circleR l c d = (c :: r, true) := by
  unfold circleR
  have := circ_length h
  exact circleFrom_full (o := []) h hl rfl (by simp at this; omega)

/-! ### the list of all circles -/
/-- The pairs to which entries may lead, sorted: the reference's list. -/
def allR (l : List Ent) (d : Int) (m : List Ent) : List Pair := (tgts l d m).foldl (fun a c => insP c a) []
theorem allR_snoc (l : List Ent) (d : Int) (m : List Ent) (x : Ent) : allR l d (m ++ [x]) = (tgt l d x).foldl (fun a c => insP c a) (allR l d m) := by
  unfold allR
  rw [tgts_snoc, List.foldl_append]
theorem mem_fold (z : Pair) : ∀ (t a : List Pair), z ∈ t.foldl (fun a c => insP c a) a ↔ z ∈ t ∨ z ∈ a
  | [], a => by simp
  | c :: t, a => by
    rw [List.foldl_cons, mem_fold z t, mem_insP]
    simp only [List.mem_cons]
    constructor
    · rintro (h | h | h) <;> simp [h]
    · rintro ((h | h) | h) <;> simp [h]
theorem mem_allR (l : List Ent) (d : Int) (m : List Ent) (z : Pair) : z ∈ allR l d m ↔ z ∈ tgts l d m := by
  unfold allR
  rw [mem_fold]; simp
theorem fold_sorted : ∀ (t a : List Pair), a.Pairwise ltP → (t.foldl (fun a c => insP c a) a).Pairwise ltP
  | [], _, h => h
  | c :: t, _, h => fold_sorted t _ (insP_sorted c h)
theorem allR_sorted (l : List Ent) (d : Int) (m : List Ent) : (allR l d m).Pairwise ltP := fold_sorted _ _ (by simp)
theorem fold_length : ∀ (t a : List Pair), (t.foldl (fun a c => insP c a) a).length ≤ a.length + t.length
  | [], a => by simp
  | c :: t, a => by
    have h1 := fold_length t (insP c a)
    have h2 := insP_length c a
    simp only [List.foldl_cons, List.length_cons]
    omega
theorem allR_length (l : List Ent) (d : Int) (m : List Ent) : (allR l d m).length ≤ m.length := by
  have h1 := fold_length (tgts l d m) []
  have h2 := tgts_length l d m
  simp at h1
  unfold allR
  omega
theorem tgts_next {l : List Ent} {d : Int} {x : Ent} {i : Nat} (hx : l[i]? = some x) : tgts l d (l.take (i + 1)) = tgts l d (l.take i) ++ tgt l d x := by
  rw [List.take_add_one, hx]
  exact tgts_snoc l d (l.take i) x
theorem allR_on {l : List Ent} {d : Int} {x : Ent} {i : Nat} (hx : l[i]? = some x) (h : tgt l d x = []) : allR l d (l.take (i + 1)) = allR l d (l.take i) := by
  rw [List.take_add_one, hx]
  show allR l d (l.take i ++ [x]) = _
  rw [allR_snoc, h]; rfl
theorem allR_put {l : List Ent} {d : Int} {x : Ent} {c : Pair} {i : Nat} (hx : l[i]? = some x) (h : tgt l d x = [c]) : allR l d (l.take (i + 1)) = insP c (allR l d (l.take i)) := by
  rw [List.take_add_one, hx]
  show allR l d (l.take i ++ [x]) = _
  rw [allR_snoc, h]; rfl
theorem tgt_order {l : List Ent} {d : Int} {x : Ent} (h : x.kind = 5) : tgt l d x = if (target l x d).2 = true then [(target l x d).1] else [] := by
  unfold tgt; rw [if_pos h]
theorem tgt_heir {l : List Ent} {d : Int} {x : Ent} (h : x.kind = 4) : tgt l d x = if (reached l x.other d).2 = true then [(reached l x.other d).1] else [] := by
  unfold tgt; rw [if_neg (by rw [h]; decide), if_pos h]
theorem tgt_none {l : List Ent} {d : Int} {x : Ent} (h : x.kind ≠ 5) (h2 : x.kind ≠ 4) : tgt l d x = [] := by
  unfold tgt; rw [if_neg h, if_neg h2]
/-- The circles that begin with some pairs. -/
def circsOf (l : List Ent) (d : Int) (a : List Pair) : List (List Pair) := a.flatMap fun c => if (circleR l c d).2 = true then [(circleR l c d).1] else []
theorem circsOf_snoc (l : List Ent) (d : Int) (a : List Pair) (c : Pair) : circsOf l d (a ++ [c]) = circsOf l d a ++ (if (circleR l c d).2 = true then [(circleR l c d).1] else []) := by simp [circsOf]
theorem circsOf_length (l : List Ent) (d : Int) : ∀ a : List Pair, (circsOf l d a).length ≤ a.length
  | [] => by simp [circsOf]
  | c :: a => by
    have ih := circsOf_length l d a
    have h : (if (circleR l c d).2 = true then [(circleR l c d).1] else []).length ≤ 1 := by split <;> simp
    simp only [circsOf, List.flatMap_cons, List.length_append, List.length_cons] at ih ⊢
    omega
/-- All circles of hops, in the order of their least pairs: the reference's list. -/
def loopsR (l : List Ent) (d : Int) : List (List Pair) := circsOf l d (allR l d l)
/-- Loops, with its error. -/
def loops (l : List Ent) (d : Int) : List (List Pair) × Int := if d < 0 then ([], 1) else if 100000 < d then ([], 1) else (loopsR l d, 0)
theorem mem_loopsR (l : List Ent) (d : Int) (x : List Pair) : x ∈ loopsR l d ↔ IsC (nextP l d) x ∧ Least ltP x := by
  unfold loopsR circsOf
  rw [List.mem_flatMap]
  constructor
  · rintro ⟨c, hc, hx⟩
    split at hx
    · rename_i h
      rw [List.mem_singleton.1 hx]
      exact ⟨(circleR_sound h).1, (circleR_sound h).2.1⟩
    · cases hx
  · rintro ⟨h1, h2⟩
    cases x with
    | nil => exact h1.elim
    | cons c r =>
      refine ⟨c, (mem_allR l d l c).2 (circ_tgts h1 c (by simp)), ?_⟩
      rw [circleR_full h1 h2]; simp
/-- The order of two circles: that of their first pairs. -/
def ltC (x y : List Pair) : Prop := ∃ a b, x.head? = some a ∧ y.head? = some b ∧ ltP a b
theorem ltC_irr (x : List Pair) : ¬ ltC x x := by
  rintro ⟨a, b, h1, h2, h3⟩
  rw [h1] at h2
  injection h2 with h2
  subst h2
  exact ltP_irr a h3
theorem ltC_tr (x y z : List Pair) (h1 : ltC x y) (h2 : ltC y z) : ltC x z := by
  obtain ⟨a, b, e1, e2, h1⟩ := h1
  obtain ⟨b', c, e3, e4, h2⟩ := h2
  rw [e2] at e3
  injection e3 with e3
  subst e3
  exact ⟨a, c, e1, e4, ltP_tr _ _ _ h1 h2⟩
theorem circsOf_sorted {l : List Ent} {d : Int} : ∀ {a : List Pair}, a.Pairwise ltP → (circsOf l d a).Pairwise ltC
  | [], _ => by simp [circsOf]
  | c :: a, h => by
    rw [List.pairwise_cons] at h
    have ih := circsOf_sorted (l := l) (d := d) h.2
    have e : circsOf l d (c :: a) = (if (circleR l c d).2 = true then [(circleR l c d).1] else []) ++ circsOf l d a := rfl
    rw [e]
    split
    · rename_i hc
      rw [List.singleton_append, List.pairwise_cons]
      refine ⟨fun y hy => ?_, ih⟩
      unfold circsOf at hy
      obtain ⟨b, hb, hy⟩ := List.mem_flatMap.1 hy
      split at hy
      · rename_i hbc
        rw [List.mem_singleton.1 hy]
        exact ⟨c, b, (circleR_sound hc).2.2, (circleR_sound hbc).2.2, h.1 b hb⟩
      · cases hy
    · exact ih
theorem loopsR_sorted (l : List Ent) (d : Int) : (loopsR l d).Pairwise ltC := circsOf_sorted (allR_sorted l d l)
/-- What the directory has found, sorted, is the reference's list. -/
theorem found_loops {l : List Ent} {d : Int} {S : List Pair} {out out' : List (List Pair)} (h : Cg.Found (nextP l d) ltP S out) (hS : ∀ z ∈ tgts l d l, z ∈ S) (hp : out'.Perm out) (hs : out'.Pairwise (fun x y => ¬ ltC y x)) : out' = loopsR l d := by
  have hmem : ∀ x, x ∈ out' ↔ x ∈ loopsR l d := fun x => by
    rw [hp.mem_iff, mem_loopsR]
    constructor
    · exact fun hx => ⟨(h.circ x hx).1, (h.circ x hx).2.1⟩
    · rintro ⟨h1, h2⟩
      refine h.all x h1 h2 ?_
      cases x with
      | nil => exact h1.elim
      | cons a r => exact ⟨a, by simp, hS a (circ_tgts h1 a (by simp))⟩
  refine sorted_ext ltC_irr ltC_tr ?_ (loopsR_sorted l d) hmem
  have hn : out'.Nodup := hp.nodup_iff.2 h.once
  have hb := List.pairwise_and_iff.2 ⟨hs, hn⟩
  refine List.Pairwise.imp_of_mem ?_ hb
  intro x y hx hy ⟨h1, h2⟩
  have cx := ((mem_loopsR l d x).1 ((hmem x).1 hx)).1
  have cy := ((mem_loopsR l d y).1 ((hmem y).1 hy)).1
  cases x with
  | nil => exact cx.elim
  | cons a r =>
    cases y with
    | nil => exact cy.elim
    | cons b s =>
      refine ⟨a, b, rfl, rfl, ?_⟩
      have hne : a ≠ b := fun e => h2 (heads_one cx cy (by simp [e]))
      have hnl : ¬ ltP b a := fun hl => h1 ⟨b, a, rfl, rfl, hl⟩
      unfold ltP at hnl ⊢
      by_cases e1 : a.1 = b.1
      · refine .inr ⟨e1, ?_⟩
        have : a.2 ≠ b.2 := fun e2 => hne (Prod.ext e1 e2)
        omega
      · omega
/-- A circle turned to its least pair. -/
theorem turned_least {f : Pair → Option Pair} {x : List Pair} {k : Nat} (h : IsC f x) (hk : k < x.length) (hl : ∀ z ∈ x, ¬ ltP z (x[k])) : IsC f (x.drop k ++ x.take k) ∧ Least ltP (x.drop k ++ x.take k) ∧ ∀ z, z ∈ x.drop k ++ x.take k ↔ z ∈ x := by
  have hm : ∀ z, z ∈ x.drop k ++ x.take k ↔ z ∈ x := fun z => by
    rw [List.mem_append, Or.comm, ← List.mem_append, List.take_append_drop]
  have hd : x.drop k = x[k] :: x.drop (k + 1) := List.drop_eq_getElem_cons hk
  have hc : IsC f (x.drop k ++ x.take k) := by
    cases ht : x.take k with
    | nil =>
      have : x.drop k = x := by
        have := List.take_append_drop k x
        rw [ht, List.nil_append] at this
        exact this
      rw [this]; simpa using h
    | cons a u =>
      have h2 : x = a :: u ++ x[k] :: x.drop (k + 1) := by rw [← ht, ← hd, List.take_append_drop]
      rw [h2] at h
      rw [hd]
      exact h.turn
  refine ⟨hc, ?_, hm⟩
  rw [hd] at hc hm ⊢
  intro y hy
  have hyx : y ∈ x := (hm y).1 (by simp only [List.cons_append, List.mem_cons]; exact .inr hy)
  have hne : x[k] ≠ y := fun e => by
    have := hc.1
    rw [List.nodup_cons] at this
    exact this.1 (by rw [e]; exact hy)
  have hnl := hl y hyx
  unfold ltP at hnl ⊢
  by_cases e1 : x[k].1 = y.1
  · refine .inr ⟨e1, ?_⟩
    have : x[k].2 ≠ y.2 := fun e2 => hne (Prod.ext e1 e2)
    omega
  · omega

end Pe
end Go.Proofs.YtnphlekailodkaaGreatDoor

namespace Go.Proofs.YtnphlekailodkaaGreatDoor
open Go.RowKit

theorem infoCandsN : (Tryz.prog.info? 46).map (fun i => (i.zero, i.size, i.bytes)) = some (some (.slice none 0 0), 1, 24) := by kernel_rfl
/-- Lists of pairs, each in a row of its own from base on. -/
structure RowsAt (w : World) (base : Nat) (LL : List (List Pe.Pair)) (vs : List Value) : Prop where
  len : vs.length = LL.length
  row : ∀ (i : Nat) (x : List Pe.Pair), LL[i]? = some x → ∃ v, vs[i]? = some v ∧ w.ownsRow base 28 2 v x.length (pRow x)
theorem RowsAt.nil (w : World) (base : Nat) : RowsAt w base [] [] := ⟨rfl, fun i x h => by simp at h⟩
theorem RowsAt.below {w w' : World} {base : Nat} {LL : List (List Pe.Pair)} {vs : List Value} (h : RowsAt w base LL vs) (hb : Below w.heap.size w w') : RowsAt w' base LL vs :=
  ⟨h.len, fun i x hx => by obtain ⟨v, h1, h2⟩ := h.row i x hx; exact ⟨v, h1, own_below h2 hb⟩⟩
theorem RowsAt.weaken {w : World} {base base' : Nat} {LL : List (List Pe.Pair)} {vs : List Value} (h : RowsAt w base LL vs) (hb : base' ≤ base) : RowsAt w base' LL vs :=
  ⟨h.len, fun i x hx => by obtain ⟨v, h1, h2⟩ := h.row i x hx; exact ⟨v, h1, own_weaken h2 hb⟩⟩
theorem own_keeps {w w' : World} {base b2 n k : Nat} {v u : Value} {xs us : List Value} (h : w.ownsRow base 28 2 v n xs) (h2 : w.ownsRow b2 46 1 u k us) (hg : w.grownBy w' u.ownBlock) : w'.ownsRow base 28 2 v n xs := by
  refine ⟨h.1, h.2.imp id ?_⟩
  rintro ⟨g, cap, cur, rfl, h4, h5, h6⟩
  exact ⟨g, cap, cur, rfl, h4, Blk.grown (t := 28) h5 hg (fun e => own_ne_blk (t := 28) h2 h5 (by decide) g e.symm rfl), h6⟩
theorem RowsAt.grown {w w' : World} {base b2 k : Nat} {LL : List (List Pe.Pair)} {u : Value} {vs us : List Value} (h : RowsAt w base LL vs) (h2 : w.ownsRow b2 46 1 u k us) (hg : w.grownBy w' u.ownBlock) : RowsAt w' base LL vs :=
  ⟨h.len, fun i x hx => by obtain ⟨v, h3, h4⟩ := h.row i x hx; exact ⟨v, h3, own_keeps h4 h2 hg⟩⟩
theorem RowsAt.snoc {w : World} {base : Nat} {LL : List (List Pe.Pair)} {vs : List Value} {x : List Pe.Pair} {v : Value} (h : RowsAt w base LL vs) (h2 : w.ownsRow base 28 2 v x.length (pRow x)) : RowsAt w base (LL ++ [x]) (vs ++ [v]) := by
  refine ⟨by simp [h.len], fun i y hy => ?_⟩
  by_cases hi : i < LL.length
  · rw [List.getElem?_append_left hi] at hy
    obtain ⟨u, h3, h4⟩ := h.row i y hy
    exact ⟨u, by rw [List.getElem?_append_left (by rw [h.len]; exact hi)]; exact h3, h4⟩
  · have hl : i < (LL ++ [x]).length := (List.getElem?_eq_some_iff.1 hy).1
    have : i = LL.length := by simp at hl; omega
    subst this
    simp at hy
    subst hy
    exact ⟨v, by rw [← h.len]; simp, h2⟩
theorem slice_one {w : World} {base n : Nat} {v : Value} {xs : List Value} {e : TypeId} {size : Nat} (h : w.ownsRow base e size v n xs) : v.oneCell' = true := by
  obtain ⟨A, c, rfl, _⟩ := own_shape h
  rfl
/-- A list of lists of pairs: its row and its lists' rows, from base on. -/
def CircsAt (w : World) (base : Nat) (LL : List (List Pe.Pair)) (v : Value) : Prop := ∃ vs, w.ownsRow base 46 1 v LL.length vs ∧ RowsAt w base LL vs
theorem CircsAt.nil (w : World) (base : Nat) : CircsAt w base [] (.slice none 0 0) := ⟨[], World.ownsRow_nil _ _ _ _, RowsAt.nil _ _⟩
theorem CircsAt.below {w w' : World} {base : Nat} {LL : List (List Pe.Pair)} {v : Value} (h : CircsAt w base LL v) (hb : Below w.heap.size w w') : CircsAt w' base LL v := by
  obtain ⟨vs, h1, h2⟩ := h
  exact ⟨vs, own_below h1 hb, h2.below hb⟩
theorem CircsAt.weaken {w : World} {base base' : Nat} {LL : List (List Pe.Pair)} {v : Value} (h : CircsAt w base LL v) (hb : base' ≤ base) : CircsAt w base' LL v := by
  obtain ⟨vs, h1, h2⟩ := h
  exact ⟨vs, own_weaken h1 hb, h2.weaken hb⟩
/-- A list of lists of pairs, to be read. -/
structure RowssAt (w : World) (A : Option Addr) (n : Nat) (LL : List (List Pe.Pair)) : Prop where
  len : n = LL.length
  one : ∀ (i : Nat) (x : List Pe.Pair), LL[i]? = some x → ∃ ad B c, A = some ad ∧ ad.block < w.heap.size ∧ w.cell? (ad.add i) = some (.slice B x.length c) ∧ x.length ≤ c ∧ PairsAt w B x.length x
theorem RowssAt.below {w w' : World} {A : Option Addr} {n : Nat} {LL : List (List Pe.Pair)} (h : RowssAt w A n LL) (hb : Below w.heap.size w w') : RowssAt w' A n LL := by
  refine ⟨h.len, fun i x hx => ?_⟩
  obtain ⟨ad, B, c, h1, h2, h3, h4, h5⟩ := h.one i x hx
  exact ⟨ad, B, c, h1, Nat.lt_of_lt_of_le h2 hb.size, by rw [hb.cell (by unfold Addr.add; split <;> exact h2)]; exact h3, h4, h5.below hb⟩
theorem CircsAt.rows {w : World} {base : Nat} {LL : List (List Pe.Pair)} {v : Value} (h : CircsAt w base LL v) : ∃ A c, v = .slice A LL.length c ∧ RowssAt w A LL.length LL := by
  obtain ⟨vs, h1, h2⟩ := h
  obtain ⟨A, c, rfl, hlc, hcm⟩ := own_shape h1
  refine ⟨A, c, rfl, rfl, fun i x hx => ?_⟩
  have hi : i < LL.length := (List.getElem?_eq_some_iff.1 hx).1
  obtain ⟨g, cap, hv, _, hlt, _⟩ := own_form h1 (by omega)
  obtain ⟨rfl, rfl⟩ : A = some ⟨g, 0, none⟩ ∧ c = cap := by injection hv with h1 _ h3; exact ⟨h1, h3⟩
  obtain ⟨u, hu, ho⟩ := h2.row i x hx
  obtain ⟨B, c2, rfl, hp, _⟩ := own_pairsAt ho rfl
  obtain ⟨B', c2', e', hc2, _⟩ := own_shape ho
  obtain ⟨rfl, rfl⟩ : B = B' ∧ c2 = c2' := by injection e' with h1 _ h3; exact ⟨h1, h3⟩
  refine ⟨_, B, c2, rfl, hlt, ?_, hc2, hp⟩
  have := own_range h1 i [.slice B x.length c2] (fun q u' hu' => by
    match q, hu' with
    | 0, hu' => simp at hu'; subst hu'; simpa using hu) 0 _ rfl
  rw [Addr.add_mid, Nat.zero_add]
  simpa using this

end Go.Proofs.YtnphlekailodkaaGreatDoor
