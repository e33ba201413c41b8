/-
  Places and Dwellers of the directory, walked; Lives, Places, Dwellers and Pairs agree; the dead live nowhere.
-/
import Derived.Test.YtnphlekailodkaaGreatDoorLw
import Derived.Test.YtnphlekailodkaaGreatDoorRp5
namespace Go.Proofs.YtnphlekailodkaaGreatDoor
open Go.RowKit

theorem pRow_at2 {l : List Pe.Pair} {i j : Nat} {x : Pe.Pair} {u : Value} (h1 : l[i]? = some x) (h2 : (pCells x)[j]? = some u) : (pRow l)[i * 2 + j]? = some u := by
  induction l generalizing i with
  | nil => simp at h1
  | cons y r ih =>
    have e : pRow (y :: r) = (pCells y).toList ++ pRow r := rfl
    have hs : (pCells y).toList.length = 2 := rfl
    have hj : j < 2 := by have := (Array.getElem?_eq_some_iff.1 h2).1; simpa [pCells] using this
    rw [e]
    cases i with
    | zero =>
      simp at h1
      subst h1
      rw [List.getElem?_append_left (by omega)]
      simpa using h2
    | succ i =>
      rw [List.getElem?_append_right (by omega), hs]
      have := ih (i := i) (by simpa using h1)
      rw [show (i + 1) * 2 + j - 2 = i * 2 + j from by omega]
      exact this
/-- A list of hops in memory. -/
structure PairsAt (w : World) (A : Option Addr) (n : Nat) (l : List Pe.Pair) : Prop where
  len : n = l.length
  at_ : l = [] ∨ ∃ ad, A = some ad ∧ ad.block < w.heap.size ∧ ∀ i x, l[i]? = some x → ∀ j v, (pCells x)[j]? = some v → w.cell? ((ad.add (i * 2)).add j) = some v
theorem PairsAt.below {w w' : World} {A : Option Addr} {n : Nat} {l : List Pe.Pair} (h : PairsAt w A n l) (hb : Below w.heap.size w w') : PairsAt w' A n l := by
  refine ⟨h.len, h.at_.imp id ?_⟩
  rintro ⟨ad, hA, hl, hc⟩
  refine ⟨ad, hA, Nat.lt_of_lt_of_le hl hb.size, fun i x hi j v hv => ?_⟩
  rw [hb.cell (by rw [Addr.add_add]; unfold Addr.add; split <;> exact hl)]
  exact hc i x hi j v hv
theorem own_pairsAt {w : World} {base n : Nat} {v : Value} {l : List Pe.Pair} (h : w.ownsRow base 28 2 v n (pRow l)) (hn : n = l.length) : ∃ A c, v = .slice A n c ∧ PairsAt w A n l ∧ (∀ ad, A = some ad → base ≤ ad.block ∧ ad.block < w.heap.size) := by
  obtain ⟨A, c, rfl, hlc, hcm⟩ := own_shape h
  refine ⟨A, c, rfl, ⟨hn, ?_⟩, ?_⟩
  · by_cases h0 : n = 0
    · left; exact List.eq_nil_of_length_eq_zero (by omega)
    · right
      obtain ⟨g, cap, hv, _, hlt, _⟩ := own_form h (by omega)
      obtain ⟨rfl, _, rfl⟩ : A = some ⟨g, 0, none⟩ ∧ n = n ∧ c = cap := by injection hv with h1 h2 h3; exact ⟨h1, h2, h3⟩
      refine ⟨_, rfl, hlt, fun i x hi j u hj => ?_⟩
      rw [Addr.add_add, Addr.add_mid, Nat.zero_add]
      have := own_range h (i * 2 + j) [u] (fun q v hv => by
        match q, hv with
        | 0, hv => simp at hv; subst hv; simpa using pRow_at2 hi hj) 0 _ rfl
      simpa using this
  · rintro ad rfl
    rcases h.2 with ⟨hv, _⟩ | ⟨g', cap', cur, hv, hb, hg, _⟩
    · cases hv
    · injection hv with hv _ _
      injection hv with hv
      subst hv
      exact ⟨hb, (Array.getElem?_eq_some_iff.1 hg).1⟩

theorem PairsAt.one {w : World} {A : Option Addr} {n : Nat} {l : List Pe.Pair} (h : PairsAt w A n l) {i : Nat} (hi : i < n) : ∃ x ad, l[i]? = some x ∧ A = some ad ∧ ∀ j v, (pCells x)[j]? = some v → w.cell? ((ad.add (i * 2)).add j) = some v := by
  have hl := h.len
  have hx : l[i]? = some (l[i]'(by omega)) := List.getElem?_eq_getElem (by omega)
  obtain ⟨ad, hA, _, hc⟩ := h.at_.resolve_left (fun e => by rw [e] at hl; simp at hl; omega)
  exact ⟨_, ad, hx, hA, fun j v hv => hc i _ hx j v hv⟩

theorem PairsAt.grown {w w' : World} {A : Option Addr} {n : Nat} {l : List Pe.Pair} {row : Option Nat} (h : PairsAt w A n l) (hg : w.grownBy w' row) (hne : ∀ ad, A = some ad → some ad.block ≠ row) : PairsAt w' A n l := by
  refine ⟨h.len, h.at_.imp id ?_⟩
  rintro ⟨ad, hA, hl, hc⟩
  refine ⟨ad, hA, Nat.lt_of_lt_of_le hl hg.size, fun i x hi j v hv => ?_⟩
  have hb : ((ad.add (i * 2)).add j).block = ad.block := by rw [Addr.add_add]; unfold Addr.add; split <;> rfl
  rw [hg.cell_far _ (by rw [hb]; exact hl) (by rw [hb]; exact hne ad hA)]
  exact hc i x hi j v hv
namespace Pe
def places (l : List Ent) (p d : Int) : List Int := ((pairs l d).filter fun c => c.1 == p).map (·.2)
def dwellers (l : List Ent) (q d : Int) : List Int := ((pairs l d).filter fun c => c.2 == q).map (·.1)
theorem any_places (l : List Ent) (c : Pair) (d : Int) : ((places l c.1 d).any fun z => z == c.2) = lives l c d := by
  unfold places lives
  rw [Bool.eq_iff_iff, List.any_eq_true, List.contains_iff_mem]
  constructor
  · rintro ⟨z, hz, he⟩
    obtain ⟨x, hx, rfl⟩ := List.mem_map.1 hz
    obtain ⟨h1, h2⟩ := List.mem_filter.1 hx
    rw [beq_iff_eq] at h2 he
    have : x = c := Prod.ext h2 he
    rw [← this]; exact h1
  · intro h
    exact ⟨c.2, List.mem_map.2 ⟨c, List.mem_filter.2 ⟨h, by simp⟩, rfl⟩, by simp⟩
theorem any_dwellers (l : List Ent) (c : Pair) (d : Int) : ((dwellers l c.2 d).any fun z => z == c.1) = lives l c d := by
  unfold dwellers lives
  rw [Bool.eq_iff_iff, List.any_eq_true, List.contains_iff_mem]
  constructor
  · rintro ⟨z, hz, he⟩
    obtain ⟨x, hx, rfl⟩ := List.mem_map.1 hz
    obtain ⟨h1, h2⟩ := List.mem_filter.1 hx
    rw [beq_iff_eq] at h2 he
    have : x = c := Prod.ext he h2
    rw [← this]; exact h1
  · intro h
    exact ⟨c.1, List.mem_map.2 ⟨c, List.mem_filter.2 ⟨h, by simp⟩, rfl⟩, by simp⟩
theorem any_pairs (l : List Ent) (c : Pair) (d : Int) : ((pairs l d).any fun z => decide (z = c)) = lives l c d := by
  unfold lives
  rw [Bool.eq_iff_iff, List.any_eq_true, List.contains_iff_mem]
  constructor
  · rintro ⟨z, hz, he⟩
    rw [decide_eq_true_eq] at he
    rw [← he]; exact hz
  · intro h
    exact ⟨c, h, by simp⟩
theorem pair_lives {l : List Ent} {x : Pair} {d : Int} (h : x ∈ pairs l d) : lives l x d = true ∧ dead l x.1 d = false := by
  refine ⟨by unfold lives; rw [List.contains_iff_mem]; exact h, ?_⟩
  rw [mem_pairs, mem_dwell] at h
  exact h.1
theorem home_lives {l : List Ent} {p d h : Int} (hh : home? l p d = some h) : lives l (p, h) d = true := by
  rw [home_eq] at hh
  split at hh
  · cases hh
  · rename_i hd
    obtain ⟨x, hx, rfl⟩ := Option.map_eq_some_iff.1 hh
    obtain ⟨hm, hq⟩ := lastOf_some hx
    simp only [Bool.and_eq_true, beq_iff_eq] at hq
    unfold lives
    rw [List.contains_iff_mem, mem_pairs, mem_dwell]
    exact ⟨by simpa using hd, x, hm, hq.1.1, hq.2, hq.1.2, rfl⟩
theorem homeless {l : List Ent} {p d : Int} (hh : home? l p d = none) : places l p d = [] := by
  rw [home_eq] at hh
  unfold places
  rw [List.map_eq_nil_iff, List.filter_eq_nil_iff]
  intro c hc
  rw [mem_pairs, mem_dwell] at hc
  intro he
  rw [beq_iff_eq] at he
  subst he
  obtain ⟨hd, x, hx, hk, ho, hp, hq⟩ := hc
  rw [if_neg (by rw [hd]; simp), Option.map_eq_none_iff, lastOf_none] at hh
  have := hh x hx
  simp [hk, ho, hp] at this
theorem pairs_length (l : List Ent) (d : Int) : (pairs l d).length ≤ l.length := by
  have h1 : ∀ m : List Pair, (compact m).length ≤ m.length := by
    intro m
    induction m with
    | nil => simp [compact]
    | cons x r ih =>
      cases r with
      | nil => simp [compact]
      | cons y r =>
        unfold compact
        split
        · simp at ih ⊢; omega
        · simp at ih ⊢; omega
  unfold pairs
  refine Nat.le_trans (h1 _) ?_
  rw [List.length_mergeSort]
  unfold dwell onDay
  rw [List.length_map]
  exact Nat.le_trans (List.length_filter_le _ _) (List.length_filter_le _ _)
end Pe

set_option maxRecDepth 1000000 in
set_option maxHeartbeats 8000000 in
theorem Places_calls (A : Option Addr) (n c : Nat) (l : List Pe.Ent) (k d : Int) (w : World) (h : EntsAt w A n l) (hn : n ≤ 100000) :
    Calls Tryz.prog 23 #[.slice A n c, .int .i64 k, .int .i64 d] w fun e w' => ∃ v, e = .returned v ∧ w'.ownsRow w.heap.size 3 1 v (Pe.places l k d).length (nRow (Pe.places l k d)) ∧ Below w.heap.size w w' := by
  obtain ⟨i0, hi0, hz0, hz1, hz2⟩ := info_parts infoIntR
  have HI0 := Lib.hid (And.intro hi0 (And.intro hz0 (And.intro hz1 hz2)))
  clear hi0 hz0 hz1 hz2
  obtain ⟨V, hV⟩ : ∃ V, V = Pe.places l k d := ⟨_, rfl⟩
  rw [← hV]
  unfold Pe.places at hV
  have hpc := Pairs_calls A n c l d w h hn
  have hpl := Pe.pairs_length l d
  obtain ⟨ps, hps⟩ : ∃ ps, ps = Pe.pairs l d := ⟨_, rfl⟩
  rw [← hps] at hV hpc hpl
  obtain ⟨m, hm⟩ : ∃ m, m = ps.length := ⟨_, rfl⟩
  rw [← hm] at hpc hpl
  have hm6 : m ≤ 100000 := by have := h.len; omega
  have HP := Lib.hid (And.intro hpc (And.intro hm hV))
  clear h hpc hm hV hps hpl
  go_enter Tryz.func23, Tryz.ntmps23
  go_wp2_with fail
  refine HP.out.1.mono ?_
  rintro e w1 ⟨v, rfl, hown, hb1⟩
  obtain ⟨B, cB, rfl, hPA, hBB⟩ := own_pairsAt hown HP.out.2.1
  obtain ⟨e1, he1⟩ : ∃ e1, e1 = w1.heap.size := ⟨_, rfl⟩
  have H1 := Lib.hid (And.intro hb1 (And.intro hPA (And.intro (fun ad e => (hBB ad e).2) he1)))
  have hwe : w.heap.size ≤ e1 := by rw [he1]; exact hb1.size
  clear hown hb1 hPA hBB he1
  dsimp only
  go_wp2_with fail
  go_loopg [7, 14] m (fun q s7 s14 wr => ∃ (i n' : Nat) (A' : Option Addr) (c' : Nat), s7 = .slice A' n' c' ∧ s14 = .int .i64 (i : Int) ∧ i + q = m ∧ n' ≤ i ∧ Hid (Below w.heap.size w wr ∧ PairsAt wr B m ps ∧ wr.ownsRow e1 3 1 (.slice A' n' c') n' (nRow (((ps.take i).filter fun c => c.1 == k).map (·.2))) ∧ n' = (((ps.take i).filter fun c => c.1 == k).map (·.2)).length ∧ e1 ≤ wr.heap.size))
  case atStart => exact ⟨0, 0, none, 0, rfl, by go_num, by omega, by omega, Lib.hid ⟨H1.out.1, H1.out.2.1, World.ownsRow_nil _ _ _ _, rfl, by have := H1.out.2.2.2; omega⟩⟩
  case round =>
    obtain ⟨i, n', A', c', rfl, rfl, hi, hn', hR⟩ := hrel
    by_cases hgo : i < m
    case neg =>
      have hd1 : decide ((i : Int) < (m : Int)) = false := by simp; omega
      go_wp2
      go_ret
      refine ⟨_, rfl, ?_, hR.out.1⟩
      have h1 := hR.out.2.2.1
      have h2 := hR.out.2.2.2.1
      rw [List.take_of_length_le (by have := HP.out.2.1; omega), ← HP.out.2.2] at h1 h2
      rw [← h2]
      exact own_weaken h1 hwe
    have hd1 : decide ((i : Int) < (m : Int)) = true := by simp; omega
    obtain ⟨x, ad, hx, rfl, hcx⟩ := hR.out.2.1.one hgo
    have p0 : wr.cell? (ad.add (i * 2)) = some (.int .i64 x.1) := hcx 0 _ rfl
    have p1 : wr.cell? ⟨(ad.add (i * 2)).block, (ad.add (i * 2)).off + 1, none⟩ = some (.int .i64 x.2) := hcx 1 _ rfl
    have HX := Lib.hid hx
    clear hx hcx
    go_upto_region 5 with fail
    obtain ⟨xb, hg⟩ : ∃ g, g = wr.heap.size := ⟨_, rfl⟩
    obtain ⟨w3, hw⟩ : ∃ w0, w0 = wr.alloc (.cells #[.int .i64 x.1, .int .i64 x.2] 28) := ⟨_, rfl⟩
    have hbl : Below wr.heap.size wr w3 := by rw [hw]; exact (Below.refl _ wr).alloc (Nat.le_refl _) _
    have hgb : Blk w3 xb 28 #[.int .i64 x.1, .int .i64 x.2] := by rw [hw, hg]; exact Blk.fresh _ _ _
    rw [← hg, ← hw]
    have H3 := Lib.hid (And.intro (hR.out.1.trans (hbl.mono hR.out.1.size)) (And.intro (hR.out.2.1.below hbl) (And.intro (own_below hR.out.2.2.1 hbl) (Nat.le_trans hR.out.2.2.2.2 hbl.size))))
    have x0 : w3.cell? ⟨xb, 0, none⟩ = some (.int .i64 x.1) := hgb.cell 0
    have x1 : w3.cell? ⟨xb, 1, none⟩ = some (.int .i64 x.2) := hgb.cell 1
    clear hbl hgb hg hw p0 p1
    cases hq : (x.1 == k)
    · have HQ := Lib.hid hq
      go_wp2
      go_roundg (gk - 1)
      case measure => omega
      case rel =>
        have q1 : (((ps.take (i + 1)).filter fun c => c.1 == k).map (·.2)) = (((ps.take i).filter fun c => c.1 == k).map (·.2)) := by
          rw [List.take_add_one, HX.out]
          show (List.filter _ (ps.take i ++ [x])).map _ = _
          rw [List.filter_append, List.filter_cons, if_neg (by rw [HQ.out]; simp)]; simp
        exact ⟨i + 1, n', A', c', rfl, by go_num, by omega, by omega, Lib.hid ⟨H3.out.1, H3.out.2.1, by rw [q1]; exact H3.out.2.2.1, by rw [q1]; exact hR.out.2.2.2.1, H3.out.2.2.2⟩⟩
    · have HQ := Lib.hid hq
      go_wp2_with (at_builtin; refine wpList_append_lies _ rfl _ _ 42 rfl e1 3 i0 _ 1 8 Tryz.underlying42 HI0.out.1 HI0.out.2.1 HI0.out.2.2.1 HI0.out.2.2.2 (by rfl) (by decide) (.slice A' n' c') n' (nRow (((ps.take i).filter fun c => c.1 == k).map (·.2))) rfl (own_below H3.out.2.2.1 ((Below.refl _ w3).alloc (Nat.le_refl _) _)) ⟨w3.heap.size, 0, none⟩ 1 1 [.int .i64 x.2] rfl rfl (World.news_of_block (cs := #[.int .i64 x.2]) (t := 3) (fr := (0, 0)) (heap_alloc_new w3 _)) ?o1 (by decide) ?o2 ?o3 ?o4 _ rfl ?_)
      case o1 => simp [Value.oneCell']
      case o2 => simp only [maxLen]; omega
      case o3 => omega
      case o4 => have := H3.out.2.2.2; simp; omega
      intro gn cn W2 hown hgr _ hlt
      have q1 : (((ps.take (i + 1)).filter fun c => c.1 == k).map (·.2)) = (((ps.take i).filter fun c => c.1 == k).map (·.2)) ++ [x.2] := by
        rw [List.take_add_one, HX.out]
        show (List.filter _ (ps.take i ++ [x])).map _ = _
        rw [List.filter_append, List.filter_cons, if_pos (by rw [HQ.out])]; simp
      have HA := Lib.hid (And.intro (show W2.ownsRow e1 3 1 (.slice (some ⟨gn, 0, none⟩) (n' + 1) cn) (n' + 1) (nRow (((ps.take (i + 1)).filter fun c => c.1 == k).map (·.2))) by rw [q1, nRow_snoc]; exact hown) (And.intro ((H3.out.1.alloc H3.out.1.size _).grown hgr (H3.out.1.alloc H3.out.1.size _).size (fun z hz => by have := (H3.out.2.2.1.lt z hz).1; omega)) q1))
      have hPB : PairsAt W2 (some ad) m ps := (H3.out.2.1.below ((Below.refl _ w3).alloc (Nat.le_refl _) _)).grown hgr (fun a2 e2 e3 => by have h1 := (H3.out.2.2.1.lt _ e3.symm).1; have h2 := H1.out.2.2.1 a2 e2; have h3 := H1.out.2.2.2; omega)
      have hsz : e1 ≤ W2.heap.size := Nat.le_trans H3.out.2.2.2 (Nat.le_trans (by simp) hgr.size)
      clear hown hgr hlt q1
      go_wp2
      go_roundg (gk - 1)
      case measure => omega
      case rel => exact ⟨i + 1, n' + 1, some ⟨gn, 0, none⟩, cn, rfl, by go_num, by omega, by omega, Lib.hid ⟨HA.out.2.1, hPB, HA.out.1, by rw [HA.out.2.2, List.length_append, ← hR.out.2.2.2.1]; rfl, hsz⟩⟩
set_option maxRecDepth 1000000 in
set_option maxHeartbeats 8000000 in
theorem Dwellers_calls (A : Option Addr) (n c : Nat) (l : List Pe.Ent) (k d : Int) (w : World) (h : EntsAt w A n l) (hn : n ≤ 100000) :
    Calls Tryz.prog 27 #[.slice A n c, .int .i64 k, .int .i64 d] w fun e w' => ∃ v, e = .returned v ∧ w'.ownsRow w.heap.size 3 1 v (Pe.dwellers l k d).length (nRow (Pe.dwellers l k d)) ∧ Below w.heap.size w w' := by
  obtain ⟨i0, hi0, hz0, hz1, hz2⟩ := info_parts infoIntR
  have HI0 := Lib.hid (And.intro hi0 (And.intro hz0 (And.intro hz1 hz2)))
  clear hi0 hz0 hz1 hz2
  obtain ⟨V, hV⟩ : ∃ V, V = Pe.dwellers l k d := ⟨_, rfl⟩
  rw [← hV]
  unfold Pe.dwellers at hV
  have hpc := Pairs_calls A n c l d w h hn
  have hpl := Pe.pairs_length l d
  obtain ⟨ps, hps⟩ : ∃ ps, ps = Pe.pairs l d := ⟨_, rfl⟩
  rw [← hps] at hV hpc hpl
  obtain ⟨m, hm⟩ : ∃ m, m = ps.length := ⟨_, rfl⟩
  rw [← hm] at hpc hpl
  have hm6 : m ≤ 100000 := by have := h.len; omega
  have HP := Lib.hid (And.intro hpc (And.intro hm hV))
  clear h hpc hm hV hps hpl
  go_enter Tryz.func27, Tryz.ntmps27
  go_wp2_with fail
  refine HP.out.1.mono ?_
  rintro e w1 ⟨v, rfl, hown, hb1⟩
  obtain ⟨B, cB, rfl, hPA, hBB⟩ := own_pairsAt hown HP.out.2.1
  obtain ⟨e1, he1⟩ : ∃ e1, e1 = w1.heap.size := ⟨_, rfl⟩
  have H1 := Lib.hid (And.intro hb1 (And.intro hPA (And.intro (fun ad e => (hBB ad e).2) he1)))
  have hwe : w.heap.size ≤ e1 := by rw [he1]; exact hb1.size
  clear hown hb1 hPA hBB he1
  dsimp only
  go_wp2_with fail
  go_loopg [7, 14] m (fun q s7 s14 wr => ∃ (i n' : Nat) (A' : Option Addr) (c' : Nat), s7 = .slice A' n' c' ∧ s14 = .int .i64 (i : Int) ∧ i + q = m ∧ n' ≤ i ∧ Hid (Below w.heap.size w wr ∧ PairsAt wr B m ps ∧ wr.ownsRow e1 3 1 (.slice A' n' c') n' (nRow (((ps.take i).filter fun c => c.2 == k).map (·.1))) ∧ n' = (((ps.take i).filter fun c => c.2 == k).map (·.1)).length ∧ e1 ≤ wr.heap.size))
  case atStart => exact ⟨0, 0, none, 0, rfl, by go_num, by omega, by omega, Lib.hid ⟨H1.out.1, H1.out.2.1, World.ownsRow_nil _ _ _ _, rfl, by have := H1.out.2.2.2; omega⟩⟩
  case round =>
    obtain ⟨i, n', A', c', rfl, rfl, hi, hn', hR⟩ := hrel
    by_cases hgo : i < m
    case neg =>
      have hd1 : decide ((i : Int) < (m : Int)) = false := by simp; omega
      go_wp2
      go_ret
      refine ⟨_, rfl, ?_, hR.out.1⟩
      have h1 := hR.out.2.2.1
      have h2 := hR.out.2.2.2.1
      rw [List.take_of_length_le (by have := HP.out.2.1; omega), ← HP.out.2.2] at h1 h2
      rw [← h2]
      exact own_weaken h1 hwe
    have hd1 : decide ((i : Int) < (m : Int)) = true := by simp; omega
    obtain ⟨x, ad, hx, rfl, hcx⟩ := hR.out.2.1.one hgo
    have p0 : wr.cell? (ad.add (i * 2)) = some (.int .i64 x.1) := hcx 0 _ rfl
    have p1 : wr.cell? ⟨(ad.add (i * 2)).block, (ad.add (i * 2)).off + 1, none⟩ = some (.int .i64 x.2) := hcx 1 _ rfl
    have HX := Lib.hid hx
    clear hx hcx
    go_upto_region 5 with fail
    obtain ⟨xb, hg⟩ : ∃ g, g = wr.heap.size := ⟨_, rfl⟩
    obtain ⟨w3, hw⟩ : ∃ w0, w0 = wr.alloc (.cells #[.int .i64 x.1, .int .i64 x.2] 28) := ⟨_, rfl⟩
    have hbl : Below wr.heap.size wr w3 := by rw [hw]; exact (Below.refl _ wr).alloc (Nat.le_refl _) _
    have hgb : Blk w3 xb 28 #[.int .i64 x.1, .int .i64 x.2] := by rw [hw, hg]; exact Blk.fresh _ _ _
    rw [← hg, ← hw]
    have H3 := Lib.hid (And.intro (hR.out.1.trans (hbl.mono hR.out.1.size)) (And.intro (hR.out.2.1.below hbl) (And.intro (own_below hR.out.2.2.1 hbl) (Nat.le_trans hR.out.2.2.2.2 hbl.size))))
    have x0 : w3.cell? ⟨xb, 0, none⟩ = some (.int .i64 x.1) := hgb.cell 0
    have x1 : w3.cell? ⟨xb, 1, none⟩ = some (.int .i64 x.2) := hgb.cell 1
    clear hbl hgb hg hw p0 p1
    cases hq : (x.2 == k)
    · have HQ := Lib.hid hq
      go_wp2
      go_roundg (gk - 1)
      case measure => omega
      case rel =>
        have q1 : (((ps.take (i + 1)).filter fun c => c.2 == k).map (·.1)) = (((ps.take i).filter fun c => c.2 == k).map (·.1)) := by
          rw [List.take_add_one, HX.out]
          show (List.filter _ (ps.take i ++ [x])).map _ = _
          rw [List.filter_append, List.filter_cons, if_neg (by rw [HQ.out]; simp)]; simp
        exact ⟨i + 1, n', A', c', rfl, by go_num, by omega, by omega, Lib.hid ⟨H3.out.1, H3.out.2.1, by rw [q1]; exact H3.out.2.2.1, by rw [q1]; exact hR.out.2.2.2.1, H3.out.2.2.2⟩⟩
    · have HQ := Lib.hid hq
      go_wp2_with (at_builtin; refine wpList_append_lies _ rfl _ _ 42 rfl e1 3 i0 _ 1 8 Tryz.underlying42 HI0.out.1 HI0.out.2.1 HI0.out.2.2.1 HI0.out.2.2.2 (by rfl) (by decide) (.slice A' n' c') n' (nRow (((ps.take i).filter fun c => c.2 == k).map (·.1))) rfl (own_below H3.out.2.2.1 ((Below.refl _ w3).alloc (Nat.le_refl _) _)) ⟨w3.heap.size, 0, none⟩ 1 1 [.int .i64 x.1] rfl rfl (World.news_of_block (cs := #[.int .i64 x.1]) (t := 3) (fr := (0, 0)) (heap_alloc_new w3 _)) ?o1 (by decide) ?o2 ?o3 ?o4 _ rfl ?_)
      case o1 => simp [Value.oneCell']
      case o2 => simp only [maxLen]; omega
      case o3 => omega
      case o4 => have := H3.out.2.2.2; simp; omega
      intro gn cn W2 hown hgr _ hlt
      have q1 : (((ps.take (i + 1)).filter fun c => c.2 == k).map (·.1)) = (((ps.take i).filter fun c => c.2 == k).map (·.1)) ++ [x.1] := by
        rw [List.take_add_one, HX.out]
        show (List.filter _ (ps.take i ++ [x])).map _ = _
        rw [List.filter_append, List.filter_cons, if_pos (by rw [HQ.out])]; simp
      have HA := Lib.hid (And.intro (show W2.ownsRow e1 3 1 (.slice (some ⟨gn, 0, none⟩) (n' + 1) cn) (n' + 1) (nRow (((ps.take (i + 1)).filter fun c => c.2 == k).map (·.1))) by rw [q1, nRow_snoc]; exact hown) (And.intro ((H3.out.1.alloc H3.out.1.size _).grown hgr (H3.out.1.alloc H3.out.1.size _).size (fun z hz => by have := (H3.out.2.2.1.lt z hz).1; omega)) q1))
      have hPB : PairsAt W2 (some ad) m ps := (H3.out.2.1.below ((Below.refl _ w3).alloc (Nat.le_refl _) _)).grown hgr (fun a2 e2 e3 => by have h1 := (H3.out.2.2.1.lt _ e3.symm).1; have h2 := H1.out.2.2.1 a2 e2; have h3 := H1.out.2.2.2; omega)
      have hsz : e1 ≤ W2.heap.size := Nat.le_trans H3.out.2.2.2 (Nat.le_trans (by simp) hgr.size)
      clear hown hgr hlt q1
      go_wp2
      go_roundg (gk - 1)
      case measure => omega
      case rel => exact ⟨i + 1, n' + 1, some ⟨gn, 0, none⟩, cn, rfl, by go_num, by omega, by omega, Lib.hid ⟨HA.out.2.1, hPB, HA.out.1, by rw [HA.out.2.2, List.length_append, ← hR.out.2.2.2.1]; rfl, hsz⟩⟩

end Go.Proofs.YtnphlekailodkaaGreatDoor
