/-
  Rows of one cell each, sorted in place or cut: the worlds of the library's sorts, in the words of rows that are owned. A map from pairs to truths: the pairs that have come. A circle turned to its least pair: the directory's turned, walked; and how circles compare. Circles compared by their first pairs, and sorted: the closure and the library's sort at a list of lists. Loops of the directory: its memory. Loops of the directory, walked.
-/
import Derived.Test.YtnphlekailodkaaGreatDoorSo
import Derived.Test.YtnphlekailodkaaGreatDoorMc
import Derived.Test.YtnphlekailodkaaGreatDoorAg
import Derived.Test.YtnphlekailodkaaGreatDoorRl
import Derived.Test.YtnphlekailodkaaGreatDoorSh2
import Derived.Test.YtnphlekailodkaaGreatDoorFv
namespace Go.Proofs
open Go.Shelf Go.RowKit Go.Lib Go.Sort
namespace YtnphlekailodkaaGreatDoor

theorem heap_sorted1 {α : Type} [Inhabited α] (enc : α → Value) (W : World) (g m : Nat) (d : Array α) (os : Array Obj) (t : TypeId) (cs : Array Value) (hB : Blk W g t cs) (hl : d.size ≤ cs.size) :
    Blk (sortWorld enc W g 0 m d os) g t (splice cs.toList 0 (d.toList.map enc)).toArray ∧ Chg (fun i => i = g) W (sortWorld enc W g 0 m d os) := by
  have hm : ∀ k, (putRow enc (Sort.ahead W m) g 0 d).heap[k]? = if g = k then (W.heap[k]?).map (onCells (putCells enc 0 d)) else W.heap[k]? := fun k => by
    show (W.heap.modify g _)[k]? = _
    rw [Array.getElem?_modify]
  have hsz : (putRow enc (Sort.ahead W m) g 0 d).heap.size = W.heap.size := size_putRow enc _ _ _ _
  constructor
  · unfold Blk sortWorld
    rw [heap_grow _ _ _ (by rw [hsz]; exact hB.lt), hm g, if_pos rfl, hB]
    simp only [Option.map_some, onCells]
    congr 2
    apply Array.ext'
    simp only
    apply List.ext_getElem?
    intro t
    unfold putCells
    rw [Array.getElem?_toList, Array.getElem?_mapIdx]
    have hdl : (d.toList.map enc).length = d.size := by simp
    by_cases ht : t < d.size
    · have hc : t < cs.size := by omega
      rw [Array.getElem?_eq_getElem hc]
      simp only [Option.map_some]
      rw [if_pos ⟨Nat.zero_le _, by omega⟩]
      have h1 : (splice cs.toList 0 (d.toList.map enc))[t]? = (d.toList.map enc)[t]? := by
        simp only [splice, List.take_zero, List.nil_append]
        rw [List.getElem?_append_left (by omega)]
      rw [h1, List.getElem?_map, Array.getElem?_toList, Array.getElem?_eq_getElem ht, Nat.sub_zero, getElem!_pos _ t ht]
      rfl
    · have h1 : (splice cs.toList 0 (d.toList.map enc))[t]? = cs.toList[t]? := by
        simp only [splice, List.take_zero, List.nil_append, Nat.zero_add]
        rw [List.getElem?_append_right (by omega), List.getElem?_drop]
        congr 1
        omega
      rw [h1, Array.getElem?_toList]
      cases hq : cs[t]? with
      | none => rfl
      | some v =>
        simp only [Option.map_some]
        rw [if_neg (by omega)]
  · refine ⟨rfl, rfl, rfl, ?_, fun k hk hn => ?_⟩
    · show _ ≤ ((putRow enc (Sort.ahead W m) g 0 d).heap ++ os).size
      rw [Array.size_append, hsz]; omega
    · unfold sortWorld
      rw [heap_grow _ _ _ (by rw [hsz]; exact hk), hm k, if_neg (fun e => hn e.symm)]
theorem own_holds1 {α : Type} [Inhabited α] {enc : α → Value} {W : World} {base g n cap : Nat} {t : TypeId} {d : Array α} (h : W.ownsRow base t 1 (.slice (some ⟨g, 0, none⟩) n cap) n (d.toList.map enc)) : Holds enc W g 0 d := by
  obtain ⟨cur, hg, _, h1, _, h3, h4, _⟩ := own_parts h
  intro j hj
  rw [Nat.zero_add]
  refine ⟨?_, hg.frozen j⟩
  rw [hg.cell j]
  have : (d.toList.map enc)[j]? = some (enc d[j]!) := by
    rw [List.getElem?_map, Array.getElem?_toList, Array.getElem?_eq_getElem hj, getElem!_pos d j hj]; rfl
  rw [← h4, List.getElem?_take] at this
  split at this
  · simpa using this
  · cases this
theorem sort_own {α : Type} [Inhabited α] {enc : α → Value} {W : World} {base g n cap : Nat} {t : TypeId} {xs : List Value} (h : W.ownsRow base t 1 (.slice (some ⟨g, 0, none⟩) n cap) n xs) (m : Nat) (d : Array α) (os : Array Obj) (hd : d.size = n) :
    (sortWorld enc W g 0 m d os).ownsRow base t 1 (.slice (some ⟨g, 0, none⟩) n cap) n (d.toList.map enc) ∧ Chg (fun i => i = g) W (sortWorld enc W g 0 m d os) := by
  obtain ⟨cur, hg, hb2, h1, h2, h3, h4, h5⟩ := own_parts h
  obtain ⟨k1, k2⟩ := heap_sorted1 enc W g m d os t cur hg (by omega)
  have hlen : (d.toList.map enc).length = n := by simp [hd]
  refine ⟨own_mk k1 hb2 h1 h2 ?_ ?_ (by omega), k2⟩
  · have := length_splice cur.toList 0 (d.toList.map enc) (by rw [hlen]; simp [h3]; omega)
    simpa [h3] using this
  · simp only [splice, List.take_zero, List.nil_append]
    rw [List.take_append_of_le_length (by omega), List.take_of_length_le (by omega)]
/-- A row cut to its first elements. -/
theorem own_cut {W : World} {base g n cap k : Nat} {t : TypeId} {xs : List Value} (h : W.ownsRow base t 1 (.slice (some ⟨g, 0, none⟩) n cap) n xs) (hk : k ≤ n) : W.ownsRow base t 1 (.slice (some ⟨g, 0, none⟩) k cap) k (xs.take k) := by
  obtain ⟨cur, hg, hb2, h1, h2, h3, h4, h5⟩ := own_parts h
  refine own_mk hg hb2 (by omega) h2 h3 ?_ (by rw [List.length_take]; omega)
  rw [← h4, List.take_take]
  congr 1
  omega

end YtnphlekailodkaaGreatDoor
end Go.Proofs

namespace Go.Proofs.YtnphlekailodkaaGreatDoor
open Go.RowKit Go.MapKept

def dEnt (p : Pe.Pair × Nat) : MapEntry := ⟨.agg (pCells p.1), .bool true, p.2⟩
def dEs (L : List Pe.Pair) : Array MapEntry := (L.zipIdx.map dEnt).toArray
/-- Block r is a map in which the pairs of L are marked. -/
def DMap (w : World) (r : Nat) (L : List Pe.Pair) : Prop := w.heap[r]? = some (.map (dEs L) L.length)
theorem DMap.lt {w : World} {r : Nat} {L : List Pe.Pair} (h : DMap w r L) : r < w.heap.size := (Array.getElem?_eq_some_iff.1 h).1
theorem DMap.below {w w' : World} {r : Nat} {L : List Pe.Pair} (h : DMap w r L) (hb : Below w.heap.size w w') : DMap w' r L := (hb.block r h.lt).trans h
theorem run_findAsking_d (w : World) (c : Pe.Pair) : ∀ (L : List Pe.Pair) (s : Nat), (Instr.findAsking 28 (.agg (pCells c)) ((L.zipIdx s).map dEnt) s).run Tryz.prog w = .ok ((numOf c L s).map fun i => (i, .bool true)) w
  | [], s => rfl
  | y :: r, s => by
    have ih := run_findAsking_d w c r (s + 1)
    have he : (Op.equal 28 (.agg (pCells c)) (.agg (pCells y))).run Tryz.prog w = .ok (decide (c = y)) w := equal_pair c y w
    simp only [List.zipIdx_cons, List.map_cons, dEnt, Instr.findAsking, Sem.run_bind, he, Result.andThen]
    by_cases h : c = y
    · subst h
      simp [numOf]
    · simp only [numOf, if_neg h]
      rw [show decide (c = y) = false by simpa using h]
      simp only [Bool.false_eq_true, if_false]
      exact ih
theorem run_findKey_d (w : World) (c : Pe.Pair) (L : List Pe.Pair) : (Instr.findKey 28 (.agg (pCells c)) (dEs L).toList).run Tryz.prog w = .ok ((numOf c L 0).map fun i => (i, .bool true)) w := by
  have hu := run_underlying (P := Tryz.prog) (w := w) Tryz.underlying28
  unfold Instr.findKey dEs
  cases L with
  | nil => simp [hu, Result.andThen, Instr.findNow, numOf]
  | cons y r =>
    have h := run_findAsking_d w c (y :: r) 0
    simp only [Sem.run_bind, hu, Result.andThen]
    simp only [List.zipIdx_cons, List.map_cons, dEnt, Instr.findNow, Instr.sameNow] at h ⊢
    exact h
theorem numOf_none {c : Pe.Pair} {L : List Pe.Pair} {s : Nat} : numOf c L s = none ↔ c ∉ L := by
  rw [numOf_eq, Option.map_eq_none_iff, List.findIdx?_eq_none_iff]
  constructor
  · intro h hc
    have := h c hc
    simp at this
  · intro h y hy
    simp only [beq_eq_false_iff_ne]
    rintro rfl
    exact h hy
theorem numOf_some {c : Pe.Pair} {L : List Pe.Pair} {i : Nat} (h : numOf c L 0 = some i) : L[i]? = some c := by
  rw [numOf_eq] at h
  simp only [Nat.add_zero, Option.map_id_fun', id] at h
  obtain ⟨hi, hp, _⟩ := List.findIdx?_eq_some_iff_getElem.1 h
  rw [List.getElem?_eq_getElem hi]
  simpa using hp
theorem run_lookup_d {w : World} {r : Nat} {L : List Pe.Pair} (h : DMap w r L) (c : Pe.Pair) : (Instr.lookup 83 (.map (some r)) (.agg (pCells c)) false).run Tryz.prog w = .ok (.bool (decide (c ∈ L))) w := by
  have hz : (zeroValue 4).run Tryz.prog w = .ok (.bool false) w := by kernel_rfl
  have hf := run_findKey_d w c L
  have hk := fun em => run_checkKey_c w em c
  cases hn : numOf c L 0 with
  | none =>
    rw [hn] at hf
    have hc : decide (c ∈ L) = false := by simpa using numOf_none.1 hn
    simp [Instr.lookup, run_underlying Tryz.underlying83, MapKept.run_getObj_map h, hk, hf, hz, Result.andThen, hc]
  | some i =>
    rw [hn] at hf
    have hc : decide (c ∈ L) = true := by simpa using List.mem_of_getElem? (numOf_some hn)
    simp [Instr.lookup, run_underlying Tryz.underlying83, MapKept.run_getObj_map h, hk, hf, Result.andThen, hc]
theorem run_insert_d {w : World} {r : Nat} {L : List Pe.Pair} (h : DMap w r L) (c : Pe.Pair) (hn : c ∉ L) : ∃ w', (Instr.mapUpdate 83 (.map (some r)) (.agg (pCells c)) (.bool true)).run Tryz.prog w = .ok () w' ∧ DMap w' r (L ++ [c]) ∧ Chg (fun i => i = r) w w' ∧ w.grownBy w' (some r) := by
  have hf := run_findKey_d w c L
  have hk := run_checkKey_c w false c
  rw [numOf_none.2 hn] at hf
  have he : (dEs L).push { key := .agg (pCells c), val := .bool true, born := L.length } = dEs (L ++ [c]) := by
    unfold dEs
    rw [List.zipIdx_append]
    simp [dEnt]
  refine ⟨{ w with heap := w.heap.setIfInBounds r (.map (dEs (L ++ [c])) (L.length + 1)) }, ?_, ?_, ⟨rfl, rfl, rfl, by simp, fun i _ hi => (heap_set h).2 i hi⟩, ⟨rfl, rfl, rfl, by simp, fun i _ hi => (heap_set h).2 i (fun e => hi (by rw [e]))⟩⟩
  · rw [← he]
    simp [Instr.mapUpdate, run_underlying Tryz.underlying83, MapKept.run_getObj_map h, hk, hf, MapKept.run_setObj_map _ h, Result.andThen]
  · have := (heap_set (o' := .map (dEs (L ++ [c])) (L.length + 1)) h).1
    unfold DMap
    rw [List.length_append]
    exact this

end Go.Proofs.YtnphlekailodkaaGreatDoor

namespace Go.Proofs.YtnphlekailodkaaGreatDoor
open Go.RowKit Go.Shelf Go.Lib Go.Sort

theorem pRow_drop : ∀ (l : List Pe.Pair) (k : Nat), pRow (l.drop k) = (pRow l).drop (k * 2)
  | [], k => by simp [pRow]
  | x :: r, 0 => by simp
  | x :: r, k + 1 => by
    have ih := pRow_drop r k
    rw [List.drop_succ_cons, ih, pRow_cons, show (k + 1) * 2 = k * 2 + 1 + 1 from by omega]
    rfl
theorem PairsAt.take {w : World} {ad : Addr} {n : Nat} {l : List Pe.Pair} (h : PairsAt w (some ad) n l) {i : Nat} (hi : i ≤ n) : PairsAt w (some ad) i (l.take i) := by
  refine ⟨by rw [List.length_take]; have := h.len; omega, ?_⟩
  rcases h.at_ with h0 | ⟨ad', e, hl, hc⟩
  · left; rw [h0]; simp
  · right
    refine ⟨ad', e, hl, fun j x hj => hc j x ?_⟩
    rw [List.getElem?_take] at hj
    split at hj
    · exact hj
    · cases hj
theorem PairsAt.drop {w : World} {ad : Addr} {n : Nat} {l : List Pe.Pair} (h : PairsAt w (some ad) n l) {i : Nat} (hi : i ≤ n) : PairsAt w (some (ad.add (i * 2))) (n - i) (l.drop i) := by
  refine ⟨by rw [List.length_drop]; have := h.len; omega, ?_⟩
  rcases h.at_ with h0 | ⟨ad', e, hl, hc⟩
  · left; rw [h0]; simp
  · right
    injection e with e
    subst e
    refine ⟨_, rfl, by unfold Addr.add; split <;> exact hl, fun j x hj k v hk => ?_⟩
    rw [List.getElem?_drop] at hj
    have := hc (i + j) x hj k v hk
    rw [Addr.add_add] at this
    rw [Addr.add_add, Addr.add_add, show i * 2 + (j * 2 + k) = (i + j) * 2 + k from by omega]
    exact this
theorem PairsAt.src {w : World} {ad : Addr} {n : Nat} {l : List Pe.Pair} (h : PairsAt w (some ad) n l) : ∀ k u, (pRow l)[k]? = some u → w.cell? (ad.add k) = some u := by
  intro k u hk
  have hkl : k < l.length * 2 := by
    have := (List.getElem?_eq_some_iff.1 hk).1
    rwa [pRow_len] at this
  obtain ⟨x, hx⟩ : ∃ x, l[k / 2]? = some x := ⟨_, List.getElem?_eq_getElem (by omega)⟩
  obtain ⟨y, ad', hy, e, hc⟩ := h.one (i := k / 2) (by have := h.len; omega)
  injection e with e
  subst e
  have hp := pRow_at hx
  rw [hx] at hy
  injection hy with hy
  subst hy
  rcases Nat.mod_two_eq_zero_or_one k with h2 | h2
  · have h3 := hc 0 (.int .i64 x.1) rfl
    rw [Addr.add_add, show k / 2 * 2 + 0 = k from by omega] at h3
    have h4 := hp.1
    rw [show k / 2 * 2 = k from by omega, hk] at h4
    rw [h3]; exact h4.symm
  · have h3 := hc 1 (.int .i64 x.2) rfl
    rw [Addr.add_add, show k / 2 * 2 + 1 = k from by omega] at h3
    have h4 := hp.2
    rw [show k / 2 * 2 + 1 = k from by omega, hk] at h4
    rw [h3]; exact h4.symm

set_option maxRecDepth 100000 in
set_option maxHeartbeats 2000000 in
theorem CloneP_calls (ad : Addr) (n c : Nat) (l : List Pe.Pair) (w : World) (h : PairsAt w (some ad) n l) (hn : n * 16 ≤ 140737488355328) :
    Calls Tryz.prog 98 #[.slice (some ad) n c] w fun e w' => ∃ v, e = .returned v ∧ w'.ownsRow w.heap.size 28 2 v n (pRow l) ∧ Below w.heap.size w w' := by
  have hln := h.len
  have hq : ∀ (w : World) (a : Option Addr) (n c n' c' : Nat), (binOp .eql 46 (.slice a n c) (.slice none n' c')).run Tryz.prog w = .ok (.bool a.isNone) w := fun w a n c n' c' => Lib.run_eql_slice_nil w _ _ a n c n' c' Tryz.underlying46
  obtain ⟨i0, hi0, hz0, hz1, hz2⟩ := info_parts infoCandN
  have HI0 := Lib.hid (And.intro hi0 (And.intro hz0 (And.intro hz1 hz2)))
  have HS := Lib.hid (And.intro h.src hln)
  clear hi0 hz0 hz1 hz2 h hln
  go_enter Tryz.func98, Tryz.ntmps98
  go_wp2_with (at_builtin; refine wpList_append_own _ rfl _ _ 46 rfl w.heap.size 28 i0 _ 2 16 Tryz.underlying46 HI0.out.1 HI0.out.2.1 HI0.out.2.2.1 HI0.out.2.2.2 rfl (by decide) _ _ _ rfl (World.ownsRow_made w #[] 0 (Nat.le_refl _) (Nat.zero_le _) (by simp)) ad n c (pRow l) rfl ?qc1 ?qc2 ?qc3 ?qc4 ?qc5 ?qc6 ?_)
  case qc1 => rw [pRow_len, HS.out.2]
  case qc2 =>
    intro j u hj
    have := HS.out.1 j u hj
    rw [World.cell?_alloc_some _ _ _ (by rw [this]; rfl)]
    exact this
  case qc3 => exact pRow_one l
  case qc4 => simp only [maxLen]; omega
  case qc5 => omega
  case qc6 => simp
  intro v' w1 hown hgrow hnil
  go_wp2
  go_ret
  refine ⟨v', rfl, by simpa using hown, ?_⟩
  exact ((Below.refl _ w).alloc (Nat.le_refl _) _).grown hgrow (by simp) (by intro k hk; simp [Value.ownBlock] at hk; omega)

theorem cmpP_neg (y z : Pe.Pair) : decide (cmpP y z < 0) = true ↔ Pe.ltP y z := by
  have h := cmpP_lt y z
  unfold ltOf at h
  rw [h]
  unfold Pe.ltP
  simp
theorem below_gd {b : Nat} {w W : World} (h : Below b w W) (hb : b ≤ W.heap.size) (q : Nat) (os : Array Obj) : Below b w (grow (W.drewN q) os) := by
  refine h.trans ?_
  refine Below.mono ?_ hb
  refine ⟨rfl, rfl, rfl, ?_, fun k hk => ?_⟩
  · show W.heap.size ≤ (W.heap ++ os).size
    simp
  · show (W.heap ++ os)[k]? = W.heap[k]?
    rw [Array.getElem?_append_left hk]

set_option maxRecDepth 1000000 in
set_option maxHeartbeats 8000000 in
theorem turned_calls (A : Option Addr) (m c : Nat) (x : List Pe.Pair) (w : World) (h : PairsAt w A m x) (h0 : 0 < m) (hmc : m ≤ c) (hm : m * 16 ≤ 140737488355328) :
    Calls Tryz.prog 69 #[.slice A m c] w fun e w' => ∃ v k z, e = .returned v ∧ x[k]? = some z ∧ (∀ y ∈ x, ¬ Pe.ltP y z) ∧ w'.ownsRow w.heap.size 28 2 v m (pRow (x.drop k ++ x.take k)) ∧ Below w.heap.size w w' := by
  obtain ⟨i0, hi0, hz0, hz1, hz2⟩ := info_parts infoCandN
  have HI0 := Lib.hid (And.intro hi0 (And.intro hz0 (And.intro hz1 hz2)))
  obtain ⟨x0, ad, _, rfl, _⟩ := h.one h0
  have H := Lib.hid h
  have HMC := Lib.hid hmc
  have hyc : ∀ (w0 : World) (i : Nat) (y : Pe.Pair), PairsAt w0 (some ad) m x → x[i]? = some y → w0.cell? (ad.add (i * 2)) = some (.int .i64 y.1) ∧ w0.cell? ⟨(ad.add (i * 2)).block, (ad.add (i * 2)).off + 1, none⟩ = some (.int .i64 y.2) := fun w0 i y hp hy => by
    have hi : i < m := by have := (List.getElem?_eq_some_iff.1 hy).1; have := hp.len; omega
    obtain ⟨y2, a2, q1, q2, q3⟩ := hp.one hi
    obtain rfl : ad = a2 := by injection q2
    rw [hy] at q1
    injection q1 with q1
    subst q1
    exact ⟨q3 0 _ rfl, q3 1 _ rfl⟩
  have HYC := Lib.hid hyc
  clear hi0 hz0 hz1 hz2 h hyc
  go_enter Tryz.func69, Tryz.ntmps69
  go_wp2_with fail
  go_loopg [3, 7] m (fun q s3 s7 wr => ∃ (i k : Nat), s3 = .int .i64 (k : Int) ∧ s7 = .int .i64 (i : Int) ∧ i + q = m ∧ k < m ∧ Hid (Below w.heap.size w wr ∧ ∀ j y z, j < i → x[j]? = some y → x[k]? = some z → ¬ Pe.ltP y z))
  case atStart => exact ⟨0, 0, by go_num, by go_num, by omega, h0, Lib.hid ⟨Below.refl _ _, fun j y z hj => by omega⟩⟩
  case round =>
    obtain ⟨i, k, rfl, rfl, hi, hk, hR⟩ := hrel
    by_cases hgo : i < m
    case neg =>
      have hd1 : decide ((i : Int) < (m : Int)) = false := by simp; omega
      obtain rfl : gk = 0 := by omega
      have hPA := H.out.below hR.out.1
      have HPA := Lib.hid hPA
      clear hPA
      have hkc : k ≤ c := by have := HMC.out; omega
      have HKM := Lib.hid hk
      go_upto_region 8 with fail
      have hpc : PairsAt wr.drew (some ad) m x := HPA.out.below (Below.refl _ wr).drew
      have HCL := Lib.hid (CloneP_calls (ad.add (k * 2)) (m - k) (c - k) (x.drop k) wr.drew (hpc.drop (by omega)) (by omega))
      have HTK := Lib.hid (hpc.take (i := k) (by omega))
      clear hpc
      refine wp_region_R (RL []) (by kernel_rfl) (RL_nil _) (fun hp => ?_)
      refine wpAnyR_take (i := 0) (oi := ⟨some 22, _, _, _, _, _⟩) (v := ?_) rfl (by kernel_rfl) (by kernel_rfl) (by kernel_rfl) (fun _ _ _ h => h) hp (.inl ⟨by rfl, fun w _ => ?_⟩) (fun hq => ?_)
      rotate_left
      · go_simp
        with_reducible rfl
      clear hp; have hp := hq; clear hq
      try simp only [Act.put, List.setIfInBounds_toArray, List.set_cons_zero, List.set_cons_succ]
      refine wpAnyR_take (i := 1) (oi := ⟨some 23, _, _, _, _, _⟩) (v := ?_) rfl (by kernel_rfl) (by kernel_rfl) (by kernel_rfl) (fun _ _ _ h => h) hp (.inl ⟨by rfl, fun w _ => ?_⟩) (fun hq => ?_)
      rotate_left
      · go_simp
        with_reducible rfl
      clear hp; have hp := hq; clear hq
      try simp only [Act.put, List.setIfInBounds_toArray, List.set_cons_zero, List.set_cons_succ]
      refine wpAnyR_take (i := 2) (oi := ⟨some 24, _, _, _, _, _⟩) (v := ?_) rfl (by kernel_rfl) (by kernel_rfl) (by kernel_rfl) (fun _ _ _ h => h) hp (.inl ⟨by rfl, fun w _ => ?_⟩) (fun hq => ?_)
      rotate_left
      · go_simp
        rw [if_pos (show k ≤ m by omega), if_neg (show ¬ c = k by omega)]
      clear hp; have hp := hq; clear hq
      try simp only [Act.put, List.setIfInBounds_toArray, List.set_cons_zero, List.set_cons_succ]
      refine wpAnyR_take (i := 4) (oi := ⟨some 26, _, _, _, _, _⟩) (v := ?_) rfl (by kernel_rfl) (by kernel_rfl) (by kernel_rfl) (fun _ _ _ h => h) hp (.inl ⟨by rfl, fun w _ => ?_⟩) (fun hq => ?_)
      rotate_left
      · go_simp
        with_reducible rfl
      clear hp; have hp := hq; clear hq
      try simp only [Act.put, List.setIfInBounds_toArray, List.set_cons_zero, List.set_cons_succ]
      refine wpAnyR_take (i := 5) (oi := ⟨some 27, _, _, _, _, _⟩) (v := ?_) rfl (by kernel_rfl) (by kernel_rfl) (by kernel_rfl) (fun _ _ _ h => h) hp (.inl ⟨by rfl, fun w _ => ?_⟩) (fun hq => ?_)
      rotate_left
      · go_simp
        with_reducible rfl
      clear hp; have hp := hq; clear hq
      try simp only [Act.put, List.setIfInBounds_toArray, List.set_cons_zero, List.set_cons_succ]
      refine wpAnyR_take (i := 6) (oi := ⟨some 28, _, _, _, _, _⟩) (v := ?_) rfl (by kernel_rfl) (by kernel_rfl) (by kernel_rfl) (fun _ _ _ h => h) hp (.inl ⟨by rfl, fun w _ => ?_⟩) (fun hq => ?_)
      rotate_left
      · go_simp
        with_reducible rfl
      clear hp; have hp := hq; clear hq
      try simp only [Act.put, List.setIfInBounds_toArray, List.set_cons_zero, List.set_cons_succ]
      refine wpAnyR_step (i := 3) (o := ⟨some 25, _, _, _, _, _⟩) (by kernel_rfl) rfl (by rfl) (fun K hK => ?_) -- Op.call { callee := Callee.value (Operand.func 98), args := #[Operand.tmp 24], argTypes := #[46] }
      go_simp
      refine HCL.out.mono ?_
      rintro e w3 ⟨v3, rfl, hown3, hb3⟩
      show K _ _
      have H3 := Lib.hid (And.intro hown3 (And.intro hb3 (HTK.out.below (hb3.mono (Nat.le_refl _)))))
      clear hown3 hb3
      refine hK _ _ pend_nil (fun hq => ?_)
      clear hp hK K; have hp := hq; clear hq
      try simp only [Act.put, List.setIfInBounds_toArray, List.set_cons_zero, List.set_cons_succ]
      refine wpAnyR_step (i := 7) (o := ⟨some 29, _, _, _, _, _⟩) (by kernel_rfl) rfl (by rfl) (fun K hK => ?_) -- Op.call { callee := Callee.builtin Builtin.append, args := #[Operand.tmp 25, Operand.tmp 28], argTypes := #[46
      refine wp_append_own _ _ _ _ rfl wr.drew.heap.size 28 i0 _ 2 16 Tryz.underlying46 HI0.out.1 HI0.out.2.1 HI0.out.2.2.1 HI0.out.2.2.2 (by rfl) (by omega) v3 (m - k) (pRow (x.drop k)) rfl H3.out.1 ad k c (pRow (x.take k)) rfl (by rw [pRow_len, List.length_take]; have := HPA.out.len; omega) H3.out.2.2.src (pRow_one _) (by simp only [maxLen]; omega) (by omega) H3.out.2.1.size ?_
      intro v4 w4 hown4 hgrow4 _
      have hmk : m - k + k = m := by omega
      rw [hmk] at hown4
      have H4 := Lib.hid (And.intro hown4 (Below.grown ((hR.out.1.drew).trans (H3.out.2.1.mono hR.out.1.size)) hgrow4 (Nat.le_trans hR.out.1.size H3.out.2.1.size) (fun z hz => Nat.le_trans hR.out.1.size (H3.out.1.lt z hz).1)))
      clear hown4 hgrow4 hmk
      refine hK _ _ pend_nil (fun hq => ?_)
      clear hp hK K; have hp := hq; clear hq
      try simp only [Act.put, List.setIfInBounds_toArray, List.set_cons_zero, List.set_cons_succ]
      refine wpAnyR_take (i := 8) (oi := ⟨some 2, _, _, _, _, _⟩) (v := ?_) rfl (by kernel_rfl) (by kernel_rfl) (by kernel_rfl) (fun _ _ _ h => h) hp (.inl ⟨by rfl, fun w _ => ?_⟩) (fun hq => ?_)
      rotate_left
      · go_simp
        with_reducible rfl
      clear hp; have hp := hq; clear hq
      try simp only [Act.put, List.setIfInBounds_toArray, List.set_cons_zero, List.set_cons_succ]
      refine wpAnyR_done (by kernel_rfl) ?_ _
      clear hp
      go_wp2
      go_ret
      obtain ⟨z, hz⟩ : ∃ z, x[k]? = some z := ⟨_, List.getElem?_eq_getElem (by have := HPA.out.len; have := HKM.out; omega)⟩
      refine ⟨v4, k, z, rfl, hz, fun y hy => ?_, ?_, H4.out.2⟩
      · obtain ⟨j, hj, he⟩ := List.getElem_of_mem hy
        exact hR.out.2 j y z (by have := HPA.out.len; omega) (by rw [List.getElem?_eq_getElem hj, he]) hz
      · rw [pRow_append]
        exact own_weaken H4.out.1 hR.out.1.size
    have hd1 : decide ((i : Int) < (m : Int)) = true := by simp; omega
    have hPA := H.out.below hR.out.1
    obtain ⟨y, ady, hy, e1, _⟩ := hPA.one hgo
    obtain ⟨z, adz, hz, e2, _⟩ := hPA.one hk
    have hcc := fun w => comparePairs_calls y z w
    obtain ⟨KV, hKV⟩ : ∃ KV, KV = cmpP y z := ⟨_, rfl⟩
    rw [← hKV] at hcc
    unfold pCells at hcc
    have HCC := Lib.hid hcc
    have HYZ := Lib.hid (And.intro hy (And.intro hz hKV))
    have HPA := Lib.hid hPA
    clear hcc hy hz hKV e1 e2 hPA
    go_upto_region 5 with fail
    go_cut [19] (fun s19 wx => s19 = .bool (decide (KV < 0)) ∧ Hid (Below w.heap.size w wx))
    case first =>
      have HPD := Lib.hid (HPA.out.below (Below.refl _ wr).drew)
      refine wp_region_R (RL [(3, fun w' => PairsAt w' (some ad) m x), (7, fun w' => PairsAt w' (some ad) m x)]) (by kernel_rfl) (RL_cons HPD.out (RL_cons HPD.out (RL_nil _))) (fun hp => ?_)
      have hS3 := HPD.out
      have hS7 := HPD.out
      refine wpAnyR_take (i := 0) (oi := ⟨some 10, _, _, _, _, _⟩) (v := ?_) rfl (by kernel_rfl) (by kernel_rfl) (by kernel_rfl) (fun _ _ _ h => h) hp (.inl ⟨by rfl, fun w _ => ?_⟩) (fun hq => ?_)
      rotate_left
      · go_simp
        with_reducible rfl
      clear hp; have hp := hq; clear hq
      try simp only [Act.put, List.setIfInBounds_toArray, List.set_cons_zero, List.set_cons_succ]
      refine wpAnyR_take (i := 1) (oi := ⟨some 11, _, _, _, _, _⟩) (v := ?_) rfl (by kernel_rfl) (by kernel_rfl) (by kernel_rfl) (fun _ _ _ h => h) hp (.inl ⟨by rfl, fun w _ => ?_⟩) (fun hq => ?_)
      rotate_left
      · go_simp
        with_reducible rfl
      clear hp; have hp := hq; clear hq
      try simp only [Act.put, List.setIfInBounds_toArray, List.set_cons_zero, List.set_cons_succ]
      refine wpAnyR_take (i := 2) (oi := ⟨some 12, _, _, _, _, _⟩) (v := ?_) rfl (by kernel_rfl) (by kernel_rfl) (by kernel_rfl) (fun _ _ _ h => h) hp (.inl ⟨by rfl, fun w _ => ?_⟩) (fun hq => ?_)
      rotate_left
      · go_simp
        with_reducible rfl
      clear hp; have hp := hq; clear hq
      try simp only [Act.put, List.setIfInBounds_toArray, List.set_cons_zero, List.set_cons_succ]
      refine wpAnyR_take (i := 3) (oi := ⟨some 13, _, _, _, _, _⟩) (v := ?_) rfl (by kernel_rfl) (by kernel_rfl) (by kernel_rfl) (fun _ _ _ h => h) hp (.inl ⟨by rfl, fun w hR => ?_⟩) (fun hq => ?_)
      rotate_left
      · have hR := hR.1 rfl
        (try dsimp only at hR)
        obtain ⟨k0, k1⟩ := HYC.out _ _ _ hR HYZ.out.1
        clear hR
        go_simp
        with_reducible rfl
      clear hp; have hp := hq; clear hq
      try simp only [Act.put, List.setIfInBounds_toArray, List.set_cons_zero, List.set_cons_succ]
      refine wpAnyR_take (i := 4) (oi := ⟨some 14, _, _, _, _, _⟩) (v := ?_) rfl (by kernel_rfl) (by kernel_rfl) (by kernel_rfl) (fun _ _ _ h => h) hp (.inl ⟨by rfl, fun w _ => ?_⟩) (fun hq => ?_)
      rotate_left
      · go_simp
        with_reducible rfl
      clear hp; have hp := hq; clear hq
      try simp only [Act.put, List.setIfInBounds_toArray, List.set_cons_zero, List.set_cons_succ]
      refine wpAnyR_take (i := 5) (oi := ⟨some 15, _, _, _, _, _⟩) (v := ?_) rfl (by kernel_rfl) (by kernel_rfl) (by kernel_rfl) (fun _ _ _ h => h) hp (.inl ⟨by rfl, fun w _ => ?_⟩) (fun hq => ?_)
      rotate_left
      · go_simp
        with_reducible rfl
      clear hp; have hp := hq; clear hq
      try simp only [Act.put, List.setIfInBounds_toArray, List.set_cons_zero, List.set_cons_succ]
      refine wpAnyR_take (i := 6) (oi := ⟨some 16, _, _, _, _, _⟩) (v := ?_) rfl (by kernel_rfl) (by kernel_rfl) (by kernel_rfl) (fun _ _ _ h => h) hp (.inl ⟨by rfl, fun w _ => ?_⟩) (fun hq => ?_)
      rotate_left
      · go_simp
        with_reducible rfl
      clear hp; have hp := hq; clear hq
      try simp only [Act.put, List.setIfInBounds_toArray, List.set_cons_zero, List.set_cons_succ]
      refine wpAnyR_take (i := 7) (oi := ⟨some 17, _, _, _, _, _⟩) (v := ?_) rfl (by kernel_rfl) (by kernel_rfl) (by kernel_rfl) (fun _ _ _ h => h) hp (.inl ⟨by rfl, fun w hR => ?_⟩) (fun hq => ?_)
      rotate_left
      · have hR := hR.2.1 rfl
        (try dsimp only at hR)
        obtain ⟨k0, k1⟩ := HYC.out _ _ _ hR HYZ.out.2.1
        clear hR
        go_simp
        with_reducible rfl
      clear hp; have hp := hq; clear hq
      try simp only [Act.put, List.setIfInBounds_toArray, List.set_cons_zero, List.set_cons_succ]
      refine wpAnyR_step (i := 8) (o := ⟨some 18, _, _, _, _, _⟩) (by kernel_rfl) rfl (by rfl) (fun K hK => ?_) -- Op.call { callee := Callee.value (Operand.func 65), args := #[Operand.tmp 13, Operand.tmp 17], argTypes := #[2
      go_simp
      refine (HCC.out _).mono ?_
      rintro e w4 ⟨rfl, q, os', rfl⟩
      show K _ _
      refine hK _ _ (pend_off (by kernel_rfl) (pend_off (by kernel_rfl) pend_nil)) (fun hq => ?_)
      clear hp hK K; have hp := hq; clear hq
      try simp only [Act.put, List.setIfInBounds_toArray, List.set_cons_zero, List.set_cons_succ]
      refine wpAnyR_step (i := 9) (o := ⟨some 19, _, _, _, _, _⟩) (by kernel_rfl) rfl (by rfl) (fun K hK => ?_) -- Op.binOp BinOp.lss 3 (Operand.tmp 18) (Operand.const (Value.int IntKind.i64 0)) 3
      go_simp
      refine hK _ _ (pend_off (by kernel_rfl) (pend_off (by kernel_rfl) pend_nil)) (fun hq => ?_)
      clear hp hK K; have hp := hq; clear hq
      try simp only [Act.put, List.setIfInBounds_toArray, List.set_cons_zero, List.set_cons_succ]
      refine wpAnyR_done (by kernel_rfl) ?_ _
      clear hp
      all_goals
        go_wp2
        go_meet
        exact ⟨rfl, Lib.hid (below_gd hR.out.1 hR.out.1.size _ _)⟩
    case rest =>
    obtain ⟨rfl, H5⟩ := hcut
    apply_assumption
    cases hneg : decide (KV < 0)
    · have HNEG := Lib.hid hneg
      clear hneg
      go_wp2
      go_roundg (gk - 1)
      case measure => omega
      case rel =>
        refine ⟨i + 1, k, by go_num, by go_num, by omega, hk, Lib.hid ⟨H5.out, fun j y' z' hj hy' hz' => ?_⟩⟩
        by_cases hji : j = i
        · subst hji
          rw [HYZ.out.1] at hy'
          rw [HYZ.out.2.1] at hz'
          injection hy' with hy'
          injection hz' with hz'
          subst hy'
          subst hz'
          intro hlt
          have := (cmpP_neg _ _).2 hlt
          rw [← HYZ.out.2.2, HNEG.out] at this
          cases this
        · exact hR.out.2 j y' z' (by omega) hy' hz'
    · have HNEG := Lib.hid hneg
      clear hneg
      go_wp2
      go_roundg (gk - 1)
      case measure => omega
      case rel =>
        have hyz : Pe.ltP y z := (cmpP_neg _ _).1 (by rw [← HYZ.out.2.2, HNEG.out])
        refine ⟨i + 1, i, by go_num, by go_num, by omega, hgo, Lib.hid ⟨H5.out, fun j y' z' hj hy' hz' => ?_⟩⟩
        rw [HYZ.out.1] at hz'
        injection hz' with hz'
        subst hz'
        by_cases hji : j = i
        · subst hji
          rw [HYZ.out.1] at hy'
          injection hy' with hy'
          subst hy'
          exact Pe.ltP_irr _
        · exact fun hlt => hR.out.2 j y' z (by omega) hy' HYZ.out.2.1 (Pe.ltP_tr _ _ _ hlt hyz)

end Go.Proofs.YtnphlekailodkaaGreatDoor

namespace Go.Proofs
open Go.Shelf Go.RowKit Go.Lib Go.Sort
namespace YtnphlekailodkaaGreatDoor

def hdP (x : List Pe.Pair) : Pe.Pair := x.head?.getD (0, 0)
theorem ltC_hd {x y : List Pe.Pair} (hx : x ≠ []) (hy : y ≠ []) : Pe.ltC x y ↔ Pe.ltP (hdP x) (hdP y) := by
  cases x with
  | nil => exact absurd rfl hx
  | cons a r =>
    cases y with
    | nil => exact absurd rfl hy
    | cons b s =>
      constructor
      · rintro ⟨a', b', h1, h2, h3⟩
        simp at h1 h2
        subst h1; subst h2
        exact h3
      · exact fun h => ⟨a, b, rfl, rfl, h⟩

theorem drew_drewN (W : World) (q : Nat) (os : Array Obj) : grow (W.drew.drewN q) os = grow (W.drewN (1 + q)) os := by
  unfold grow World.drew World.drewN
  simp [Nat.add_assoc]

set_option maxRecDepth 1000000 in
set_option maxHeartbeats 4000000 in
theorem Loops1_calls (ga gb : Nat) (n c m c' : Nat) (x y : List Pe.Pair) (W : World) (h : PairsAt W (some ⟨ga, 0, none⟩) n x) (h' : PairsAt W (some ⟨gb, 0, none⟩) m y) (hx : x ≠ []) (hy : y ≠ []) :
    Calls Tryz.prog 71 #[.slice (some ⟨ga, 0, none⟩) n c, .slice (some ⟨gb, 0, none⟩) m c'] W fun e w' => e = .returned (.int .i64 (cmpP (hdP x) (hdP y))) ∧ ∃ q os', w' = grow (W.drewN q) os' := by
  have h0 : 0 < n := by rw [h.len]; exact List.length_pos_iff.2 hx
  have h0' : 0 < m := by rw [h'.len]; exact List.length_pos_iff.2 hy
  obtain ⟨a, ha⟩ : ∃ a, x[0]? = some a := ⟨_, List.getElem?_eq_getElem (by have := h.len; omega)⟩
  obtain ⟨b, hb⟩ : ∃ b, y[0]? = some b := ⟨_, List.getElem?_eq_getElem (by have := h'.len; omega)⟩
  have e1 : hdP x = a := by unfold hdP; rw [List.head?_eq_getElem?, ha]; rfl
  have e2 : hdP y = b := by unfold hdP; rw [List.head?_eq_getElem?, hb]; rfl
  rw [e1, e2]
  have hyc : ∀ (w0 : World) (g n : Nat) (x : List Pe.Pair) (z : Pe.Pair), PairsAt w0 (some ⟨g, 0, none⟩) n x → x[0]? = some z → w0.cell? ⟨g, 0, none⟩ = some (.int .i64 z.1) ∧ w0.cell? ⟨g, 1, none⟩ = some (.int .i64 z.2) := fun w0 g n x z hp hz => by
    have hi : 0 < n := by have := (List.getElem?_eq_some_iff.1 hz).1; have := hp.len; omega
    obtain ⟨y2, a2, q1, q2, q3⟩ := hp.one hi
    injection q2 with q2
    subst q2
    rw [hz] at q1
    injection q1 with q1
    subst q1
    exact ⟨q3 0 _ rfl, q3 1 _ rfl⟩
  have HYC := Lib.hid hyc
  have HAB := Lib.hid (And.intro ha hb)
  have hcc := fun w => comparePairs_calls a b w
  obtain ⟨kv, hK⟩ : ∃ kv, kv = cmpP a b := ⟨_, rfl⟩
  rw [← hK] at hcc ⊢
  unfold pCells at hcc
  have HCC := Lib.hid hcc
  have H := Lib.hid (And.intro h h')
  clear hyc ha hb hcc hK e1 e2 h h' hx hy
  go_enter Tryz.func71, Tryz.ntmps71
  go_upto_region 1 with fail
  have HW := Lib.hid (show PairsAt W.drew (some ⟨ga, 0, none⟩) n x ∧ PairsAt W.drew (some ⟨gb, 0, none⟩) m y from ⟨H.out.1.below (Below.refl _ W).drew, H.out.2.below (Below.refl _ W).drew⟩)
  refine wp_region_R (RL [(2, fun w' => PairsAt w' (some ⟨ga, 0, none⟩) n x), (5, fun w' => PairsAt w' (some ⟨gb, 0, none⟩) m y)]) (by kernel_rfl) (RL_cons HW.out.1 (RL_cons HW.out.2 (RL_nil _))) (fun hp => ?_)
  have hS2 := HW.out.1
  have hS5 := HW.out.2
  refine wpAnyR_take (i := 0) (oi := ⟨some 5, _, _, _, _, _⟩) (v := ?_) rfl (by kernel_rfl) (by kernel_rfl) (by kernel_rfl) (fun _ _ _ h => h) hp (.inl ⟨by rfl, fun w _ => ?_⟩) (fun hq => ?_)
  rotate_left
  · go_simp
    with_reducible rfl
  clear hp; have hp := hq; clear hq
  try simp only [Act.put, List.setIfInBounds_toArray, List.set_cons_zero, List.set_cons_succ]
  refine wpAnyR_take (i := 1) (oi := ⟨some 6, _, _, _, _, _⟩) (v := ?_) rfl (by kernel_rfl) (by kernel_rfl) (by kernel_rfl) (fun _ _ _ h => h) hp (.inl ⟨by rfl, fun w _ => ?_⟩) (fun hq => ?_)
  rotate_left
  · go_simp
    with_reducible rfl
  clear hp; have hp := hq; clear hq
  try simp only [Act.put, List.setIfInBounds_toArray, List.set_cons_zero, List.set_cons_succ]
  refine wpAnyR_take (i := 2) (oi := ⟨some 7, _, _, _, _, _⟩) (v := ?_) rfl (by kernel_rfl) (by kernel_rfl) (by kernel_rfl) (fun _ _ _ h => h) hp (.inl ⟨by rfl, fun w hR => ?_⟩) (fun hq => ?_)
  rotate_left
  · have hR := hR.1 rfl
    (try dsimp only at hR)
    obtain ⟨k0, k1⟩ := HYC.out _ _ _ _ _ hR HAB.out.1
    clear hR
    go_simp
    with_reducible rfl
  clear hp; have hp := hq; clear hq
  try simp only [Act.put, List.setIfInBounds_toArray, List.set_cons_zero, List.set_cons_succ]
  refine wpAnyR_take (i := 3) (oi := ⟨some 8, _, _, _, _, _⟩) (v := ?_) rfl (by kernel_rfl) (by kernel_rfl) (by kernel_rfl) (fun _ _ _ h => h) hp (.inl ⟨by rfl, fun w _ => ?_⟩) (fun hq => ?_)
  rotate_left
  · go_simp
    with_reducible rfl
  clear hp; have hp := hq; clear hq
  try simp only [Act.put, List.setIfInBounds_toArray, List.set_cons_zero, List.set_cons_succ]
  refine wpAnyR_take (i := 4) (oi := ⟨some 9, _, _, _, _, _⟩) (v := ?_) rfl (by kernel_rfl) (by kernel_rfl) (by kernel_rfl) (fun _ _ _ h => h) hp (.inl ⟨by rfl, fun w _ => ?_⟩) (fun hq => ?_)
  rotate_left
  · go_simp
    with_reducible rfl
  clear hp; have hp := hq; clear hq
  try simp only [Act.put, List.setIfInBounds_toArray, List.set_cons_zero, List.set_cons_succ]
  refine wpAnyR_take (i := 5) (oi := ⟨some 10, _, _, _, _, _⟩) (v := ?_) rfl (by kernel_rfl) (by kernel_rfl) (by kernel_rfl) (fun _ _ _ h => h) hp (.inl ⟨by rfl, fun w hR => ?_⟩) (fun hq => ?_)
  rotate_left
  · have hR := hR.2.1 rfl
    (try dsimp only at hR)
    obtain ⟨k0, k1⟩ := HYC.out _ _ _ _ _ hR HAB.out.2
    clear hR
    go_simp
    with_reducible rfl
  clear hp; have hp := hq; clear hq
  try simp only [Act.put, List.setIfInBounds_toArray, List.set_cons_zero, List.set_cons_succ]
  refine wpAnyR_step (i := 6) (o := ⟨some 11, _, _, _, _, _⟩) (by kernel_rfl) rfl (by rfl) (fun K hK => ?_) -- Op.call { callee := Callee.value (Operand.func 65), args := #[Operand.tmp 7, Operand.tmp 10], argTypes := #[28
  go_simp
  refine (HCC.out _).mono ?_
  rintro e w4 ⟨rfl, q, os', rfl⟩
  show K _ _
  refine hK _ _ (pend_off (by kernel_rfl) (pend_off (by kernel_rfl) pend_nil)) (fun hq => ?_)
  clear hp hK K; have hp := hq; clear hq
  try simp only [Act.put, List.setIfInBounds_toArray, List.set_cons_zero, List.set_cons_succ]
  refine wpAnyR_step (i := 7) (o := ⟨some 4, _, _, _, _, _⟩) (by kernel_rfl) rfl (by rfl) (fun K hK => ?_) -- Op.assign (Operand.tmp 11)
  go_simp
  refine hK _ _ (pend_off (by kernel_rfl) (pend_off (by kernel_rfl) pend_nil)) (fun hq => ?_)
  clear hp hK K; have hp := hq; clear hq
  try simp only [Act.put, List.setIfInBounds_toArray, List.set_cons_zero, List.set_cons_succ]
  refine wpAnyR_done (by kernel_rfl) ?_ _
  clear hp
  all_goals
    go_wp2
    go_ret
    exact ⟨rfl, 1 + q, os', rfl⟩

theorem own_pairs0 {w : World} {base : Nat} {v : Value} {x : List Pe.Pair} (h : w.ownsRow base 28 2 v x.length (pRow x)) (h0 : 0 < x.length) : ∃ g c, v = .slice (some ⟨g, 0, none⟩) x.length c ∧ PairsAt w (some ⟨g, 0, none⟩) x.length x := by
  obtain ⟨g, cap, e1, _⟩ := own_form h h0
  obtain ⟨A, c, e2, hp, _⟩ := own_pairsAt h rfl
  rw [e1] at e2
  injection e2 with e3 _ e4
  exact ⟨g, cap, e1, by rw [e3]; exact hp⟩
theorem swo_hd {α : Type} (h : α → Pe.Pair) : SWO (ltOf fun p q : α => cmpP (h p) (h q)) :=
  ⟨fun x => swoP.irrefl (h x), fun x y z => swoP.trans (h x) (h y) (h z), fun x y z => swoP.ntrans (h x) (h y) (h z)⟩

/-- A list of pairs with the slice that holds it in a row of its own. -/
def Bear (W : World) (base : Nat) (p : List Pe.Pair × Value) : Prop := p.1 ≠ [] ∧ W.ownsRow base 28 2 p.2 p.1.length (pRow p.1)
set_option maxRecDepth 100000 in
set_option maxHeartbeats 2000000 in
theorem SortFunc2_calls {W : World} {base base' : Nat} {v : Value} {LL : List (List Pe.Pair)} {vs : List Value} (h : W.ownsRow base 46 1 v LL.length vs) (hr : RowsAt W base' LL vs) (hne : ∀ x ∈ LL, x ≠ []) (hn : LL.length < 4611686018427387904) :
    Calls Tryz.prog 70 #[v, .func (.func 71) #[] #[]] W fun e w' => e = .returned (.tuple #[]) ∧ Chg (fun i => v.ownBlock = some i) W w' ∧
      ∃ (LL' : List (List Pe.Pair)) (vs' : List Value), LL'.Perm LL ∧ LL'.Pairwise (fun x y => ¬ Pe.ltC y x) ∧ w'.ownsRow base 46 1 v LL.length vs' ∧ RowsAt w' base' LL' vs' := by
  by_cases h0 : LL.length = 0
  · have hl : LL = [] := List.eq_nil_of_length_eq_zero h0
    subst hl
    have hvs : vs = [] := List.eq_nil_of_length_eq_zero hr.len
    subst hvs
    obtain ⟨A, cap, rfl, _⟩ := own_shape h
    refine (AnyF.slices_SortFunc_none (P := Tryz.prog) (ρ := laysSort20_ren) { laysSort20 with } A cap (.func (.func 71) #[] #[]) W).mono ?_
    rintro e w' ⟨rfl, rfl⟩
    exact ⟨rfl, Chg.refl _ _, [], [], List.Perm.refl _, by simp, h, hr⟩
  obtain ⟨g, cap, rfl, hbg, hlt, hnc, hcm⟩ := own_form h (by omega)
  have hgb : ∃ cs, Blk W g 46 cs := by obtain ⟨cur, hg, _⟩ := own_parts h; exact ⟨cur, hg⟩
  have hall : ∀ p ∈ LL.zip vs, Bear W base' p := by
    rintro ⟨x, u⟩ hp
    obtain ⟨i, hi, he⟩ := List.getElem_of_mem hp
    rw [List.getElem_zip] at he
    injection he with e1 e2
    rw [List.length_zip] at hi
    have hi := Nat.lt_min.1 hi
    obtain ⟨u', hu, ho⟩ := hr.row i x (by rw [← e1]; exact List.getElem?_eq_getElem hi.1)
    rw [List.getElem?_eq_getElem hi.2, e2] at hu
    injection hu with hu
    subst hu
    exact ⟨hne x (by rw [← e1]; exact List.getElem_mem _), ho⟩
  obtain ⟨d0, hd0⟩ : ∃ d0 : List {p // Bear W base' p}, d0 = (LL.zip vs).pmap Subtype.mk hall := ⟨_, rfl⟩
  have hm0 : d0.map Subtype.val = LL.zip vs := by rw [hd0, List.map_pmap]; simp
  have hm1 : d0.map (fun p => p.1.1) = LL := by
    have : d0.map (fun p => p.1.1) = (d0.map Subtype.val).map Prod.fst := by rw [List.map_map]; rfl
    rw [this, hm0, List.map_fst_zip (by rw [hr.len]; exact Nat.le_refl _)]
  have hm2 : d0.map (fun p => p.1.2) = vs := by
    have : d0.map (fun p => p.1.2) = (d0.map Subtype.val).map Prod.snd := by rw [List.map_map]; rfl
    rw [this, hm0, List.map_snd_zip (by rw [hr.len]; exact Nat.le_refl _)]
  have hlen : d0.length = LL.length := by rw [← hm1, List.length_map]
  haveI : Inhabited {p // Bear W base' p} := ⟨d0[0]'(by omega)⟩
  have eg : ∀ args w, (callFunc 71 args).run Tryz.prog w = .ok (.enter 71 args) w := enters_of Tryz.func71 (by kernel_rfl) rfl
  have hsz : d0.toArray.size = LL.length := by simpa using hlen
  have hH : Holds (fun p : {p // Bear W base' p} => p.1.2) W g 0 d0.toArray := own_holds1 (n := LL.length) (by rw [show d0.toArray.toList.map (fun p => p.1.2) = vs from hm2]; exact h)
  have hkeep : ∀ (m : Nat) (os : Array Obj) (dk : Array {p // Bear W base' p}), dk.size = LL.length → Chg (fun i => i = g) W (sortWorld (fun p : {p // Bear W base' p} => p.1.2) W g 0 m dk os) := fun m os dk hs => (sort_own h m dk os hs).2
  have hown : ∀ (p : {p // Bear W base' p}) (W' : World), Chg (fun i => i = g) W W' → W'.ownsRow base' 28 2 p.1.2 p.1.1.length (pRow p.1.1) := fun p W' hc => by
    obtain ⟨cs, hcs⟩ := hgb
    exact hc.own p.2.2 (fun k hk e => own_ne_blk (t := 46) p.2.2 hcs (by decide) k hk e)
  have hcmp : CmpLays1 Tryz.prog 71 #[] (fun p : {p // Bear W base' p} => p.1.2) (fun p q => cmpP (hdP p.1.1) (hdP q.1.1)) g 0 d0.toArray.size W := by
    intro m os dk hs p q
    have hc := hkeep m os dk (by rw [hs, hsz])
    obtain ⟨ga, c, e1, hp⟩ := own_pairs0 (hown p _ hc) (List.length_pos_iff.2 p.2.1)
    obtain ⟨gb, c', e2, hq⟩ := own_pairs0 (hown q _ hc) (List.length_pos_iff.2 q.2.1)
    show Calls Tryz.prog 71 #[p.1.2, q.1.2] _ _
    rw [e1, e2]
    exact Loops1_calls ga gb _ c _ c' p.1.1 q.1.1 _ hp hq p.2.1 q.2.1
  have hcon := Any.slices_SortFunc laysSort2 (fun p : {p // Bear W base' p} => p.1.2) (fun p => slice_one p.2.2) (fun p q => cmpP (hdP p.1.1) (hdP q.1.1)) (swo_hd fun p : {p // Bear W base' p} => hdP p.1.1) 71 #[] g 0 cap d0.toArray W eg hcmp hH hlt (by rw [hsz]; exact hn)
  rw [hsz] at hcon
  refine hcon.mono ?_
  rintro e w' ⟨rfl, d', m, os, hp, hs, rfl⟩
  have hds : d'.size = LL.length := by rw [hp.1, hsz]
  have hc := hkeep m os d' hds
  have hso := sort_own (enc := fun p : {p // Bear W base' p} => p.1.2) h m d' os hds
  refine ⟨rfl, ?_, d'.toList.map (fun p => p.1.1), d'.toList.map (fun p => p.1.2), ?_, ?_, hso.1, ?_⟩
  · refine Chg.mono (fp := fun i => i = g) hc (fun i _ hi => ?_)
    subst hi
    rfl
  · have h1 := hp.2.2
    have e1 : d'.extract 0 LL.length = d' := by rw [← hds]; simp
    have e2 : d0.toArray.extract 0 LL.length = d0.toArray := by rw [← hsz]; simp
    rw [e1, e2] at h1
    have h2 := h1.map (fun p => p.1.1)
    rw [show d0.toArray.toList = d0 from rfl, hm1] at h2
    exact h2
  · rw [List.pairwise_iff_getElem]
    intro i j hi hj hij
    simp only [List.length_map, Array.length_toList] at hi hj
    have h1 := hs i j (Nat.zero_le _) hij (by omega)
    rw [getElem!_pos d' j hj, getElem!_pos d' i hi] at h1
    simp only [List.getElem_map, Array.getElem_toList]
    rw [ltC_hd d'[j].2.1 d'[i].2.1]
    intro hlt2
    have h2 : ltOf cmpP (hdP d'[j].1.1) (hdP d'[i].1.1) = true := by
      rw [cmpP_lt]; simpa [Pe.ltP] using hlt2
    have h3 : ltOf cmpP (hdP d'[j].1.1) (hdP d'[i].1.1) = false := h1
    rw [h2] at h3; cases h3
  · refine ⟨by simp, fun i x hx => ?_⟩
    rw [List.getElem?_map] at hx
    obtain ⟨p, hpi, rfl⟩ := Option.map_eq_some_iff.1 hx
    exact ⟨p.1.2, by rw [List.getElem?_map, hpi]; rfl, hown p _ hc⟩

end YtnphlekailodkaaGreatDoor
end Go.Proofs

namespace Go.Proofs.YtnphlekailodkaaGreatDoor
open Go.RowKit

theorem DMap.ne_blk {w : World} {r g : Nat} {L : List Pe.Pair} {t : TypeId} {cs : Array Value} (h : DMap w r L) (hg : Blk w g t cs) : g ≠ r := by
  rintro rfl
  have h2 : w.heap[g]? = some (.map _ _) := h
  rw [show w.heap[g]? = _ from hg] at h2; cases h2
theorem CMap.ne_blk {w : World} {r g : Nat} {L : List Pe.Pair} {t : TypeId} {cs : Array Value} (h : CMap w r L) (hg : Blk w g t cs) : g ≠ r := by
  rintro rfl
  have h2 : w.heap[g]? = some (.map _ _) := h
  rw [show w.heap[g]? = _ from hg] at h2; cases h2
theorem own_blk {w : World} {base : Nat} {e : TypeId} {size n : Nat} {v : Value} {xs : List Value} (h : w.ownsRow base e size v n xs) {k : Nat} (hk : v.ownBlock = some k) : ∃ cs, Blk w k e cs := by
  rcases h.2 with ⟨rfl, _⟩ | ⟨g, cap, cur, rfl, _, hg, _⟩
  · cases hk
  · simp [Value.ownBlock] at hk
    subst hk
    exact ⟨cur, hg⟩
theorem own_chgD {wo wi : World} {rD : Nat} {D : List Pe.Pair} {base : Nat} {e : TypeId} {size n : Nat} {v : Value} {xs : List Value} (h : wo.ownsRow base e size v n xs) (hd : DMap wo rD D) (hc : Chg (fun i => i = rD) wo wi) : wi.ownsRow base e size v n xs :=
  hc.own h (fun k hk e => by obtain ⟨cs, hb⟩ := own_blk h hk; exact hd.ne_blk hb e)
theorem own_chgP {wo wi : World} {rD : Nat} {D : List Pe.Pair} {base : Nat} {e : TypeId} {size n : Nat} {v : Value} {xs : List Value} (h : wo.ownsRow base e size v n xs) (hd : CMap wo rD D) (hc : Chg (fun i => i = rD) wo wi) : wi.ownsRow base e size v n xs :=
  hc.own h (fun k hk e => by obtain ⟨cs, hb⟩ := own_blk h hk; exact hd.ne_blk hb e)
theorem RowsAt.chgD {wo wi : World} {rD : Nat} {D : List Pe.Pair} {base : Nat} {LL : List (List Pe.Pair)} {vs : List Value} (h : RowsAt wo base LL vs) (hd : DMap wo rD D) (hc : Chg (fun i => i = rD) wo wi) : RowsAt wi base LL vs :=
  ⟨h.len, fun i x hx => by obtain ⟨v, h1, h2⟩ := h.row i x hx; exact ⟨v, h1, own_chgD h2 hd hc⟩⟩

/-- The memory of a search under way, seen from the world in which it began: the map of what was seen holds D, the map of places P, the way is W. -/
structure LzB (wo : World) (rD rP pb : Nat) (D P W : List Pe.Pair) (at_ : Pe.Pair) (v : Value) (wi : World) : Prop where
  chg : Chg (fun i => i = rD) wo wi
  dm : DMap wi rD D
  cm : CMap wi rP P
  pt : Blk wi pb 28 (pCells at_)
  own : wi.ownsRow wo.heap.size 28 2 v W.length (pRow W)
  newP : wo.heap.size ≤ rP
  newB : wo.heap.size ≤ pb
  old : rD < wo.heap.size
  ne : ∀ g, v.ownBlock = some g → g ≠ pb
section
variable {wo wi wj : World} {rD rP pb : Nat} {D P W : List Pe.Pair} {at_ : Pe.Pair} {v : Value}
theorem LzB.below (h : LzB wo rD rP pb D P W at_ v wi) (hb : Below wi.heap.size wi wj) : LzB wo rD rP pb D P W at_ v wj :=
  ⟨h.chg.trans (Chg.of_below (fp := fun i => i = rD) hb) (fun _ hi => .inl hi), h.dm.below hb, h.cm.below hb, h.pt.below hb h.pt.lt, own_below h.own hb, h.newP, h.newB, h.old, h.ne⟩
theorem LzB.insP {P' : List Pe.Pair} (h : LzB wo rD rP pb D P W at_ v wi) (hc : Chg (fun i => i = rP) wi wj) (hm : CMap wj rP P') : LzB wo rD rP pb D P' W at_ v wj := by
  have hne : rD ≠ rP := fun e => by have := h.newP; have := h.old; omega
  exact ⟨h.chg.trans hc (fun _ hi => .inr (by rw [hi]; exact h.newP)), (hc.block rD h.dm.lt hne).trans h.dm, hm, hc.blk h.pt (h.cm.ne_blk h.pt), own_chgP h.own h.cm hc, h.newP, h.newB, h.old, h.ne⟩
theorem LzB.insD {D' : List Pe.Pair} (h : LzB wo rD rP pb D P W at_ v wi) (hc : Chg (fun i => i = rD) wi wj) (hm : DMap wj rD D') : LzB wo rD rP pb D' P W at_ v wj := by
  have hne : rP ≠ rD := fun e => by have := h.newP; have := h.old; omega
  exact ⟨h.chg.trans hc (fun _ hi => .inl hi), hm, (hc.block rP h.cm.lt hne).trans h.cm, hc.blk h.pt (h.dm.ne_blk h.pt), own_chgD h.own h.dm hc, h.newP, h.newB, h.old, h.ne⟩
theorem LzB.app {W' : List Pe.Pair} {v' : Value} (h : LzB wo rD rP pb D P W at_ v wi) (hg : wi.grownBy wj v.ownBlock) (ho : wj.ownsRow wo.heap.size 28 2 v' W'.length (pRow W')) (hne : ∀ g, v'.ownBlock = some g → g ≠ pb) : LzB wo rD rP pb D P W' at_ v' wj := by
  have hd : some rD ≠ v.ownBlock := fun e => by obtain ⟨cs, hb⟩ := own_blk h.own e.symm; exact h.dm.ne_blk hb rfl
  have hp : some rP ≠ v.ownBlock := fun e => by obtain ⟨cs, hb⟩ := own_blk h.own e.symm; exact h.cm.ne_blk hb rfl
  exact ⟨h.chg.trans (Chg.of_grownBy (fp := fun i => i = rD ∨ wo.heap.size ≤ i) hg (fun k hk => .inl (.inr (h.own.lt k hk).1))) (fun _ hi => by rcases hi with hi | hi; exact .inl hi; exact .inr hi), (hg.block rD h.dm.lt hd).trans h.dm, (hg.block rP h.cm.lt hp).trans h.cm, h.pt.grown hg (fun e => h.ne pb e.symm rfl), ho, h.newP, h.newB, h.old, hne⟩
theorem LzB.mv (h : LzB wo rD rP pb D P W at_ v wi) (c : Pe.Pair) : LzB wo rD rP pb D P W c v ((wi.setCell ⟨pb, 0, none⟩ (.int .i64 c.1)).setCell ⟨pb, 1, none⟩ (.int .i64 c.2)) := by
  have hd : rD ≠ pb := (h.dm.ne_blk h.pt).symm
  have hp : rP ≠ pb := (h.cm.ne_blk h.pt).symm
  have hc : Chg (fun i => i = pb) wi ((wi.setCell ⟨pb, 0, none⟩ (.int .i64 c.1)).setCell ⟨pb, 1, none⟩ (.int .i64 c.2)) := ((Chg.refl (fun i => i = pb) wi).setCell (.inl rfl) _).setCell (.inl rfl) _
  exact ⟨h.chg.trans hc (fun _ hi => .inr (by rw [hi]; exact h.newB)), (hc.block rD h.dm.lt hd).trans h.dm, (hc.block rP h.cm.lt hp).trans h.cm, (h.pt.put 0 _).put 1 _, hc.own h.own (fun k hk e => h.ne k hk e), h.newP, h.newB, h.old, h.ne⟩
theorem size_mv (c : Pe.Pair) : ((wi.setCell ⟨pb, 0, none⟩ (.int .i64 c.1)).setCell ⟨pb, 1, none⟩ (.int .i64 c.2)).heap.size = wi.heap.size := by simp
theorem LzB.box (h : LzB wo rD rP pb D P W at_ v wi) : LzB wo rD rP wi.heap.size D P W at_ v (wi.alloc (.cells (pCells at_) 28)) := by
  have h2 := h.below ((Below.refl _ wi).alloc (Nat.le_refl _) (.cells (pCells at_) 28))
  exact ⟨h2.chg, h2.dm, h2.cm, Blk.fresh wi 28 (pCells at_), h2.own, h2.newP, h.chg.size, h2.old, fun g hg e => by have := (h.own.lt g hg).2; omega⟩
theorem LzB.go (h : LzB wo rD rP pb D P W at_ v wi) (c : Pe.Pair) : LzB wo rD rP wi.heap.size D P W c v (((wi.setCell ⟨pb, 0, none⟩ (.int .i64 c.1)).setCell ⟨pb, 1, none⟩ (.int .i64 c.2)).alloc (.cells #[.int .i64 c.1, .int .i64 c.2] 28)) := by
  have h2 := (h.mv c).box
  rw [size_mv] at h2
  exact h2
end

/-- What holds between two rounds of the search. -/
structure LzO (l : List Pe.Ent) (d : Int) (w : World) (rD nf m' i : Nat) (F S : List Pe.Pair) (LL : List (List Pe.Pair)) (vs : List Value) (vf vo : Value) (wr : World) : Prop where
  bel : Below w.heap.size w wr
  frm : wr.ownsRow w.heap.size 28 2 vf nf (pRow F)
  dm : DMap wr rD S
  new : w.heap.size ≤ rD
  out : wr.ownsRow w.heap.size 46 1 vo m' vs
  rows : RowsAt wr w.heap.size LL vs
  len : m' = LL.length
  fnd : Cg.Found (Pe.nextP l d) Pe.ltP S LL
  nod : S.Nodup
  pre : ∀ z ∈ F.take i, z ∈ S
  sub : ∀ z ∈ S, z ∈ Pe.tgts l d l
section
variable {l : List Pe.Ent} {d : Int} {w wr wi : World} {rD rP pb nf m' i : Nat} {F S D P W : List Pe.Pair} {LL : List (List Pe.Pair)} {vs : List Value} {vf vo v : Value} {at_ c : Pe.Pair}
theorem LzO.below (h : LzO l d w rD nf m' i F S LL vs vf vo wr) (hb : Below wr.heap.size wr wi) : LzO l d w rD nf m' i F S LL vs vf vo wi :=
  ⟨h.bel.trans (hb.mono h.bel.size), own_below h.frm hb, h.dm.below hb, h.new, own_below h.out hb, h.rows.below hb, h.len, h.fnd, h.nod, h.pre, h.sub⟩
/-- The outer memory, seen within. -/
theorem LzO.mid (h : LzO l d w rD nf m' i F S LL vs vf vo wr) (hB : LzB wr rD rP pb D P W at_ v wi) : Below w.heap.size w wi ∧ wi.ownsRow w.heap.size 28 2 vf nf (pRow F) ∧ wi.ownsRow w.heap.size 46 1 vo m' vs ∧ RowsAt wi w.heap.size LL vs :=
  ⟨h.bel.trans (hB.chg.below (B := w.heap.size) (fun _ hi => by rw [hi]; exact h.new) h.bel.size), own_chgD h.frm h.dm hB.chg, own_chgD h.out h.dm hB.chg, h.rows.chgD h.dm hB.chg⟩
theorem LzO.next (h : LzO l d w rD nf m' i F S LL vs vf vo wr) (hB : LzB wr rD rP pb D P W at_ v wi) (hf : Cg.Found (Pe.nextP l d) Pe.ltP D LL) (hn : D.Nodup) (hc : F[i]? = some c) (hcD : c ∈ D) (hS : ∀ z ∈ S, z ∈ D) (hsub : ∀ z ∈ D, z ∈ Pe.tgts l d l) : LzO l d w rD nf m' (i + 1) F D LL vs vf vo wi := by
  obtain ⟨h1, h2, h3, h4⟩ := h.mid hB
  refine ⟨h1, h2, hB.dm, h.new, h3, h4, h.len, hf, hn, fun z hz => ?_, hsub⟩
  rw [List.take_add_one, hc] at hz
  rcases List.mem_append.1 hz with hz | hz
  · exact hS z (h.pre z hz)
  · simp at hz; rw [hz]; exact hcD
/-- .. and a circle more. -/
theorem LzO.nextC {wj : World} {o : Obj} {X : List Pe.Pair} {u vo' : Value} (h : LzO l d w rD nf m' i F S LL vs vf vo wr) (hB : LzB wr rD rP pb D P W at_ v wi) (hg : (wi.alloc o).grownBy wj vo.ownBlock) (ho : wj.ownsRow w.heap.size 46 1 vo' (m' + 1) (vs ++ [u])) (hu : wi.ownsRow w.heap.size 28 2 u X.length (pRow X)) (hf : Cg.Found (Pe.nextP l d) Pe.ltP D (LL ++ [X])) (hn : D.Nodup) (hc : F[i]? = some c) (hcD : c ∈ D) (hS : ∀ z ∈ S, z ∈ D) (hsub : ∀ z ∈ D, z ∈ Pe.tgts l d l) : LzO l d w rD nf (m' + 1) (i + 1) F D (LL ++ [X]) (vs ++ [u]) vf vo' wj := by
  obtain ⟨h1, h2, h3, h4⟩ := h.mid hB
  have ha : Below wi.heap.size wi (wi.alloc o) := (Below.refl _ wi).alloc (Nat.le_refl _) _
  have h3a := own_below h3 ha
  have hda := hB.dm.below ha
  have hd : some rD ≠ vo.ownBlock := fun e => by obtain ⟨cs, hb⟩ := own_blk h3a e.symm; exact hda.ne_blk hb rfl
  refine ⟨(h1.alloc h1.size o).grown hg (h1.alloc h1.size o).size (fun z hz => (h3.lt z hz).1), own_keeps (own_below h2 ha) h3a hg, (hg.block rD hda.lt hd).trans hda, h.new, ho, ((h4.below ha).grown h3a hg).snoc (own_keeps (own_below hu ha) h3a hg), by simp [h.len], hf, hn, fun z hz => ?_, hsub⟩
  rw [List.take_add_one, hc] at hz
  rcases List.mem_append.1 hz with hz | hz
  · exact hS z (h.pre z hz)
  · simp at hz; rw [hz]; exact hcD
end

end Go.Proofs.YtnphlekailodkaaGreatDoor

namespace Go.Proofs.YtnphlekailodkaaGreatDoor
open Go.RowKit

set_option maxRecDepth 1000000 in
set_option maxHeartbeats 16000000 in
theorem Loops_calls (A : Option Addr) (n c : Nat) (l : List Pe.Ent) (d : Int) (w : World) (h : EntsAt w A n l) (hn : n * 88 ≤ 140737488355328) :
    Calls Tryz.prog 37 #[.slice A n c, .int .i64 d] w fun e w' => ∃ v, e = .returned (.tuple #[v, .int .i64 (Pe.loops l d).2]) ∧ CircsAt w' w.heap.size (Pe.loops l d).1 v ∧ Below w.heap.size w w' := by
  have hmm := @run_makeMap Tryz.prog
  obtain ⟨i0, hi0, hz0, hz1, hz2⟩ := info_parts infoCandN
  have HI0 := Lib.hid (And.intro hi0 (And.intro hz0 (And.intro hz1 hz2)))
  clear hi0 hz0 hz1 hz2
  obtain ⟨j0, hi0, hz0, hz1, hz2⟩ := info_parts infoCandsN
  have HJ0 := Lib.hid (And.intro hi0 (And.intro hz0 (And.intro hz1 hz2)))
  have H := Lib.hid h
  have hmost := h.most
  obtain ⟨V, hV⟩ : ∃ V, V = Pe.loops l d := ⟨_, rfl⟩
  rw [← hV]
  unfold Pe.loops at hV
  clear hi0 hz0 hz1 hz2 h
  go_enter Tryz.func37, Tryz.ntmps37
  by_cases d0 : d < 0
  · have d1 : decide (d < 0) = true := by simpa using d0
    have HV := Lib.hid (show V = ([], 1) by rw [hV, if_pos d0])
    clear hV d0
    go_wp2
    go_ret2
    exact ⟨.slice none 0 0, by rw [HV.out]; rfl, by rw [HV.out]; exact CircsAt.nil _ _, Below.refl _ _⟩
  have d1 : decide (d < 0) = false := by simpa using d0
  rw [if_neg d0] at hV
  by_cases d2 : 100000 < d
  · have d3 : decide (100000 < d) = true := by simpa using d2
    have HV := Lib.hid (show V = ([], 1) by rw [hV, if_pos d2])
    clear hV d0 d2
    go_wp2
    go_ret2
    exact ⟨.slice none 0 0, by rw [HV.out]; rfl, by rw [HV.out]; exact CircsAt.nil _ _, Below.refl _ _⟩
  have d3 : decide (100000 < d) = false := by simpa using d2
  have HV := Lib.hid (show V = (Pe.loopsR l d, 0) by rw [hV, if_neg d2])
  clear hV d0 d2
  go_wp2_with fail
  go_loopg [6, 32] n (fun q s6 s32 wr => ∃ (i n' : Nat) (o : List Pe.Pair) (A' : Option Addr) (c' : Nat), s6 = .slice A' n' c' ∧ s32 = .int .i64 (i : Int) ∧ i + q = n ∧ n' ≤ i ∧ Hid (Below w.heap.size w wr ∧ wr.ownsRow w.heap.size 28 2 (.slice A' n' c') n' (pRow o) ∧ n' = o.length ∧ o = Pe.tgts l d (l.take i)))
  case atStart => exact ⟨0, 0, [], none, 0, rfl, by go_num, by omega, by omega, Lib.hid ⟨Below.refl _ _, World.ownsRow_nil _ _ _ _, rfl, rfl⟩⟩
  case round =>
    obtain ⟨i, n', o, A', c', rfl, rfl, hi, hn', hR⟩ := hrel
    by_cases hgo : i < n
    case pos =>
      have hd1 : decide ((i : Int) < (n : Int)) = true := by simp; omega
      obtain ⟨x, ad, hx, rfl, hok, hcw⟩ := (H.out.below hR.out.1).one hgo
      have g0 : wr.cell? (ad.add (i * 10)) = some (.int .i64 x.day) := hcw 0 _ rfl
      have g1 : wr.cell? ⟨(ad.add (i * 10)).block, (ad.add (i * 10)).off + 1, none⟩ = some (.int .u8 (x.kind : Int)) := hcw 1 _ rfl
      have g2 : wr.cell? ⟨(ad.add (i * 10)).block, (ad.add (i * 10)).off + 2, none⟩ = some (.int .i64 x.since) := hcw 2 _ rfl
      have g3 : wr.cell? ⟨(ad.add (i * 10)).block, (ad.add (i * 10)).off + 3, none⟩ = some (.int .i64 x.til) := hcw 3 _ rfl
      have g4 : wr.cell? ⟨(ad.add (i * 10)).block, (ad.add (i * 10)).off + 4, none⟩ = some (.int .i64 x.person) := hcw 4 _ rfl
      have g5 : wr.cell? ⟨(ad.add (i * 10)).block, (ad.add (i * 10)).off + 5, none⟩ = some (.int .i64 x.place) := hcw 5 _ rfl
      have g6 : wr.cell? ⟨(ad.add (i * 10)).block, (ad.add (i * 10)).off + 6, none⟩ = some (.int .i64 x.other) := hcw 6 _ rfl
      have g7 : wr.cell? ⟨(ad.add (i * 10)).block, (ad.add (i * 10)).off + 7, none⟩ = some (.int .i64 x.at_) := hcw 7 _ rfl
      have g8 : wr.cell? ⟨(ad.add (i * 10)).block, (ad.add (i * 10)).off + 8, none⟩ = some (.int .i64 x.order) := hcw 8 _ rfl
      have g9 : wr.cell? ⟨(ad.add (i * 10)).block, (ad.add (i * 10)).off + 9, none⟩ = some (.string (bs x.name)) := hcw 9 _ rfl
      have HX := Lib.hid hx
      clear hx hcw hok
      go_upto_region 7 with fail
      obtain ⟨xb, hxb⟩ : ∃ g, g = wr.heap.size := ⟨_, rfl⟩
      obtain ⟨w1, hw1⟩ : ∃ w0, w0 = wr.alloc (.cells (eCells x) 31) := ⟨_, rfl⟩
      have hbl : Below wr.heap.size wr w1 := by rw [hw1]; exact (Below.refl _ wr).alloc (Nat.le_refl _) _
      have hgb : Blk w1 xb 31 (eCells x) := by rw [hw1, hxb]; exact Blk.fresh _ _ _
      unfold eCells at hw1
      rw [← hxb, ← hw1]
      clear g0 g1 g2 g3 g4 g5 g6 g7 g8 g9
      have H1 := Lib.hid (And.intro (hR.out.1.trans (hbl.mono hR.out.1.size)) (And.intro (own_below hR.out.2.1 hbl) hgb))
      clear hbl hxb hw1 hgb
      have x0 : w1.cell? ⟨xb, 0, none⟩ = some (.int .i64 x.day) := H1.out.2.2.cell 0
      have x1 : w1.cell? ⟨xb, 1, none⟩ = some (.int .u8 (x.kind : Int)) := H1.out.2.2.cell 1
      have x2 : w1.cell? ⟨xb, 2, none⟩ = some (.int .i64 x.since) := H1.out.2.2.cell 2
      have x3 : w1.cell? ⟨xb, 3, none⟩ = some (.int .i64 x.til) := H1.out.2.2.cell 3
      have x4 : w1.cell? ⟨xb, 4, none⟩ = some (.int .i64 x.person) := H1.out.2.2.cell 4
      have x5 : w1.cell? ⟨xb, 5, none⟩ = some (.int .i64 x.place) := H1.out.2.2.cell 5
      have x6 : w1.cell? ⟨xb, 6, none⟩ = some (.int .i64 x.other) := H1.out.2.2.cell 6
      have x7 : w1.cell? ⟨xb, 7, none⟩ = some (.int .i64 x.at_) := H1.out.2.2.cell 7
      have x8 : w1.cell? ⟨xb, 8, none⟩ = some (.int .i64 x.order) := H1.out.2.2.cell 8
      have x9 : w1.cell? ⟨xb, 9, none⟩ = some (.string (bs x.name)) := H1.out.2.2.cell 9
      have k5 := nat_beq x.kind 5
      have k4 := nat_beq x.kind 4
      by_cases h5 : x.kind = 5
      · have q5 : ((x.kind : Int) == 5) = true := k5.trans (by rw [h5]; rfl)
        have q4 : ((x.kind : Int) == 4) = false := k4.trans (by rw [h5]; rfl)
        have HT0 := Pe.tgt_order (l := l) (d := d) h5
        clear k5 k4 h5
        have htc := target_calls (some ad) n c l x d w1 (H.out.below H1.out.1)
        obtain ⟨⟨T, B⟩, hTT⟩ : ∃ z, z = Pe.target l x d := ⟨_, rfl⟩
        rw [← hTT] at htc HT0
        dsimp only at htc HT0
        unfold eCells pCells at htc
        have HTC := Lib.hid htc
        have HT := Lib.hid HT0
        clear htc HT0 hTT
        go_wp2_with fail
        refine HTC.out.mono ?_
        rintro e w2 ⟨rfl, hb2⟩
        dsimp only
        go_upto_region 9 with fail
        obtain ⟨tb, htb⟩ : ∃ g, g = w2.heap.size := ⟨_, rfl⟩
        obtain ⟨w3, hw3⟩ : ∃ w0, w0 = w2.alloc (.cells (pCells T) 28) := ⟨_, rfl⟩
        have hbl : Below w2.heap.size w2 w3 := by rw [hw3]; exact (Below.refl _ w2).alloc (Nat.le_refl _) _
        have htk : Blk w3 tb 28 (pCells T) := by rw [hw3, htb]; exact Blk.fresh _ _ _
        unfold pCells at hw3
        rw [← htb, ← hw3]
        have hb3 := hb2.trans (hbl.mono hb2.size)
        have H3 := Lib.hid (And.intro (H1.out.1.trans (hb3.mono H1.out.1.size)) (And.intro (own_below H1.out.2.1 hb3) (And.intro (H1.out.2.2.below hb3 H1.out.2.2.lt) htk)))
        clear hbl htk htb hw3 hb2 hb3 x0 x1 x2 x3 x4 x5 x6 x7 x8 x9
        have t0 : w3.cell? ⟨tb, 0, none⟩ = some (.int .i64 T.1) := H3.out.2.2.2.cell 0
        have t1 : w3.cell? ⟨tb, 1, none⟩ = some (.int .i64 T.2) := H3.out.2.2.2.cell 1
        have x1 : w3.cell? ⟨xb, 1, none⟩ = some (.int .u8 (x.kind : Int)) := H3.out.2.2.1.cell 1
        cases B
        · go_wp2
          go_roundg (gk - 1)
          case measure => omega
          case rel => exact ⟨i + 1, n', o, A', c', rfl, by go_num, by omega, by omega, Lib.hid ⟨H3.out.1, H3.out.2.1, hR.out.2.2.1, by rw [Pe.tgts_next HX.out, HT.out, ← hR.out.2.2.2]; simp⟩⟩
        go_wp2_with (at_builtin; refine wpList_append_lies _ rfl _ _ 46 rfl w.heap.size 28 i0 _ 2 16 Tryz.underlying46 HI0.out.1 HI0.out.2.1 HI0.out.2.2.1 HI0.out.2.2.2 (by rfl) (by decide) (.slice A' n' c') n' (pRow o) rfl (own_below H3.out.2.1 ((Below.refl _ w3).alloc (Nat.le_refl _) _)) ⟨w3.heap.size, 0, none⟩ 1 1 [.int .i64 T.1, .int .i64 T.2] rfl rfl (World.news_of_block (cs := #[.int .i64 T.1, .int .i64 T.2]) (t := 28) (fr := (0, 0)) (heap_alloc_new w3 _)) ?o1 (by decide) ?o2 ?o3 ?o4 _ rfl ?_)
        case o1 => simp [Value.oneCell']
        case o2 => simp only [maxLen]; omega
        case o3 => omega
        case o4 => have := H3.out.1.size; simp; omega
        intro gn cn W2 hown hgr _ hlt
        have hba : Below w3.heap.size w3 (w3.alloc (.cells #[.int .i64 T.1, .int .i64 T.2] 28)) := (Below.refl _ w3).alloc (Nat.le_refl _) _
        have hOA := own_below H3.out.2.1 hba
        have hXA : Blk W2 xb 31 (eCells x) := (H3.out.2.2.1.alloc _).grown hgr (fun e => own_ne_blk (t := 31) hOA (H3.out.2.2.1.alloc _) (by decide) xb e.symm rfl)
        have HA := Lib.hid (And.intro ((H3.out.1.alloc H3.out.1.size _).grown hgr (H3.out.1.alloc H3.out.1.size _).size (fun z hz => (H3.out.2.1.lt z hz).1)) (And.intro (show W2.ownsRow w.heap.size 28 2 (.slice (some ⟨gn, 0, none⟩) (n' + 1) cn) (n' + 1) (pRow (o ++ [T])) by rw [pRow_snoc]; exact hown) hXA))
        clear hown hgr hlt hba hOA hXA x1 t0 t1
        have x1 : W2.cell? ⟨xb, 1, none⟩ = some (.int .u8 (x.kind : Int)) := HA.out.2.2.cell 1
        go_wp2
        go_roundg (gk - 1)
        case measure => omega
        case rel => exact ⟨i + 1, n' + 1, o ++ [T], some ⟨gn, 0, none⟩, cn, rfl, by go_num, by omega, by omega, Lib.hid ⟨HA.out.1, HA.out.2.1, by simp; exact hR.out.2.2.1, by rw [Pe.tgts_next HX.out, HT.out, ← hR.out.2.2.2]; simp⟩⟩
      by_cases h4 : x.kind = 4
      · have q5 : ((x.kind : Int) == 5) = false := k5.trans (by rw [h4]; rfl)
        have q4 : ((x.kind : Int) == 4) = true := k4.trans (by rw [h4]; rfl)
        have HT0 := Pe.tgt_heir (l := l) (d := d) h4
        clear k5 k4 h5 h4
        have htc := reached_calls (some ad) n c l x.other d w1 (H.out.below H1.out.1)
        obtain ⟨⟨T, B⟩, hTT⟩ : ∃ z, z = Pe.reached l x.other d := ⟨_, rfl⟩
        rw [← hTT] at htc HT0
        dsimp only at htc HT0
        unfold pCells at htc
        have HTC := Lib.hid htc
        have HT := Lib.hid HT0
        clear htc HT0 hTT
        go_wp2_with fail
        refine HTC.out.mono ?_
        rintro e w2 ⟨rfl, hb2⟩
        dsimp only
        go_upto_region 13 with fail
        obtain ⟨tb, htb⟩ : ∃ g, g = w2.heap.size := ⟨_, rfl⟩
        obtain ⟨w3, hw3⟩ : ∃ w0, w0 = w2.alloc (.cells (pCells T) 28) := ⟨_, rfl⟩
        have hbl : Below w2.heap.size w2 w3 := by rw [hw3]; exact (Below.refl _ w2).alloc (Nat.le_refl _) _
        have htk : Blk w3 tb 28 (pCells T) := by rw [hw3, htb]; exact Blk.fresh _ _ _
        unfold pCells at hw3
        rw [← htb, ← hw3]
        have hb3 := hb2.trans (hbl.mono hb2.size)
        have H3 := Lib.hid (And.intro (H1.out.1.trans (hb3.mono H1.out.1.size)) (And.intro (own_below H1.out.2.1 hb3) (And.intro (H1.out.2.2.below hb3 H1.out.2.2.lt) htk)))
        clear hbl htk htb hw3 hb2 hb3 x0 x1 x2 x3 x4 x5 x6 x7 x8 x9
        have t0 : w3.cell? ⟨tb, 0, none⟩ = some (.int .i64 T.1) := H3.out.2.2.2.cell 0
        have t1 : w3.cell? ⟨tb, 1, none⟩ = some (.int .i64 T.2) := H3.out.2.2.2.cell 1
        have x1 : w3.cell? ⟨xb, 1, none⟩ = some (.int .u8 (x.kind : Int)) := H3.out.2.2.1.cell 1
        cases B
        · go_wp2
          go_roundg (gk - 1)
          case measure => omega
          case rel => exact ⟨i + 1, n', o, A', c', rfl, by go_num, by omega, by omega, Lib.hid ⟨H3.out.1, H3.out.2.1, hR.out.2.2.1, by rw [Pe.tgts_next HX.out, HT.out, ← hR.out.2.2.2]; simp⟩⟩
        go_wp2_with (at_builtin; refine wpList_append_lies _ rfl _ _ 46 rfl w.heap.size 28 i0 _ 2 16 Tryz.underlying46 HI0.out.1 HI0.out.2.1 HI0.out.2.2.1 HI0.out.2.2.2 (by rfl) (by decide) (.slice A' n' c') n' (pRow o) rfl (own_below H3.out.2.1 ((Below.refl _ w3).alloc (Nat.le_refl _) _)) ⟨w3.heap.size, 0, none⟩ 1 1 [.int .i64 T.1, .int .i64 T.2] rfl rfl (World.news_of_block (cs := #[.int .i64 T.1, .int .i64 T.2]) (t := 28) (fr := (0, 0)) (heap_alloc_new w3 _)) ?o1 (by decide) ?o2 ?o3 ?o4 _ rfl ?_)
        case o1 => simp [Value.oneCell']
        case o2 => simp only [maxLen]; omega
        case o3 => omega
        case o4 => have := H3.out.1.size; simp; omega
        intro gn cn W2 hown hgr _ hlt
        have hba : Below w3.heap.size w3 (w3.alloc (.cells #[.int .i64 T.1, .int .i64 T.2] 28)) := (Below.refl _ w3).alloc (Nat.le_refl _) _
        have hOA := own_below H3.out.2.1 hba
        have hXA : Blk W2 xb 31 (eCells x) := (H3.out.2.2.1.alloc _).grown hgr (fun e => own_ne_blk (t := 31) hOA (H3.out.2.2.1.alloc _) (by decide) xb e.symm rfl)
        have HA := Lib.hid (And.intro ((H3.out.1.alloc H3.out.1.size _).grown hgr (H3.out.1.alloc H3.out.1.size _).size (fun z hz => (H3.out.2.1.lt z hz).1)) (And.intro (show W2.ownsRow w.heap.size 28 2 (.slice (some ⟨gn, 0, none⟩) (n' + 1) cn) (n' + 1) (pRow (o ++ [T])) by rw [pRow_snoc]; exact hown) hXA))
        clear hown hgr hlt hba hOA hXA x1 t0 t1
        have x1 : W2.cell? ⟨xb, 1, none⟩ = some (.int .u8 (x.kind : Int)) := HA.out.2.2.cell 1
        go_wp2
        go_roundg (gk - 1)
        case measure => omega
        case rel => exact ⟨i + 1, n' + 1, o ++ [T], some ⟨gn, 0, none⟩, cn, rfl, by go_num, by omega, by omega, Lib.hid ⟨HA.out.1, HA.out.2.1, by simp; exact hR.out.2.2.1, by rw [Pe.tgts_next HX.out, HT.out, ← hR.out.2.2.2]; simp⟩⟩
      have q5 : ((x.kind : Int) == 5) = false := k5.trans (by simpa using h5)
      have q4 : ((x.kind : Int) == 4) = false := k4.trans (by simpa using h4)
      have HT := Lib.hid (Pe.tgt_none (l := l) (d := d) h5 h4)
      clear k5 k4 h5 h4
      go_wp2
      go_roundg (gk - 1)
      case measure => omega
      case rel => exact ⟨i + 1, n', o, A', c', rfl, by go_num, by omega, by omega, Lib.hid ⟨H1.out.1, H1.out.2.1, hR.out.2.2.1, by rw [Pe.tgts_next HX.out, HT.out, ← hR.out.2.2.2]; simp⟩⟩
    have hd1 : decide ((i : Int) < (n : Int)) = false := by simp; omega
    have hnn : n' ≤ n := by omega
    have hsc := SortFunc_calls (W := wr) (base := w.heap.size) (v := .slice A' n' c') (l := o) (by rw [← hR.out.2.2.1]; exact hR.out.2.1) (by have := hR.out.2.2.1; omega)
    obtain ⟨F, hF⟩ : ∃ F, F = o.mergeSort Pe.leP := ⟨_, rfl⟩
    rw [← hF] at hsc
    have hmem : ∀ z, z ∈ F ↔ z ∈ Pe.tgts l d l := fun z => by
      rw [hF, List.mem_mergeSort, hR.out.2.2.2, List.take_of_length_le (by have := H.out.len; omega)]
    have hFl : n' = F.length := by rw [hF, List.length_mergeSort]; exact hR.out.2.2.1
    have HSC := Lib.hid hsc
    have HF := Lib.hid (And.intro hmem (And.intro hFl hR.out.2.2.1))
    clear hsc hF hmem hFl
    go_wp2_with fail
    refine HSC.out.mono ?_
    rintro e w1 ⟨rfl, hs1, hc1⟩
    have HS1 := Lib.hid (And.intro (hR.out.1.trans (hc1.below (B := w.heap.size) (fun i hi => (hR.out.2.1.lt i hi).1) hR.out.1.size)) (show w1.ownsRow w.heap.size 28 2 (.slice A' n' c') n' (pRow F) by rw [← HF.out.2.2] at hs1; exact hs1))
    clear hs1 hc1
    dsimp only
    go_upto_region 19 with fail
    obtain ⟨rD, hrD⟩ : ∃ g, g = w1.heap.size := ⟨_, rfl⟩
    obtain ⟨w2, hw2⟩ : ∃ w0, w0 = w1.alloc (.map #[] 0) := ⟨_, rfl⟩
    have hbl : Below w1.heap.size w1 w2 := by rw [hw2]; exact (Below.refl _ w1).alloc (Nat.le_refl _) _
    have hdm : DMap w2 rD [] := by rw [hw2, hrD]; exact heap_alloc_new _ _
    rw [← hrD, ← hw2]
    have H2 := Lib.hid (show LzO l d w rD n' 0 0 F [] [] [] (.slice A' n' c') (.slice none 0 0) w2 from ⟨HS1.out.1.trans (hbl.mono HS1.out.1.size), own_below HS1.out.2 hbl, hdm, by rw [hrD]; exact HS1.out.1.size, World.ownsRow_nil _ _ _ _, RowsAt.nil _ _, rfl, Cg.Found.start _ _, by simp, by simp, by simp⟩)
    clear hbl hdm hrD hw2
    go_wp2_with fail
    go_loopg [13, 73] n' (fun q s13 s73 wr => ∃ (i m' : Nat) (S : List Pe.Pair) (LL : List (List Pe.Pair)) (vs : List Value) (A2 : Option Addr) (c2 : Nat), s13 = .slice A2 m' c2 ∧ s73 = .int .i64 (i : Int) ∧ i + q = n' ∧ m' ≤ i ∧ Hid (LzO l d w rD n' m' i F S LL vs (.slice A' n' c') (.slice A2 m' c2) wr))
    case atStart => exact ⟨0, 0, [], [], [], none, 0, rfl, by go_num, by omega, by omega, H2⟩
    case round =>
      clear hi hgo hd1 hn'
      obtain ⟨i, m', S, LL, vs, A2, c2, rfl, rfl, hi, hm', hO⟩ := hrel
      rename World => wo
      by_cases hgo : i < n'
      case neg =>
        have hd1 : decide ((i : Int) < (n' : Int)) = false := by simp; omega
        have hlo : LzO l d w rD n' m' i F S LL vs (.slice A' n' c') (.slice A2 m' c2) wo := hO.out
        have hsc2 := SortFunc2_calls (W := wo) (base := w.heap.size) (base' := w.heap.size) (v := .slice A2 m' c2) (LL := LL) (vs := vs) (by rw [← hlo.len]; exact hlo.out) hlo.rows (fun x hx e => by have := (hlo.fnd.circ x hx).1; rw [e] at this; exact this) (by have := hlo.len; omega)
        have HSC2 := Lib.hid hsc2
        clear hsc2 hlo
        go_wp2_with fail
        refine HSC2.out.mono ?_
        rintro e w5 ⟨rfl, hc5, LL', vs', hperm, hsort, hown, hrows⟩
        have hlo := hO.out
        have hLL : LL' = Pe.loopsR l d := Pe.found_loops hlo.fnd (fun z hz => hlo.pre z (by
          rw [List.take_of_length_le (by have := HF.out.2.1; omega)]
          exact (HF.out.1 z).2 hz)) hperm hsort
        have H5 := Lib.hid (And.intro hLL (And.intro hown (And.intro hrows (And.intro hperm.length_eq (hlo.bel.trans (hc5.below (B := w.heap.size) (fun i hi => (hlo.out.lt i hi).1) hlo.bel.size))))))
        clear hLL hc5 hperm hsort hown hrows hlo
        dsimp only
        go_wp2
        go_ret2
        refine ⟨_, by rw [HV.out]; rfl, ?_, H5.out.2.2.2.2⟩
        rw [HV.out]
        show CircsAt _ _ (Pe.loopsR l d) _
        rw [← H5.out.1]
        exact ⟨vs', by rw [H5.out.2.2.2.1]; exact H5.out.2.1, H5.out.2.2.1⟩
      have hd1 : decide ((i : Int) < (n' : Int)) = true := by simp; omega
      obtain ⟨g, rfl⟩ : ∃ g', gk = g' + 1 := ⟨gk - 1, by omega⟩
      obtain ⟨A3, c3, hv3, hPA, _⟩ := own_pairsAt hO.out.frm HF.out.2.1
      obtain ⟨rfl, rfl⟩ : A' = A3 ∧ c' = c3 := by injection hv3 with h1 _ h3; exact ⟨h1, h3⟩
      obtain ⟨y, ad, hy, rfl, hcy⟩ := hPA.one hgo
      have p0 : wo.cell? (ad.add (i * 2)) = some (.int .i64 y.1) := hcy 0 _ rfl
      have p1 : wo.cell? ⟨(ad.add (i * 2)).block, (ad.add (i * 2)).off + 1, none⟩ = some (.int .i64 y.2) := hcy 1 _ rfl
      have HY := Lib.hid hy
      clear hPA hv3 hy hcy
      go_upto_region 22 with fail
      obtain ⟨cb, hcb⟩ : ∃ g, g = wo.heap.size := ⟨_, rfl⟩
      obtain ⟨w1, hw1⟩ : ∃ w0, w0 = wo.alloc (.cells (pCells y) 28) := ⟨_, rfl⟩
      have hbl : Below wo.heap.size wo w1 := by rw [hw1]; exact (Below.refl _ wo).alloc (Nat.le_refl _) _
      have hgb : Blk w1 cb 28 (pCells y) := by rw [hw1, hcb]; exact Blk.fresh _ _ _
      unfold pCells at hw1
      rw [← hcb, ← hw1]
      have H1 := Lib.hid (And.intro hbl hgb)
      clear hbl hgb hcb hw1 p0 p1
      go_upto_region 24 with fail
      obtain ⟨rP, hrP⟩ : ∃ g, g = w1.heap.size := ⟨_, rfl⟩
      obtain ⟨w2, hw2⟩ : ∃ w0, w0 = w1.alloc (.map #[] 0) := ⟨_, rfl⟩
      have hbl : Below w1.heap.size w1 w2 := by rw [hw2]; exact (Below.refl _ w1).alloc (Nat.le_refl _) _
      have hcm : CMap w2 rP [] := by rw [hw2, hrP]; exact heap_alloc_new _ _
      rw [← hrP, ← hw2]
      have H2 := Lib.hid (And.intro (H1.out.1.trans (hbl.mono H1.out.1.size)) (And.intro (H1.out.2.below hbl H1.out.2.lt) (And.intro hcm (show wo.heap.size ≤ rP by rw [hrP]; exact H1.out.1.size))))
      clear hbl hcm hrP hw2
      have q0 : w2.cell? ⟨cb, 0, none⟩ = some (.int .i64 y.1) := H2.out.2.1.cell 0
      have q1 : w2.cell? ⟨cb, 1, none⟩ = some (.int .i64 y.2) := H2.out.2.1.cell 1
      have hSn : S.length ≤ n := by
        have h1 := Pe.nodup_le hO.out.nod hO.out.sub
        have h2 := Pe.tgts_length l d l
        have h3 := H.out.len
        omega
      have hyt : y ∈ Pe.tgts l d l := (HF.out.1 y).1 (List.mem_of_getElem? HY.out)
      have HYT := Lib.hid hyt
      clear hyt
      go_wp2_with fail
      go_loopg [13, 17, 19] (n + 1 - S.length) (fun q s13 s17 s19 wr2 => ∃ (W : List Pe.Pair) (at_ : Pe.Pair) (pb k : Nat) (Aw : Option Addr) (cw : Nat), s13 = .slice A2 m' c2 ∧ s17 = .slice Aw k cw ∧ s19 = .pointer (some ⟨pb, 0, none⟩) ∧ k + S.length + q = n + 1 ∧ Hid (LzB wo rD rP pb (S ++ W) W W at_ (.slice Aw k cw) wr2 ∧ k = W.length ∧ Cg.OnW (Pe.nextP l d) S W at_ ∧ at_ ∉ W ∧ (∀ z ∈ S ++ W, z ∈ Pe.tgts l d l) ∧ at_ ∈ Pe.tgts l d l ∧ (y ∈ S ++ W ∨ at_ = y)))
      case atStart =>
        refine ⟨[], y, w2.heap.size, 0, none, 0, rfl, rfl, rfl, by omega, Lib.hid ⟨?_, rfl, Cg.OnW.start hO.out.nod y, by simp, by simpa using hO.out.sub, HYT.out, .inr rfl⟩⟩
        have hba : Below w2.heap.size w2 (w2.alloc (.cells (pCells y) 28)) := (Below.refl _ w2).alloc (Nat.le_refl _) _
        have hbw := H2.out.1.trans (hba.mono H2.out.1.size)
        refine ⟨Chg.of_below hbw, by rw [List.append_nil]; exact hO.out.dm.below hbw, H2.out.2.2.1.below hba, Blk.fresh _ _ _, World.ownsRow_nil _ _ _ _, H2.out.2.2.2, H2.out.1.size, hO.out.dm.lt, fun g hg => by simp [Value.ownBlock] at hg⟩
      case round =>
        obtain ⟨W, at_, pb, k, Aw, cw, rfl, rfl, rfl, hq, hI⟩ := hrel
        have p0 : wr.cell? ⟨pb, 0, none⟩ = some (.int .i64 at_.1) := hI.out.1.pt.cell 0
        have p1 : wr.cell? ⟨pb, 1, none⟩ = some (.int .i64 at_.2) := hI.out.1.pt.cell 1
        have hld := run_lookup_d hI.out.1.dm at_
        unfold pCells at hld
        obtain ⟨DV, hDV⟩ : ∃ DV, DV = decide (at_ ∈ S ++ W) := ⟨_, rfl⟩
        rw [← hDV] at hld
        have HDV := Lib.hid hDV
        clear hDV
        cases DV
        case true =>
          have hin : at_ ∈ S ++ W := of_decide_eq_true HDV.out.symm
          have haS : at_ ∈ S := (List.mem_append.1 hin).resolve_right hI.out.2.2.2.1
          have HFIN := Lib.hid (hO.out.next hI.out.1 (hO.out.fnd.seen hI.out.2.2.1 haS) hI.out.2.2.1.nodup HY.out (by
            rcases hI.out.2.2.2.2.2.2 with h1 | h1
            · exact h1
            · rw [← h1]; exact hin) (fun z hz => List.mem_append_left _ hz) hI.out.2.2.2.2.1)
          clear hin haS
          go_wp2
          go_roundg g
          case measure => omega
          case rel => exact ⟨i + 1, m', S ++ W, LL, vs, A2, c2, rfl, by go_num, by omega, by omega, HFIN⟩
        have hnot : at_ ∉ S ++ W := of_decide_eq_false HDV.out.symm
        have hkn : k + S.length + 1 ≤ n := by
          have h1 := Pe.nodup_le (a := S ++ W ++ [at_]) (b := Pe.tgts l d l) (by
            rw [List.nodup_append]
            exact ⟨hI.out.2.2.1.nodup, by simp, fun x hx y hy => by rw [List.mem_singleton.1 hy]; rintro rfl; exact hnot hx⟩) (fun z hz => by
            rcases List.mem_append.1 hz with hz | hz
            · exact hI.out.2.2.2.2.1 z hz
            · rw [List.mem_singleton.1 hz]; exact hI.out.2.2.2.2.2.1)
          have h2 := Pe.tgts_length l d l
          have h3 := H.out.len
          have h4 := hI.out.2.1
          simp at h1
          omega
        have HNOT := Lib.hid hnot
        obtain ⟨W1, hup1, hM1, hC1, _⟩ := run_insert_c hI.out.1.cm at_ hI.out.2.2.2.1
        have hB1 := hI.out.1.insP hC1 hM1
        obtain ⟨W2, hup2, hM2, hC2, _⟩ := run_insert_d hB1.dm at_ hnot
        have hB2 := hB1.insD hC2 hM2
        rw [← hI.out.2.1] at hup1
        unfold pCells at hup1 hup2
        have q0 : W1.cell? ⟨pb, 0, none⟩ = some (.int .i64 at_.1) := hB1.pt.cell 0
        have q1 : W1.cell? ⟨pb, 1, none⟩ = some (.int .i64 at_.2) := hB1.pt.cell 1
        have r0 : W2.cell? ⟨pb, 0, none⟩ = some (.int .i64 at_.1) := hB2.pt.cell 0
        have r1 : W2.cell? ⟨pb, 1, none⟩ = some (.int .i64 at_.2) := hB2.pt.cell 1
        have hown2 : W2.ownsRow wo.heap.size 28 2 (.slice Aw k cw) k (pRow W) := by have := hB2.own; rw [← hI.out.2.1] at this; exact this
        have H2B := Lib.hid (And.intro hB2 hown2)
        clear hM1 hC1 hB1 hM2 hC2 hB2 hown2 hnot
        go_wp2_with (at_builtin; refine wpList_append_lies _ rfl _ _ 46 rfl wo.heap.size 28 i0 _ 2 16 Tryz.underlying46 HI0.out.1 HI0.out.2.1 HI0.out.2.2.1 HI0.out.2.2.2 (by rfl) (by decide) (.slice Aw k cw) k (pRow W) rfl (own_below H2B.out.2 ((Below.refl _ W2).alloc (Nat.le_refl _) _)) ⟨W2.heap.size, 0, none⟩ 1 1 [.int .i64 at_.1, .int .i64 at_.2] rfl rfl (World.news_of_block (cs := #[.int .i64 at_.1, .int .i64 at_.2]) (t := 28) (fr := (0, 0)) (heap_alloc_new W2 _)) ?o1 (by decide) ?o2 ?o3 ?o4 _ rfl ?_)
        case o1 => simp [Value.oneCell']
        case o2 => simp only [maxLen]; omega
        case o3 => omega
        case o4 => have := H2B.out.1.chg.size; (try simp); omega
        intro gn cn W3 hown hgr hat hlt
        have hkl : k + 1 = (W ++ [at_]).length := by simp; exact hI.out.2.1
        have hB3 : LzB wo rD rP pb (S ++ W ++ [at_]) (W ++ [at_]) (W ++ [at_]) at_ (.slice (some ⟨gn, 0, none⟩) (k + 1) cn) W3 := (H2B.out.1.below ((Below.refl _ W2).alloc (Nat.le_refl _) _)).app hgr (by rw [← hkl, pRow_snoc]; exact hown) (fun g hg => by
          obtain rfl : gn = g := by simpa [Value.ownBlock] using hg
          rcases hat with h1 | h1
          · exact H2B.out.1.ne _ h1
          · have := H2B.out.1.pt.lt
            (try simp at h1)
            omega)
        have HKL := Lib.hid hkl
        have H3 := Lib.hid hB3
        clear hown hgr hat hlt hkl hB3 p0 p1 q0 q1 r0 r1 hup1 hup2 hld
        have s0 : W3.cell? ⟨pb, 0, none⟩ = some (.int .i64 at_.1) := H3.out.pt.cell 0
        have s1 : W3.cell? ⟨pb, 1, none⟩ = some (.int .i64 at_.2) := H3.out.pt.cell 1
        have hsc := step_calls A n c l at_ d W3 (H.out.below (hO.out.mid H3.out).1)
        obtain ⟨⟨hp, how⟩, hst⟩ : ∃ z, z = Pe.step l at_ d := ⟨_, rfl⟩
        rw [← hst] at hsc
        dsimp only at hsc
        unfold pCells hCells at hsc
        have HSC2 := Lib.hid hsc
        have HST := Lib.hid hst
        clear hsc hst
        go_wp2_with fail
        refine HSC2.out.mono ?_
        rintro e W4 ⟨rfl, hb4⟩
        have H4 := Lib.hid (H3.out.below hb4)
        clear hb4 s0 s1
        dsimp only
        go_upto_region 30 with fail
        obtain ⟨hb, hhb⟩ : ∃ g, g = W4.heap.size := ⟨_, rfl⟩
        obtain ⟨W5, hW5⟩ : ∃ w0, w0 = W4.alloc (.cells (hCells hp) 66) := ⟨_, rfl⟩
        have hbl : Below W4.heap.size W4 W5 := by rw [hW5]; exact (Below.refl _ W4).alloc (Nat.le_refl _) _
        have hgb : Blk W5 hb 66 (hCells hp) := by rw [hW5, hhb]; exact Blk.fresh _ _ _
        unfold hCells at hW5
        rw [← hhb, ← hW5]
        have H5 := Lib.hid (And.intro (H4.out.below hbl) hgb)
        clear hbl hgb hhb hW5
        by_cases h2 : how = 2
        case neg =>
          have hnx : Pe.nextP l d at_ = none := Pe.nextP_none.2 (by rw [← HST.out]; exact h2)
          have hne : ((how : Int) != 2) = true := by simp; omega
          have HFIN := Lib.hid (hO.out.next H5.out.1 (by rw [List.append_assoc]; exact hO.out.fnd.ends hI.out.2.2.1 hnx) (by
            rw [List.nodup_append]
            exact ⟨hI.out.2.2.1.nodup, by simp, fun x hx y hy => by rw [List.mem_singleton.1 hy]; rintro rfl; exact HNOT.out hx⟩) HY.out (by
            rcases hI.out.2.2.2.2.2.2 with h1 | h1
            · exact List.mem_append_left _ h1
            · rw [← h1]; simp) (fun z hz => List.mem_append_left _ (List.mem_append_left _ hz)) (fun z hz => by
            rcases List.mem_append.1 hz with hz | hz
            · exact hI.out.2.2.2.2.1 z hz
            · rw [List.mem_singleton.1 hz]; exact hI.out.2.2.2.2.2.1))
          clear hnx h2
          go_wp2
          go_roundg g
          case measure => omega
          case rel => exact ⟨i + 1, m', S ++ W ++ [at_], LL, vs, A2, c2, rfl, by go_num, by omega, by omega, HFIN⟩
        subst h2
        have hnx : Pe.nextP l d at_ = some hp.to := Pe.nextP_some.2 (by rw [← HST.out]; exact ⟨rfl, rfl⟩)
        have HNX := Lib.hid hnx
        have k3 : W5.cell? ⟨hb, 3, none⟩ = some (.int .i64 hp.to.1) := H5.out.2.cell 3
        have k4 : W5.cell? ⟨hb, 4, none⟩ = some (.int .i64 hp.to.2) := H5.out.2.cell 4
        have hlk := run_lookup_c H5.out.1.cm hp.to
        obtain ⟨nv, hnv⟩ : ∃ nv, nv = numOf hp.to (W ++ [at_]) 0 := ⟨_, rfl⟩
        rw [← hnv] at hlk
        unfold pCells at hlk
        have HNV := Lib.hid hnv
        clear hnx hnv
        cases nv with
        | none =>
          have hnw := numOf_none.1 HNV.out.symm
          have HNW := Lib.hid hnw
          clear hnw
          dsimp only [Option.getD, Option.isSome] at hlk
          have p0 : W5.cell? ⟨pb, 0, none⟩ = some (.int .i64 at_.1) := H5.out.1.pt.cell 0
          have p1 : W5.cell? ⟨pb, 1, none⟩ = some (.int .i64 at_.2) := H5.out.1.pt.cell 1
          have pf0 := H5.out.1.pt.frozen 0
          have pf1 := H5.out.1.pt.frozen 1
          have lp : pb < W5.heap.size := H5.out.1.pt.lt
          go_wp2
          go_roundg (gk - 1)
          case measure => omega
          case rel =>
            refine ⟨W ++ [at_], hp.to, _, k + 1, some ⟨gn, 0, none⟩, cn, rfl, rfl, rfl, by omega, Lib.hid ⟨?_, HKL.out, hI.out.2.2.1.on HNOT.out HNX.out, HNW.out, ?_, Pe.next_tgt HNX.out, ?_⟩⟩
            · have := H5.out.1.go hp.to
              rw [List.append_assoc] at this
              exact this
            · rw [← List.append_assoc]
              intro z hz
              rcases List.mem_append.1 hz with hz | hz
              · exact hI.out.2.2.2.2.1 z hz
              · rw [List.mem_singleton.1 hz]; exact hI.out.2.2.2.2.2.1
            · rw [← List.append_assoc]
              left
              rcases hI.out.2.2.2.2.2.2 with h1 | h1
              · exact List.mem_append_left _ h1
              · rw [← h1]; simp
        | some j =>
          have hj := numOf_some HNV.out.symm
          have hjk : j < k + 1 := by have := (List.getElem?_eq_some_iff.1 hj).1; have := HKL.out; omega
          obtain ⟨gA, gc, gv, hpw, _⟩ := own_pairsAt H5.out.1.own rfl
          obtain ⟨gA', gc', gv', hcap, _⟩ := own_shape H5.out.1.own
          rw [← HKL.out] at hpw hcap gv gv'
          obtain ⟨rfl, rfl⟩ : some ⟨gn, 0, none⟩ = gA ∧ cn = gc := by injection gv with h1 _ h3; exact ⟨h1, h3⟩
          obtain rfl : cn = gc' := by injection gv' with h1 _ h3
          have htc := turned_calls (some ((⟨gn, 0, none⟩ : Addr).add (j * 2))) (k + 1 - j) (cn - j) ((W ++ [at_]).drop j) W5 (hpw.drop (by omega)) (by omega) (by omega) (by omega)
          rw [show (⟨gn, 0, none⟩ : Addr).add (j * 2) = ⟨gn, j * 2, none⟩ by rw [Addr.add_mid, Nat.zero_add]] at htc
          have HTC := Lib.hid htc
          have HJ := Lib.hid hj
          have hjle : j ≤ k + 1 := by omega
          have hjc : ¬ cn = j := by omega
          clear hj htc gv gv' hpw
          dsimp only [Option.getD, Option.isSome] at hlk
          go_wp2_with fail
          refine HTC.out.mono ?_
          rintro e W6 ⟨v, kk, z, rfl, hkz, hlz, hown, hb6⟩
          have H6 := Lib.hid (H5.out.1.below hb6)
          have hlo := hO.out.mid H6.out
          have hown2 := own_weaken hown (hO.out.mid H5.out.1).1.size
          have hcirc := hI.out.2.2.1.circ HNOT.out HNX.out HJ.out
          obtain ⟨hkl, hke⟩ := List.getElem?_eq_some_iff.1 hkz
          obtain ⟨hX1, hX2, hX3⟩ := Pe.turned_least hcirc hkl (fun z' hz' => by rw [hke]; exact hlz z' hz')
          obtain ⟨X, hX⟩ : ∃ X, X = ((W ++ [at_]).drop j).drop kk ++ ((W ++ [at_]).drop j).take kk := ⟨_, rfl⟩
          rw [← hX] at hX1 hX2 hX3 hown2
          have hXl : k + 1 - j = X.length := by
            have h9 := HKL.out
            rw [hX]
            simp only [List.length_append, List.length_drop, List.length_take, List.length_cons, List.length_nil] at h9 hkl ⊢
            omega
          have hXa : at_ ∈ X := (hX3 at_).2 (by
            have : ((W ++ [at_]).drop j).getLast? = some at_ := by
              rw [List.getLast?_drop, if_neg (by rw [← HKL.out]; omega)]; simp
            exact List.mem_of_getLast? this)
          have hXw : ∀ z ∈ X, z ∈ W ++ [at_] := fun z hz => List.mem_of_mem_drop ((hX3 z).1 hz)
          have hF2 := hO.out.fnd.closes Pe.ltP_irr Pe.ltP_tr hI.out.2.2.1 HNOT.out HNX.out hX1 hX2 hXa hXw
          obtain ⟨vA, vc, rfl, _, _⟩ := own_shape hown
          have HX := Lib.hid (And.intro hown2 (And.intro hF2 (And.intro hXl hlo)))
          clear hkz hlz hown hb6 hlo hown2 hcirc hkl hke hX1 hX2 hX3 hX hXl hXa hXw hF2 hlk k3 k4
          have hmi : m' ≤ n := by omega
          dsimp only
          go_wp2_with (at_builtin; refine wpList_append_lies _ rfl _ _ 50 rfl w.heap.size 46 j0 _ 1 24 Tryz.underlying50 HJ0.out.1 HJ0.out.2.1 HJ0.out.2.2.1 HJ0.out.2.2.2 (by rfl) (by decide) (.slice A2 m' c2) m' vs rfl (own_below HX.out.2.2.2.2.2.1 ((Below.refl _ W6).alloc (Nat.le_refl _) _)) ⟨W6.heap.size, 0, none⟩ 1 1 [.slice vA (k + 1 - j) vc] rfl rfl (World.news_of_block (cs := #[.slice vA (k + 1 - j) vc]) (t := 46) (fr := (0, 0)) (heap_alloc_new W6 _)) ?o1 (by decide) ?o2 ?o3 ?o4 _ rfl ?_)
          case o1 => simp [Value.oneCell']
          case o2 => simp only [maxLen]; omega
          case o3 => omega
          case o4 => have := HX.out.2.2.2.1.size; (try simp); omega
          intro go co W7 hown7 hgr7 _ hlt7
          have HFIN := Lib.hid (hO.out.nextC H6.out hgr7 hown7 (X := X) (by rw [← HX.out.2.2.1]; rw [← HX.out.2.2.1] at HX; exact HX.out.1) (by rw [List.append_assoc]; exact HX.out.2.1) (by
            rw [List.nodup_append]
            exact ⟨hI.out.2.2.1.nodup, by simp, fun x hx y hy => by rw [List.mem_singleton.1 hy]; rintro rfl; exact HNOT.out hx⟩) HY.out (by
            rcases hI.out.2.2.2.2.2.2 with h1 | h1
            · exact List.mem_append_left _ h1
            · rw [← h1]; simp) (fun z hz => List.mem_append_left _ (List.mem_append_left _ hz)) (fun z hz => by
            rcases List.mem_append.1 hz with hz | hz
            · exact hI.out.2.2.2.2.1 z hz
            · rw [List.mem_singleton.1 hz]; exact hI.out.2.2.2.2.2.1))
          clear hown7 hgr7 hlt7
          go_wp2
          go_roundg g
          case measure => omega
          case rel => exact ⟨i + 1, m' + 1, S ++ W ++ [at_], LL ++ [X], vs ++ [.slice vA (k + 1 - j) vc], some ⟨go, 0, none⟩, co, rfl, by go_num, by omega, by omega, HFIN⟩

end Go.Proofs.YtnphlekailodkaaGreatDoor
