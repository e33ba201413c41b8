/-
  Changes, in plain Lean: what holds of a person on a day; the days on which it changes; between two changes nothing changes. No program in sight. What holds of a person on a day, in memory; two such states compared: at and same of the directory, walked. Changes of the directory, walked. The reference's differs and Changes, walked. Changes returns what the reference returns: the law's walk.
-/
import Derived.Test.YtnphlekailodkaaGreatDoorNp
import Derived.Test.YtnphlekailodkaaGreatDoorSh3
import Derived.Test.YtnphlekailodkaaGreatDoorPz
import Derived.Test.YtnphlekailodkaaGreatDoorDw
import Derived.Test.YtnphlekailodkaaGreatDoorOrd
import Derived.Test.YtnphlekailodkaaGreatDoorLw
namespace Go.Proofs.YtnphlekailodkaaGreatDoor
namespace Pe

/-- What holds of a person on a day. -/
structure St where
  names : List (List UInt8)
  places : List Int
  dead : Bool
  home : Option Int
  heir : Option Int
deriving DecidableEq
def st (l : List Ent) (p d : Int) : St := ⟨names l p d, places l p d, dead l p d, home? l p d, heir? l p d⟩
theorem opt_iff {a b : Option Int} : a = b ↔ a.getD 0 = b.getD 0 ∧ a.isSome = b.isSome := by
  cases a <;> cases b <;> simp
theorem st_iff (l : List Ent) (p d e : Int) : st l p d = st l p e ↔ names l p d = names l p e ∧ places l p d = places l p e ∧ dead l p d = dead l p e ∧ (home? l p d).getD 0 = (home? l p e).getD 0 ∧ (home? l p d).isSome = (home? l p e).isSome ∧ (heir? l p d).getD 0 = (heir? l p e).getD 0 ∧ (heir? l p d).isSome = (heir? l p e).isSome := by
  unfold st
  rw [St.mk.injEq, opt_iff, opt_iff]
  simp only [and_assoc]
/-- The days on which entries begin or end. -/
def ends (l : List Ent) : List Int := l.flatMap fun x => [x.since, x.til]
theorem ends_next {l : List Ent} {i : Nat} {x : Ent} (hx : l[i]? = some x) : ends (l.take (i + 1)) = ends (l.take i) ++ [x.since, x.til] := by
  rw [List.take_add_one, hx]
  simp [ends]
theorem ends_length : ∀ l : List Ent, (ends l).length = 2 * l.length
  | [] => rfl
  | x :: l => by
    have := ends_length l
    simp only [ends, List.flatMap_cons, List.length_append, List.length_cons, List.length_nil] at this ⊢
    omega
def days (l : List Ent) : List Int := uniqI (ends l)
theorem days_length (l : List Ent) : (days l).length ≤ 2 * l.length := by
  unfold days uniqI
  refine Nat.le_trans (uniq_le _) ?_
  rw [List.length_mergeSort, ends_length]
  exact Nat.le_refl _
/-- A day is one on which something changes for a person. -/
def turns (l : List Ent) (p d : Int) : Bool := decide (0 ≤ d) && decide (d ≤ 100000) && !decide (st l p d = st l p (d - 1))
/-- The days on which something changes for a person. -/
def changes (l : List Ent) (p : Int) : List Int := (days l).filter (turns l p)
theorem changes_length (l : List Ent) (p : Int) : (changes l p).length ≤ 2 * l.length := Nat.le_trans (List.length_filter_le _ _) (days_length l)
/-- Numbers put one by one into a sorted list. -/
def insAll (o : List Int) (m : List Int) : List Int := m.foldl (fun o n => ins n o) o
theorem mem_insAll (z : Int) : ∀ (m o : List Int), z ∈ insAll o m ↔ z ∈ m ∨ z ∈ o
  | [], o => by simp [insAll]
  | n :: m, o => by
    have e : insAll o (n :: m) = insAll (ins n o) m := rfl
    rw [e, mem_insAll z m, mem_ins]
    simp only [List.mem_cons]
    constructor
    · rintro (h | h | h) <;> simp [h]
    · rintro ((h | h) | h) <;> simp [h]
theorem insAll_sorted : ∀ (m o : List Int), o.Pairwise (· < ·) → (insAll o m).Pairwise (· < ·)
  | [], _, h => h
  | n :: m, _, h => insAll_sorted m _ (ins_sorted n h)
theorem insAll_days (l : List Ent) : insAll [] (ends l) = days l := by
  unfold days
  exact (uniqI_eq (insAll_sorted _ _ List.Pairwise.nil) (fun z => by rw [mem_insAll]; simp)).symm
theorem insAll_append (o a b : List Int) : insAll o (a ++ b) = insAll (insAll o a) b := by unfold insAll; rw [List.foldl_append]
theorem insAll_length : ∀ (m o : List Int), (insAll o m).length ≤ o.length + m.length
  | [], o => by simp [insAll]
  | n :: m, o => by
    have e : insAll o (n :: m) = insAll (ins n o) m := rfl
    have h1 := insAll_length m (ins n o)
    have h2 := ins_length n o
    rw [e, List.length_cons]
    omega
/-! ### between two changes -/
theorem on_stays {x : Ent} {d : Int} (h1 : x.since ≠ d) (h2 : x.til ≠ d) : x.on d = x.on (d - 1) := by
  unfold Ent.on
  have e1 : decide (x.since ≤ d) = decide (x.since ≤ d - 1) := by
    rw [Bool.eq_iff_iff]; simp only [decide_eq_true_eq]; omega
  have e2 : decide (d < x.til) = decide (d - 1 < x.til) := by
    rw [Bool.eq_iff_iff]; simp only [decide_eq_true_eq]; omega
  rw [e1, e2]
theorem onDay_stays {l : List Ent} {d : Int} (h : d ∉ ends l) (k : Nat) : onDay l k d = onDay l k (d - 1) := by
  unfold onDay
  refine List.filter_congr fun x hx => ?_
  rw [on_stays (x := x) (d := d)]
  · intro e; exact h (List.mem_flatMap.2 ⟨x, hx, by simp [e]⟩)
  · intro e; exact h (List.mem_flatMap.2 ⟨x, hx, by simp [e]⟩)
theorem dead_stays {l : List Ent} {d : Int} (h : d ∉ ends l) (p : Int) : dead l p d = dead l p (d - 1) := by unfold dead; rw [onDay_stays h]
theorem st_stays {l : List Ent} {d : Int} (h : d ∉ ends l) (p : Int) : st l p d = st l p (d - 1) := by
  have hd := fun p => dead_stays h p
  unfold st
  have h1 : names l p d = names l p (d - 1) := by rw [← names_eq, ← names_eq, onDay_stays h]
  have h2 : places l p d = places l p (d - 1) := by
    unfold places pairs dwell
    rw [onDay_stays h]
    have : (fun x : Ent => !dead l x.person d) = fun x => !dead l x.person (d - 1) := by funext x; rw [hd]
    rw [this]
  have h3 : home? l p d = home? l p (d - 1) := by unfold home?; rw [hd, onDay_stays h]
  have h4 : heir? l p d = heir? l p (d - 1) := by unfold heir?; rw [onDay_stays h]
  rw [h1, h2, hd, h3, h4]
theorem stays {l : List Ent} {p d : Int} (h1 : 1 ≤ d) (h2 : d ≤ 100000) (h : d ∉ changes l p) : st l p d = st l p (d - 1) := by
  by_cases he : d ∈ ends l
  · have hm : d ∈ days l := (mem_uniqI _ _).2 he
    have hf : turns l p d ≠ true := fun ht => h (List.mem_filter.2 ⟨hm, ht⟩)
    unfold turns at hf
    rw [decide_eq_true (show 0 ≤ d by omega), decide_eq_true h2] at hf
    simpa using hf
  · exact st_stays he p

end Pe
end Go.Proofs.YtnphlekailodkaaGreatDoor

namespace Go.Proofs.YtnphlekailodkaaGreatDoor
open Go.RowKit Go.Shelf

theorem own_cell1 {W : World} {base g n cap : Nat} {t : TypeId} {xs : List Value} (h : W.ownsRow base t 1 (.slice (some ⟨g, 0, none⟩) n cap) n xs) {j : Nat} {u : Value} (hu : xs[j]? = some u) : W.cell? ⟨g, 0 + j, none⟩ = some u := by
  have := own_range h j [u] (fun q v hv => by
    match q, hv with
    | 0, hv => simp at hv; subst hv; simpa using hu) 0 _ rfl
  rw [Nat.zero_add]
  simpa using this
theorem bs_inj {a b : List UInt8} (h : bs a = bs b) : a = b := by
  unfold bs at h
  injection h with h
  simpa using h
theorem maps_inj {a b : List (List UInt8)} : a.map bs = b.map bs ↔ a = b := by
  constructor
  · intro h
    exact List.map_inj_right (f := bs) (fun x y h => bs_inj h) |>.1 h
  · rintro rfl; rfl
set_option maxRecDepth 1000000 in
set_option maxHeartbeats 4000000 in
theorem EqualI_calls {W : World} {b1 b2 : Nat} {v u : Value} {l r : List (Int)} (h : W.ownsRow b1 3 1 v l.length (nRow l)) (h' : W.ownsRow b2 3 1 u r.length (nRow r)) :
    Calls Tryz.prog 106 #[v, u] W fun e w' => e = .returned (.bool (decide (l = r))) ∧ Below W.heap.size W w' := by
  by_cases hne : l.length = r.length
  case neg =>
    obtain ⟨A, c, rfl, _, _⟩ := own_shape h
    obtain ⟨B, c', rfl, _, _⟩ := own_shape h'
    have hlr : decide (l = r) = false := decide_eq_false (fun e => hne (by rw [e]))
    rw [hlr]
    obtain ⟨n, hn⟩ : ∃ n, n = l.length := ⟨_, rfl⟩
    obtain ⟨m, hm⟩ : ∃ m, m = r.length := ⟨_, rfl⟩
    rw [← hn, ← hm] at hne ⊢
    have hd1 : ((n : Int) != (m : Int)) = true := by simp; omega
    clear hn hm hlr h h'
    go_enter Tryz.func106, Tryz.ntmps106
    go_wp2
    go_ret
    exact ⟨rfl, Below.refl _ _⟩
  by_cases h0 : l.length = 0
  · have hl : l = [] := List.eq_nil_of_length_eq_zero h0
    have hr : r = [] := List.eq_nil_of_length_eq_zero (by omega)
    subst hl; subst hr
    obtain ⟨A, c, rfl, _, _⟩ := own_shape h
    obtain ⟨B, c', rfl, _, _⟩ := own_shape h'
    refine (AnyG.slices_Equal_int_empty laysEqualI A B c 0 c' W (by omega)).mono ?_
    rintro e w' ⟨rfl, rfl⟩
    exact ⟨rfl, Below.refl _ _⟩
  · obtain ⟨g, c, rfl, _, _, _, hc⟩ := own_form h (by omega)
    obtain ⟨g', c', rfl, _, _, _, hc'⟩ := own_form h' (by omega)
    simp only [maxLen] at hc hc'
    have hcon := AnyG.slices_Equal_int laysEqualI g 0 l.length c g' 0 r.length c' l r W (Nat.le_refl _) (Nat.le_refl _) (by omega) (by omega) (fun j hj => own_cell1 h (by simp [nRow, List.getD, hj])) (fun j hj => own_cell1 h' (by simp [nRow, List.getD, hj]))
    rw [List.take_length, List.take_length, show (l == r) = decide (l = r) by rw [Bool.eq_iff_iff]; simp] at hcon
    refine hcon.mono ?_
    rintro e w' ⟨rfl, q, rfl⟩
    exact ⟨rfl, below_drewN _ _⟩
set_option maxRecDepth 1000000 in
set_option maxHeartbeats 4000000 in
theorem EqualS_calls {W : World} {b1 b2 : Nat} {v u : Value} {l r : List (List UInt8)} (h : W.ownsRow b1 9 1 v l.length (sRow l)) (h' : W.ownsRow b2 9 1 u r.length (sRow r)) :
    Calls Tryz.prog 105 #[v, u] W fun e w' => e = .returned (.bool (decide (l = r))) ∧ Below W.heap.size W w' := by
  by_cases hne : l.length = r.length
  case neg =>
    obtain ⟨A, c, rfl, _, _⟩ := own_shape h
    obtain ⟨B, c', rfl, _, _⟩ := own_shape h'
    have hlr : decide (l = r) = false := decide_eq_false (fun e => hne (by rw [e]))
    rw [hlr]
    obtain ⟨n, hn⟩ : ∃ n, n = l.length := ⟨_, rfl⟩
    obtain ⟨m, hm⟩ : ∃ m, m = r.length := ⟨_, rfl⟩
    rw [← hn, ← hm] at hne ⊢
    have hd1 : ((n : Int) != (m : Int)) = true := by simp; omega
    clear hn hm hlr h h'
    go_enter Tryz.func105, Tryz.ntmps105
    go_wp2
    go_ret
    exact ⟨rfl, Below.refl _ _⟩
  by_cases h0 : l.length = 0
  · have hl : l = [] := List.eq_nil_of_length_eq_zero h0
    have hr : r = [] := List.eq_nil_of_length_eq_zero (by omega)
    subst hl; subst hr
    obtain ⟨A, c, rfl, _, _⟩ := own_shape h
    obtain ⟨B, c', rfl, _, _⟩ := own_shape h'
    refine (AnyG.slices_Equal_string_empty laysEqualS A B c 0 c' W (by omega)).mono ?_
    rintro e w' ⟨rfl, rfl⟩
    exact ⟨rfl, Below.refl _ _⟩
  · obtain ⟨g, c, rfl, _, _, _, hc⟩ := own_form h (by omega)
    obtain ⟨g', c', rfl, _, _, _, hc'⟩ := own_form h' (by omega)
    simp only [maxLen] at hc hc'
    have hcon := AnyG.slices_Equal_string laysEqualS g 0 l.length c g' 0 r.length c' (l.map bs) (r.map bs) W (by simp) (by simp) (by omega) (by omega) (fun j hj => own_cell1 h (by simp at hj; simp [sRow, List.getD, hj])) (fun j hj => own_cell1 h' (by simp at hj; simp [sRow, List.getD, hj]))
    rw [List.take_of_length_le (by simp), List.take_of_length_le (by simp), show decide (l.map bs = r.map bs) = decide (l = r) by rw [Bool.eq_iff_iff]; simp only [decide_eq_true_eq]; exact maps_inj] at hcon
    refine hcon.mono ?_
    rintro e w' ⟨rfl, q, rfl⟩
    exact ⟨rfl, below_drewN _ _⟩

/-- The cells of a state. -/
def stCells (vn vp : Value) (S : Pe.St) : Array Value := #[vn, vp, .bool S.dead, .int .i64 (S.home.getD 0), .int .i64 (S.heir.getD 0), .bool S.home.isSome, .bool S.heir.isSome]
theorem infoState : (Tryz.prog.info? 97).map (·.size) = some 7 := by kernel_rfl
/-- A state, in memory. -/
def StateAt (w : World) (base : Nat) (S : Pe.St) (e : Ending) : Prop := ∃ vn vp, e = .returned (.agg (stCells vn vp S)) ∧ w.ownsRow base 9 1 vn S.names.length (sRow S.names) ∧ w.ownsRow base 3 1 vp S.places.length (nRow S.places)
theorem own_setT {W : World} {base : Nat} {e t : TypeId} {size n g i : Nat} {v u : Value} {xs : List Value} {cs : Array Value} (h : W.ownsRow base e size v n xs) (hg : Blk W g t cs) (hne : e ≠ t) : (W.setCell ⟨g, i, none⟩ u).ownsRow base e size v n xs :=
  ((Chg.refl (fun i => i = g) W).setCell (p := ⟨g, i, none⟩) (.inl rfl) u).own h (fun k hk e => own_ne_blk h hg hne k hk e)

/-- The memory of a state under way. -/
structure AtB (w : World) (b nb : Nat) (z cs : Array Value) (vn vp : Value) (S : Pe.St) (W : World) : Prop where
  bel : Below w.heap.size w W
  res : Blk W b 97 z
  box : Blk W nb 97 cs
  ns : W.ownsRow w.heap.size 9 1 vn S.names.length (sRow S.names)
  ps : W.ownsRow w.heap.size 3 1 vp S.places.length (nRow S.places)
section
variable {w W W' : World} {b nb : Nat} {z cs : Array Value} {vn vp : Value} {S : Pe.St}
theorem AtB.below (h : AtB w b nb z cs vn vp S W) (hb : Below W.heap.size W W') : AtB w b nb z cs vn vp S W' :=
  ⟨h.bel.trans (hb.mono h.bel.size), h.res.below hb h.res.lt, h.box.below hb h.box.lt, own_below h.ns hb, own_below h.ps hb⟩
theorem AtB.set (h : AtB w b nb z cs vn vp S W) (hne : b ≠ nb) (hw : w.heap.size ≤ nb) (i : Nat) (u : Value) : AtB w b nb z (cs.setIfInBounds i u) vn vp S (W.setCell ⟨nb, i, none⟩ u) :=
  ⟨h.bel.setCell (by simpa using hw) u, h.res.far (by simpa using hne) u, h.box.put i u, own_setT h.ns h.box (by decide), own_setT h.ps h.box (by decide)⟩
theorem AtB.put (h : AtB w b nb z cs vn vp S W) (hne : nb ≠ b) (hw : w.heap.size ≤ b) (i : Nat) (u : Value) : AtB w b nb (z.setIfInBounds i u) cs vn vp S (W.setCell ⟨b, i, none⟩ u) :=
  ⟨h.bel.setCell (by simpa using hw) u, h.res.put i u, h.box.far (by simpa using hne) u, own_setT h.ns h.res (by decide), own_setT h.ps h.res (by decide)⟩
end

set_option maxRecDepth 1000000 in
set_option maxHeartbeats 8000000 in
theorem at_calls (A : Option Addr) (n c : Nat) (l : List Pe.Ent) (p d : Int) (w : World) (h : EntsAt w A n l) (hn : n ≤ 100000) :
    Calls Tryz.prog 80 #[.slice A n c, .int .i64 p, .int .i64 d] w fun e w' => StateAt w' w.heap.size (Pe.st l p d) e ∧ Below w.heap.size w w' := by
  have h1 := fun w0 (hb : Below w.heap.size w w0) => Names_calls A n c l p d w0 (h.below hb) hn
  have h2 := fun w0 (hb : Below w.heap.size w w0) => Places_calls A n c l p d w0 (h.below hb) hn
  have h3 := fun w0 (hb : Below w.heap.size w w0) => Dead_calls A n c l p d w0 (h.below hb)
  have h4 := fun w0 (hb : Below w.heap.size w w0) => Home_calls A n c l p d w0 (h.below hb)
  have h5 := fun w0 (hb : Below w.heap.size w w0) => Heir_calls A n c l p d w0 (h.below hb)
  obtain ⟨S, hS⟩ : ∃ S, S = Pe.st l p d := ⟨_, rfl⟩
  have e1 : Pe.names l p d = S.names := by rw [hS]; rfl
  have e2 : Pe.places l p d = S.places := by rw [hS]; rfl
  have e3 : Pe.dead l p d = S.dead := by rw [hS]; rfl
  have e4 : Pe.home? l p d = S.home := by rw [hS]; rfl
  have e5 : Pe.heir? l p d = S.heir := by rw [hS]; rfl
  rw [e1] at h1
  rw [e2] at h2
  rw [e3] at h3
  rw [e4] at h4
  rw [e5] at h5
  rw [← hS]
  have HC := Lib.hid (And.intro h1 (And.intro h2 (And.intro h3 (And.intro h4 h5))))
  clear h1 h2 h3 h4 h5 e1 e2 e3 e4 e5 hS h
  obtain ⟨D, hD⟩ : ∃ D, D = S.dead := ⟨_, rfl⟩
  obtain ⟨hm, hhm⟩ : ∃ hm, hm = S.home.getD 0 := ⟨_, rfl⟩
  obtain ⟨hs, hhs⟩ : ∃ hs, hs = S.home.isSome := ⟨_, rfl⟩
  obtain ⟨xm, hxm⟩ : ∃ xm, xm = S.heir.getD 0 := ⟨_, rfl⟩
  obtain ⟨xs, hxs⟩ : ∃ xs, xs = S.heir.isSome := ⟨_, rfl⟩
  rw [← hD, ← hhm, ← hhs, ← hxm, ← hxs] at HC
  have HS := Lib.hid (show ∀ vn vp, stCells vn vp S = #[vn, vp, .bool D, .int .i64 hm, .int .i64 xm, .bool hs, .bool xs] from fun vn vp => by rw [hD, hhm, hhs, hxm, hxs]; rfl)
  clear hD hhm hhs hxm hxs
  go_enter Tryz.func80, Tryz.ntmps80
  go_upto_region 1 with fail
  obtain ⟨b, hb⟩ : ∃ b, b = w.heap.size := ⟨_, rfl⟩
  obtain ⟨w1, hw1⟩ : ∃ w1, w1 = w.alloc (.cells #[.slice none 0 0, .slice none 0 0, .bool false, .int .i64 0, .int .i64 0, .bool false, .bool false] 97) := ⟨_, rfl⟩
  have hb1 : Below w.heap.size w w1 := by rw [hw1]; exact (Below.refl _ w).alloc (Nat.le_refl _) _
  have hc1 : Blk w1 b 97 #[.slice none 0 0, .slice none 0 0, .bool false, .int .i64 0, .int .i64 0, .bool false, .bool false] := by rw [hw1, hb]; exact Blk.fresh _ _ _
  rw [← hb, ← hw1]
  have H1 := Lib.hid (And.intro hb1 (And.intro hc1 hb))
  clear hb1 hc1 hw1 hb
  go_wp2_with fail
  refine (HC.out.1 _ H1.out.1).mono ?_
  rintro e w2 ⟨vn, rfl, hvn, hb2⟩
  obtain ⟨An, cn, rfl, _, _⟩ := own_shape hvn
  have H2 := Lib.hid (And.intro (H1.out.1.trans (hb2.mono H1.out.1.size)) (And.intro (own_weaken hvn H1.out.1.size) (H1.out.2.1.below hb2 H1.out.2.1.lt)))
  clear hvn hb2
  obtain ⟨nn, hnn⟩ : ∃ nn, nn = S.names.length := ⟨_, rfl⟩
  rw [← hnn] at H2 ⊢
  have HN := Lib.hid hnn
  clear hnn
  dsimp only
  go_wp2_with fail
  refine (HC.out.2.1 _ H2.out.1).mono ?_
  rintro e w3 ⟨vp, rfl, hvp, hb3⟩
  obtain ⟨Ap, cp, rfl, _, _⟩ := own_shape hvp
  have H3 := Lib.hid (And.intro (H2.out.1.trans (hb3.mono H2.out.1.size)) (And.intro (own_below H2.out.2.1 hb3) (And.intro (own_weaken hvp H2.out.1.size) (H2.out.2.2.below hb3 H2.out.2.2.lt))))
  clear hvp hb3
  obtain ⟨np, hnp⟩ : ∃ np, np = S.places.length := ⟨_, rfl⟩
  rw [← hnp] at H3 ⊢
  have HP := Lib.hid hnp
  clear hnp
  dsimp only
  go_wp2_with fail
  refine (HC.out.2.2.1 _ H3.out.1).mono ?_
  rintro e w4 ⟨rfl, hb4⟩
  have H4 := Lib.hid (And.intro (H3.out.1.trans (hb4.mono H3.out.1.size)) (And.intro (own_below H3.out.2.1 hb4) (And.intro (own_below H3.out.2.2.1 hb4) (H3.out.2.2.2.below hb4 H3.out.2.2.2.lt))))
  clear hb4
  dsimp only
  go_upto_region 2 with fail
  obtain ⟨nb, hnb⟩ : ∃ g, g = w4.heap.size := ⟨_, rfl⟩
  obtain ⟨w5, hw5⟩ : ∃ w0, w0 = w4.alloc (.cells #[.slice An nn cn, .slice Ap np cp, .bool D, .int .i64 0, .int .i64 0, .bool false, .bool false] 97) := ⟨_, rfl⟩
  have hbl : Below w4.heap.size w4 w5 := by rw [hw5]; exact (Below.refl _ w4).alloc (Nat.le_refl _) _
  have hgb : Blk w5 nb 97 #[.slice An nn cn, .slice Ap np cp, .bool D, .int .i64 0, .int .i64 0, .bool false, .bool false] := by rw [hw5, hnb]; exact Blk.fresh _ _ _
  have hbn : b < nb := by rw [hnb]; exact H4.out.2.2.2.lt
  have hwb : w.heap.size ≤ b := by rw [← H1.out.2.2]; exact Nat.le_refl _
  rw [← hnb, ← hw5]
  have H5 : Hid (AtB w b nb #[.slice none 0 0, .slice none 0 0, .bool false, .int .i64 0, .int .i64 0, .bool false, .bool false] #[.slice An nn cn, .slice Ap np cp, .bool D, .int .i64 0, .int .i64 0, .bool false, .bool false] (.slice An nn cn) (.slice Ap np cp) S w5) := Lib.hid ⟨H4.out.1.trans (hbl.mono H4.out.1.size), H4.out.2.2.2.below hbl H4.out.2.2.2.lt, hgb, by rw [← HN.out]; exact own_below H4.out.2.1 hbl, by rw [← HP.out]; exact own_below H4.out.2.2.1 hbl⟩
  clear hbl hgb hw5 hnb
  go_wp2_with fail
  refine (HC.out.2.2.2.1 _ H5.out.bel).mono ?_
  rintro e w6 ⟨rfl, hb6⟩
  have H6 := Lib.hid (H5.out.below hb6)
  clear hb6
  dsimp only
  have x3 : w6.cell? ⟨nb, 3, none⟩ = some (.int .i64 0) := H6.out.box.cell 3
  have x5 : w6.cell? ⟨nb, 5, none⟩ = some (.bool false) := H6.out.box.cell 5
  have f3 := H6.out.box.frozen 3
  have f5 := H6.out.box.frozen 5
  have ln : nb < w6.heap.size := H6.out.box.lt
  go_upto_region 3 with fail
  obtain ⟨w7, hw7⟩ : ∃ w7, w7 = (w6.setCell ⟨nb, 3, none⟩ (.int .i64 hm)).setCell ⟨nb, 5, none⟩ (.bool hs) := ⟨_, rfl⟩
  have h7 := (H6.out.set (by omega) (by omega) 3 (.int .i64 hm)).set (by omega) (by omega) 5 (.bool hs)
  rw [← hw7] at h7 ⊢
  have H7 : Hid (AtB w b nb #[.slice none 0 0, .slice none 0 0, .bool false, .int .i64 0, .int .i64 0, .bool false, .bool false] #[.slice An nn cn, .slice Ap np cp, .bool D, .int .i64 hm, .int .i64 0, .bool hs, .bool false] (.slice An nn cn) (.slice Ap np cp) S w7) := Lib.hid h7
  clear h7 hw7 x3 x5 f3 f5 ln
  go_wp2_with fail
  refine (HC.out.2.2.2.2 _ H7.out.bel).mono ?_
  rintro e w8 ⟨rfl, hb8⟩
  have H8 := Lib.hid (H7.out.below hb8)
  clear hb8
  dsimp only
  have x4 : w8.cell? ⟨nb, 4, none⟩ = some (.int .i64 0) := H8.out.box.cell 4
  have x6 : w8.cell? ⟨nb, 6, none⟩ = some (.bool false) := H8.out.box.cell 6
  have f4 := H8.out.box.frozen 4
  have f6 := H8.out.box.frozen 6
  have ln : nb < w8.heap.size := H8.out.box.lt
  go_upto_region 4 with fail
  obtain ⟨w9, hw9⟩ : ∃ w9, w9 = (w8.setCell ⟨nb, 4, none⟩ (.int .i64 xm)).setCell ⟨nb, 6, none⟩ (.bool xs) := ⟨_, rfl⟩
  have h9 := (H8.out.set (by omega) (by omega) 4 (.int .i64 xm)).set (by omega) (by omega) 6 (.bool xs)
  rw [← hw9] at h9 ⊢
  have H9 : Hid (AtB w b nb #[.slice none 0 0, .slice none 0 0, .bool false, .int .i64 0, .int .i64 0, .bool false, .bool false] #[.slice An nn cn, .slice Ap np cp, .bool D, .int .i64 hm, .int .i64 xm, .bool hs, .bool xs] (.slice An nn cn) (.slice Ap np cp) S w9) := Lib.hid h9
  clear h9 hw9 x4 x6 f4 f6 ln
  have y0 : w9.cell? ⟨nb, 0, none⟩ = some (.slice An nn cn) := H9.out.box.cell 0
  have y1 : w9.cell? ⟨nb, 1, none⟩ = some (.slice Ap np cp) := H9.out.box.cell 1
  have y2 : w9.cell? ⟨nb, 2, none⟩ = some (.bool D) := H9.out.box.cell 2
  have y3 : w9.cell? ⟨nb, 3, none⟩ = some (.int .i64 hm) := H9.out.box.cell 3
  have y4 : w9.cell? ⟨nb, 4, none⟩ = some (.int .i64 xm) := H9.out.box.cell 4
  have y5 : w9.cell? ⟨nb, 5, none⟩ = some (.bool hs) := H9.out.box.cell 5
  have y6 : w9.cell? ⟨nb, 6, none⟩ = some (.bool xs) := H9.out.box.cell 6
  have z0 : w9.cell? ⟨b, 0, none⟩ = some (.slice none 0 0) := H9.out.res.cell 0
  have z1 : w9.cell? ⟨b, 1, none⟩ = some (.slice none 0 0) := H9.out.res.cell 1
  have z2 : w9.cell? ⟨b, 2, none⟩ = some (.bool false) := H9.out.res.cell 2
  have z3 : w9.cell? ⟨b, 3, none⟩ = some (.int .i64 0) := H9.out.res.cell 3
  have z4 : w9.cell? ⟨b, 4, none⟩ = some (.int .i64 0) := H9.out.res.cell 4
  have z5 : w9.cell? ⟨b, 5, none⟩ = some (.bool false) := H9.out.res.cell 5
  have z6 : w9.cell? ⟨b, 6, none⟩ = some (.bool false) := H9.out.res.cell 6
  have g0 := H9.out.res.frozen 0
  have g1 := H9.out.res.frozen 1
  have g2 := H9.out.res.frozen 2
  have g3 := H9.out.res.frozen 3
  have g4 := H9.out.res.frozen 4
  have g5 := H9.out.res.frozen 5
  have g6 := H9.out.res.frozen 6
  have lb : b < w9.heap.size := H9.out.res.lt
  go_wp2
  (try simp only [Exit.jump])
  have h10 := ((((((H9.out.put (by omega) hwb 0 (.slice An nn cn)).put (by omega) hwb 1 (.slice Ap np cp)).put (by omega) hwb 2 (.bool D)).put (by omega) hwb 3 (.int .i64 hm)).put (by omega) hwb 4 (.int .i64 xm)).put (by omega) hwb 5 (.bool hs)).put (by omega) hwb 6 (.bool xs)
  refine bodyPost_ret (results_row1 (P := Tryz.prog) (fn := Tryz.f80) rfl _ _ b #[.slice An nn cn, .slice Ap np cp, .bool D, .int .i64 hm, .int .i64 xm, .bool hs, .bool xs] _ rfl h10.res Tryz.underlying97 rfl infoState) rfl ⟨⟨_, _, ?_, h10.ns, h10.ps⟩, h10.bel⟩
  rw [HS.out]

theorem Pe.st_same (S T : Pe.St) : decide (S = T) = (decide (S.names = T.names) && (decide (S.places = T.places) && ((S.dead == T.dead) && ((S.home.getD 0 == T.home.getD 0) && ((S.home.isSome == T.home.isSome) && ((S.heir.getD 0 == T.heir.getD 0) && (S.heir.isSome == T.heir.isSome))))))) := by
  obtain ⟨n1, p1, d1, h1, x1⟩ := S
  obtain ⟨n2, p2, d2, h2, x2⟩ := T
  rw [Bool.eq_iff_iff]
  simp only [decide_eq_true_eq, Bool.and_eq_true, beq_iff_eq, Pe.St.mk.injEq, Pe.opt_iff]
  simp only [and_assoc]

set_option maxRecDepth 1000000 in
set_option maxHeartbeats 8000000 in
theorem same_calls (vn vp un up : Value) (S T : Pe.St) (b1 b2 b3 b4 : Nat) (w : World) (h1 : w.ownsRow b1 9 1 vn S.names.length (sRow S.names)) (h2 : w.ownsRow b2 3 1 vp S.places.length (nRow S.places)) (h3 : w.ownsRow b3 9 1 un T.names.length (sRow T.names)) (h4 : w.ownsRow b4 3 1 up T.places.length (nRow T.places)) :
    Calls Tryz.prog 81 #[.agg (stCells vn vp S), .agg (stCells un up T)] w fun e w' => e = .returned (.bool (decide (S = T))) ∧ Below w.heap.size w w' := by
  obtain ⟨V, hV⟩ : ∃ V, V = decide (S = T) := ⟨_, rfl⟩
  rw [← hV]
  rw [Pe.st_same] at hV
  have hs := fun w0 (hb : Below w.heap.size w w0) => EqualS_calls (own_below h1 hb) (own_below h3 hb)
  have hi := fun w0 (hb : Below w.heap.size w w0) => EqualI_calls (own_below h2 hb) (own_below h4 hb)
  obtain ⟨A1, c1, rfl, _, _⟩ := own_shape h1
  obtain ⟨A2, c2, rfl, _, _⟩ := own_shape h2
  obtain ⟨A3, c3, rfl, _, _⟩ := own_shape h3
  obtain ⟨A4, c4, rfl, _, _⟩ := own_shape h4
  obtain ⟨NB, hNB⟩ : ∃ NB, NB = decide (S.names = T.names) := ⟨_, rfl⟩
  obtain ⟨PB, hPB⟩ : ∃ PB, PB = decide (S.places = T.places) := ⟨_, rfl⟩
  rw [← hNB] at hV hs
  rw [← hPB] at hV hi
  obtain ⟨D, hD⟩ : ∃ D, D = S.dead := ⟨_, rfl⟩
  obtain ⟨hm, hhm⟩ : ∃ hm, hm = S.home.getD 0 := ⟨_, rfl⟩
  obtain ⟨hz, hhz⟩ : ∃ hs, hs = S.home.isSome := ⟨_, rfl⟩
  obtain ⟨xm, hxm⟩ : ∃ xm, xm = S.heir.getD 0 := ⟨_, rfl⟩
  obtain ⟨xz, hxz⟩ : ∃ xs, xs = S.heir.isSome := ⟨_, rfl⟩
  obtain ⟨D', hD'⟩ : ∃ D, D = T.dead := ⟨_, rfl⟩
  obtain ⟨hm', hhm'⟩ : ∃ hm, hm = T.home.getD 0 := ⟨_, rfl⟩
  obtain ⟨hz', hhz'⟩ : ∃ hs, hs = T.home.isSome := ⟨_, rfl⟩
  obtain ⟨xm', hxm'⟩ : ∃ xm, xm = T.heir.getD 0 := ⟨_, rfl⟩
  obtain ⟨xz', hxz'⟩ : ∃ xs, xs = T.heir.isSome := ⟨_, rfl⟩
  obtain ⟨n1, hn1⟩ : ∃ n, n = S.names.length := ⟨_, rfl⟩
  obtain ⟨n2, hn2⟩ : ∃ n, n = S.places.length := ⟨_, rfl⟩
  obtain ⟨n3, hn3⟩ : ∃ n, n = T.names.length := ⟨_, rfl⟩
  obtain ⟨n4, hn4⟩ : ∃ n, n = T.places.length := ⟨_, rfl⟩
  unfold stCells
  rw [← hD, ← hhm, ← hhz, ← hxm, ← hxz, ← hD', ← hhm', ← hhz', ← hxm', ← hxz', ← hn1, ← hn2, ← hn3, ← hn4]
  rw [← hD, ← hhm, ← hhz, ← hxm, ← hxz, ← hD', ← hhm', ← hhz', ← hxm', ← hxz'] at hV
  rw [← hn1, ← hn3] at hs
  rw [← hn2, ← hn4] at hi
  obtain ⟨B1, hB1⟩ : ∃ B, B = (D == D') := ⟨_, rfl⟩
  obtain ⟨B2, hB2⟩ : ∃ B, B = (hm == hm') := ⟨_, rfl⟩
  obtain ⟨B3, hB3⟩ : ∃ B, B = (hz == hz') := ⟨_, rfl⟩
  obtain ⟨B4, hB4⟩ : ∃ B, B = (xm == xm') := ⟨_, rfl⟩
  obtain ⟨B5, hB5⟩ : ∃ B, B = (xz == xz') := ⟨_, rfl⟩
  rw [← hB1, ← hB2, ← hB3, ← hB4, ← hB5] at hV
  have HV := Lib.hid hV
  have HC := Lib.hid (And.intro hs hi)
  have q1 := hB1.symm
  have q2 := hB2.symm
  have q3 := hB3.symm
  have q4 := hB4.symm
  have q5 := hB5.symm
  clear hV hs hi hNB hPB hD hhm hhz hxm hxz hD' hhm' hhz' hxm' hxz' hn1 hn2 hn3 hn4 h1 h2 h3 h4 hB1 hB2 hB3 hB4 hB5
  go_enter Tryz.func81, Tryz.ntmps81
  go_upto_region 1 with fail
  obtain ⟨b, hb⟩ : ∃ b, b = w.heap.size := ⟨_, rfl⟩
  obtain ⟨w1, hw1⟩ : ∃ w1, w1 = (w.alloc (.cells #[.slice A1 n1 c1, .slice A2 n2 c2, .bool D, .int .i64 hm, .int .i64 xm, .bool hz, .bool xz] 97)).alloc (.cells #[.slice A3 n3 c3, .slice A4 n4 c4, .bool D', .int .i64 hm', .int .i64 xm', .bool hz', .bool xz'] 97) := ⟨_, rfl⟩
  have hb1 : Below w.heap.size w w1 := by rw [hw1]; exact ((Below.refl _ w).alloc (Nat.le_refl _) _).alloc (by simp) _
  have hc1 : Blk w1 b 97 #[.slice A1 n1 c1, .slice A2 n2 c2, .bool D, .int .i64 hm, .int .i64 xm, .bool hz, .bool xz] := by rw [hw1, hb]; exact (Blk.fresh w _ _).alloc _
  have hr1 : Blk w1 (b + 1) 97 #[.slice A3 n3 c3, .slice A4 n4 c4, .bool D', .int .i64 hm', .int .i64 xm', .bool hz', .bool xz'] := by
    rw [hw1, hb]
    have := Blk.fresh (w.alloc (.cells #[.slice A1 n1 c1, .slice A2 n2 c2, .bool D, .int .i64 hm, .int .i64 xm, .bool hz, .bool xz] 97)) 97 #[.slice A3 n3 c3, .slice A4 n4 c4, .bool D', .int .i64 hm', .int .i64 xm', .bool hz', .bool xz']
    simpa using this
  rw [← hb, ← hw1]
  have H1 := Lib.hid (And.intro hb1 (And.intro hc1 hr1))
  clear hb1 hc1 hr1 hw1 hb
  have y0 : w1.cell? ⟨b, 0, none⟩ = some (.slice A1 n1 c1) := H1.out.2.1.cell 0
  have z0 : w1.cell? ⟨b + 1, 0, none⟩ = some (.slice A3 n3 c3) := H1.out.2.2.cell 0
  go_wp2_with fail
  refine (HC.out.1 _ H1.out.1).mono ?_
  rintro e w2 ⟨rfl, hb2⟩
  have H2 := Lib.hid (And.intro (H1.out.1.trans (hb2.mono H1.out.1.size)) (And.intro (H1.out.2.1.below hb2 H1.out.2.1.lt) (H1.out.2.2.below hb2 H1.out.2.2.lt)))
  clear hb2 y0 z0
  dsimp only
  cases NB
  case false =>
    go_wp2
    go_ret
    exact ⟨by rw [HV.out]; rfl, H2.out.1⟩
  have y1 : w2.cell? ⟨b, 1, none⟩ = some (.slice A2 n2 c2) := H2.out.2.1.cell 1
  have z1 : w2.cell? ⟨b + 1, 1, none⟩ = some (.slice A4 n4 c4) := H2.out.2.2.cell 1
  go_wp2_with fail
  refine (HC.out.2 _ H2.out.1).mono ?_
  rintro e w3 ⟨rfl, hb3⟩
  have H3 := Lib.hid (And.intro (H2.out.1.trans (hb3.mono H2.out.1.size)) (And.intro (H2.out.2.1.below hb3 H2.out.2.1.lt) (H2.out.2.2.below hb3 H2.out.2.2.lt)))
  clear hb3 y1 z1
  dsimp only
  cases PB
  case false =>
    go_wp2
    go_ret
    exact ⟨by rw [HV.out]; rfl, H3.out.1⟩
  have y2 : w3.cell? ⟨b, 2, none⟩ = some (.bool D) := H3.out.2.1.cell 2
  have y3 : w3.cell? ⟨b, 3, none⟩ = some (.int .i64 hm) := H3.out.2.1.cell 3
  have y4 : w3.cell? ⟨b, 4, none⟩ = some (.int .i64 xm) := H3.out.2.1.cell 4
  have y5 : w3.cell? ⟨b, 5, none⟩ = some (.bool hz) := H3.out.2.1.cell 5
  have y6 : w3.cell? ⟨b, 6, none⟩ = some (.bool xz) := H3.out.2.1.cell 6
  have z2 : w3.cell? ⟨b + 1, 2, none⟩ = some (.bool D') := H3.out.2.2.cell 2
  have z3 : w3.cell? ⟨b + 1, 3, none⟩ = some (.int .i64 hm') := H3.out.2.2.cell 3
  have z4 : w3.cell? ⟨b + 1, 4, none⟩ = some (.int .i64 xm') := H3.out.2.2.cell 4
  have z5 : w3.cell? ⟨b + 1, 5, none⟩ = some (.bool hz') := H3.out.2.2.cell 5
  have z6 : w3.cell? ⟨b + 1, 6, none⟩ = some (.bool xz') := H3.out.2.2.cell 6
  cases B1
  case false =>
    go_wp2
    go_ret
    exact ⟨by rw [HV.out]; rfl, H3.out.1⟩
  cases B2
  case false =>
    go_wp2
    go_ret
    exact ⟨by rw [HV.out]; rfl, H3.out.1⟩
  cases B3
  case false =>
    go_wp2
    go_ret
    exact ⟨by rw [HV.out]; rfl, H3.out.1⟩
  cases B4
  case false =>
    go_wp2
    go_ret
    exact ⟨by rw [HV.out]; rfl, H3.out.1⟩
  cases B5
  case false =>
    go_wp2
    go_ret
    exact ⟨by rw [HV.out]; rfl, H3.out.1⟩
  go_wp2
  go_ret
  exact ⟨by rw [HV.out]; rfl, H3.out.1⟩

end Go.Proofs.YtnphlekailodkaaGreatDoor

namespace Go.Proofs.YtnphlekailodkaaGreatDoor
open Go.RowKit

set_option maxRecDepth 1000000 in
set_option maxHeartbeats 8000000 in
theorem Changes_calls (A : Option Addr) (n c : Nat) (l : List Pe.Ent) (p : Int) (w : World) (h : EntsAt w A n l) (hn : n ≤ 50000) :
    Calls Tryz.prog 50 #[.slice A n c, .int .i64 p] w fun e w' => ∃ v, e = .returned v ∧ w'.ownsRow w.heap.size 3 1 v (Pe.changes l p).length (nRow (Pe.changes l p)) ∧ Below w.heap.size w w' := by
  obtain ⟨i0, hi0, hz0, hz1, hz2⟩ := info_parts infoIntR
  have HI0 := Lib.hid (And.intro hi0 (And.intro hz0 (And.intro hz1 hz2)))
  have H := Lib.hid h
  have hmost := h.most
  have hat := fun w0 (hb : Below w.heap.size w w0) d => at_calls A n c l p d w0 (h.below hb) (by omega)
  have HAT := Lib.hid hat
  clear h hi0 hz0 hz1 hz2 hat
  go_enter Tryz.func50, Tryz.ntmps50
  go_wp2_with fail
  go_loopg [5, 13] n (fun q s5 s13 wr => ∃ (i n' : Nat) (o : List Int) (A' : Option Addr) (c' : Nat), s5 = .slice A' n' c' ∧ s13 = .int .i64 (i : Int) ∧ i + q = n ∧ n' ≤ 2 * i ∧ Hid (Below w.heap.size w wr ∧ wr.ownsRow w.heap.size 3 1 (.slice A' n' c') n' (nRow o) ∧ n' = o.length ∧ o = Pe.ends (l.take i)))
  case atStart => exact ⟨0, 0, [], none, 0, rfl, by go_num, by omega, by omega, Lib.hid ⟨Below.refl _ _, World.ownsRow_nil _ _ _ _, rfl, rfl⟩⟩
  case round =>
    obtain ⟨i, n', o, A', c', rfl, rfl, hi, hn', hR⟩ := hrel
    by_cases hgo : i < n
    case pos =>
      have hd1 : decide ((i : Int) < (n : Int)) = true := by simp; omega
      obtain ⟨x, ad, hx, rfl, hok, hcw⟩ := (H.out.below hR.out.1).one hgo
      have g0 : wr.cell? (ad.add (i * 10)) = some (.int .i64 x.day) := hcw 0 _ rfl
      have g1 : wr.cell? ⟨(ad.add (i * 10)).block, (ad.add (i * 10)).off + 1, none⟩ = some (.int .u8 (x.kind : Int)) := hcw 1 _ rfl
      have g2 : wr.cell? ⟨(ad.add (i * 10)).block, (ad.add (i * 10)).off + 2, none⟩ = some (.int .i64 x.since) := hcw 2 _ rfl
      have g3 : wr.cell? ⟨(ad.add (i * 10)).block, (ad.add (i * 10)).off + 3, none⟩ = some (.int .i64 x.til) := hcw 3 _ rfl
      have g4 : wr.cell? ⟨(ad.add (i * 10)).block, (ad.add (i * 10)).off + 4, none⟩ = some (.int .i64 x.person) := hcw 4 _ rfl
      have g5 : wr.cell? ⟨(ad.add (i * 10)).block, (ad.add (i * 10)).off + 5, none⟩ = some (.int .i64 x.place) := hcw 5 _ rfl
      have g6 : wr.cell? ⟨(ad.add (i * 10)).block, (ad.add (i * 10)).off + 6, none⟩ = some (.int .i64 x.other) := hcw 6 _ rfl
      have g7 : wr.cell? ⟨(ad.add (i * 10)).block, (ad.add (i * 10)).off + 7, none⟩ = some (.int .i64 x.at_) := hcw 7 _ rfl
      have g8 : wr.cell? ⟨(ad.add (i * 10)).block, (ad.add (i * 10)).off + 8, none⟩ = some (.int .i64 x.order) := hcw 8 _ rfl
      have g9 : wr.cell? ⟨(ad.add (i * 10)).block, (ad.add (i * 10)).off + 9, none⟩ = some (.string (bs x.name)) := hcw 9 _ rfl
      have HX := Lib.hid hx
      clear hx hcw hok
      go_upto_region 5 with fail
      obtain ⟨xb, hxb⟩ : ∃ g, g = wr.heap.size := ⟨_, rfl⟩
      obtain ⟨w1, hw1⟩ : ∃ w0, w0 = wr.alloc (.cells (eCells x) 31) := ⟨_, rfl⟩
      have hbl : Below wr.heap.size wr w1 := by rw [hw1]; exact (Below.refl _ wr).alloc (Nat.le_refl _) _
      have hgb : Blk w1 xb 31 (eCells x) := by rw [hw1, hxb]; exact Blk.fresh _ _ _
      unfold eCells at hw1
      rw [← hxb, ← hw1]
      clear g0 g1 g2 g3 g4 g5 g6 g7 g8 g9
      have H1 := Lib.hid (And.intro (hR.out.1.trans (hbl.mono hR.out.1.size)) (own_below hR.out.2.1 hbl))
      have x2 : w1.cell? ⟨xb, 2, none⟩ = some (.int .i64 x.since) := hgb.cell 2
      have x3 : w1.cell? ⟨xb, 3, none⟩ = some (.int .i64 x.til) := hgb.cell 3
      clear hbl hxb hw1 hgb
      go_wp2_with (at_builtin; refine wpList_append_lies _ rfl _ _ 42 rfl w.heap.size 3 i0 _ 1 8 Tryz.underlying42 HI0.out.1 HI0.out.2.1 HI0.out.2.2.1 HI0.out.2.2.2 (by rfl) (by decide) (.slice A' n' c') n' (nRow o) rfl (own_below H1.out.2 ((Below.refl _ w1).alloc (Nat.le_refl _) _)) ⟨w1.heap.size, 0, none⟩ 2 2 [.int .i64 x.since, .int .i64 x.til] rfl rfl (World.news_of_block (cs := #[.int .i64 x.since, .int .i64 x.til]) (t := 3) (fr := (0, 0)) (heap_alloc_new w1 _)) ?o1 (by decide) ?o2 ?o3 ?o4 _ rfl ?_)
      case o1 => simp [Value.oneCell']
      case o2 => simp only [maxLen]; omega
      case o3 => omega
      case o4 => have := H1.out.1.size; (try simp); omega
      intro gn cn W2 hown hgr _ hlt
      have HA := Lib.hid (And.intro ((H1.out.1.alloc H1.out.1.size _).grown hgr (H1.out.1.alloc H1.out.1.size _).size (fun z hz => (H1.out.2.lt z hz).1)) (show W2.ownsRow w.heap.size 3 1 (.slice (some ⟨gn, 0, none⟩) (n' + 2) cn) (n' + 2) (nRow (o ++ [x.since, x.til])) by rw [show nRow (o ++ [x.since, x.til]) = nRow o ++ [.int .i64 x.since, .int .i64 x.til] by simp [nRow]]; exact hown))
      clear hown hgr hlt x2 x3
      go_wp2
      go_roundg (gk - 1)
      case measure => omega
      case rel => exact ⟨i + 1, n' + 2, o ++ [x.since, x.til], some ⟨gn, 0, none⟩, cn, rfl, by go_num, by omega, by omega, Lib.hid ⟨HA.out.1, HA.out.2, by simp; exact hR.out.2.2.1, by rw [Pe.ends_next HX.out, ← hR.out.2.2.2]⟩⟩
    have hd1 : decide ((i : Int) < (n : Int)) = false := by simp; omega
    have hsc := sortedI_calls (W := wr) (base := w.heap.size) (v := .slice A' n' c') (l := o) (by rw [← hR.out.2.2.1]; exact hR.out.2.1) (by have := hR.out.2.2.1; omega)
    have ho : o = Pe.ends l := by
      have h1 := hR.out.2.2.2
      rwa [List.take_of_length_le (by have := H.out.len; omega)] at h1
    rw [ho] at hsc
    obtain ⟨F, hF⟩ : ∃ F, F = Pe.days l := ⟨_, rfl⟩
    have hFl : F.length ≤ 100000 := by have h1 := Pe.days_length l; have h2 := H.out.len; rw [hF]; omega
    rw [show Pe.uniqI (Pe.ends l) = F from hF.symm] at hsc
    have HSC := Lib.hid hsc
    have HF := Lib.hid hF
    clear hsc ho hF
    go_wp2_with fail
    refine HSC.out.mono ?_
    rintro e w3 ⟨v, rfl, hs3, hc3⟩
    obtain ⟨nf, hnf⟩ : ∃ nf, nf = F.length := ⟨_, rfl⟩
    rw [← hnf] at hs3 hFl
    obtain ⟨Af, cf, rfl, hNF⟩ := own_nums hs3 hnf
    have hbk : ∀ ad, Af = some ad → ad.block < w3.heap.size := fun ad e => by subst e; exact (hs3.lt ad.block rfl).2
    have H3 := Lib.hid (And.intro (hR.out.1.trans (hc3.below (B := w.heap.size) (fun z hz => (hR.out.2.1.lt z hz).1) hR.out.1.size)) (And.intro hNF (And.intro hbk hnf)))
    clear hs3 hc3 hNF hbk hnf
    dsimp only
    go_wp2_with fail
    go_loopg [8, 28] nf (fun q s8 s28 wr2 => ∃ (i n' : Nat) (o : List Int) (A' : Option Addr) (c' : Nat), s8 = .slice A' n' c' ∧ s28 = .int .i64 (i : Int) ∧ i + q = nf ∧ n' ≤ i ∧ Hid (Below w.heap.size w wr2 ∧ NumsAt wr2 Af nf F ∧ wr2.ownsRow w3.heap.size 3 1 (.slice A' n' c') n' (nRow o) ∧ n' = o.length ∧ o = (F.take i).filter (Pe.turns l p) ∧ w3.heap.size ≤ wr2.heap.size))
    case atStart => exact ⟨0, 0, [], none, 0, rfl, by go_num, by omega, by omega, Lib.hid ⟨H3.out.1, H3.out.2.1, World.ownsRow_nil _ _ _ _, rfl, rfl, Nat.le_refl _⟩⟩
    case round =>
      clear hi hgo hd1 hn' hR
      obtain ⟨i, n', o, A', c', rfl, rfl, hi, hn', hR⟩ := hrel
      by_cases hgo : i < nf
      case neg =>
        have hd1 : decide ((i : Int) < (nf : Int)) = false := by simp; omega
        go_wp2
        go_ret
        have h1 := hR.out.2.2.2.2.1
        rw [List.take_of_length_le (by have := H3.out.2.2.2; omega), HF.out] at h1
        refine ⟨_, rfl, ?_, hR.out.1⟩
        show World.ownsRow _ _ _ _ _ ((Pe.days l).filter (Pe.turns l p)).length (nRow ((Pe.days l).filter (Pe.turns l p)))
        rw [← h1, ← hR.out.2.2.2.1]
        exact own_weaken hR.out.2.2.1 H3.out.1.size
      have hd1 : decide ((i : Int) < (nf : Int)) = true := by simp; omega
      obtain ⟨y, ad, hy, rfl, hcy⟩ := hR.out.2.1.one hgo
      have hnx : (F.take (i + 1)).filter (Pe.turns l p) = o ++ (if Pe.turns l p y = true then [y] else []) := by
        rw [List.take_add_one, hy, List.filter_append, ← hR.out.2.2.2.2.1]
        congr 1
        cases ht : Pe.turns l p y <;> simp [ht]
      have HNX := Lib.hid hnx
      clear hy hnx
      by_cases hy0 : 0 ≤ y
      case neg =>
        have q0 : decide (0 ≤ y) = false := by simpa using hy0
        have q00 : decide (y ≥ 0) = false := q0
        have HT := Lib.hid (show Pe.turns l p y = false by unfold Pe.turns; rw [q0]; rfl)
        clear hy0
        go_wp2
        go_roundg (gk - 1)
        case measure => omega
        case rel => exact ⟨i + 1, n', o, A', c', rfl, by go_num, by omega, by omega, Lib.hid ⟨hR.out.1, hR.out.2.1, hR.out.2.2.1, hR.out.2.2.2.1, by rw [HNX.out, HT.out]; simp, hR.out.2.2.2.2.2⟩⟩
      have q0 : decide (0 ≤ y) = true := by simpa using hy0
      have q00 : decide (y ≥ 0) = true := q0
      by_cases hy1 : y ≤ 100000
      case neg =>
        have q1 : decide (y ≤ 100000) = false := by simpa using hy1
        have HT := Lib.hid (show Pe.turns l p y = false by unfold Pe.turns; rw [q1]; simp)
        clear hy0 hy1
        go_wp2
        go_roundg (gk - 1)
        case measure => omega
        case rel => exact ⟨i + 1, n', o, A', c', rfl, by go_num, by omega, by omega, Lib.hid ⟨hR.out.1, hR.out.2.1, hR.out.2.2.1, hR.out.2.2.2.1, by rw [HNX.out, HT.out]; simp, hR.out.2.2.2.2.2⟩⟩
      have q1 : decide (y ≤ 100000) = true := by simpa using hy1
      have hwr : IntKind.i64.wrap (y - 1) = y - 1 := by simp [IntKind.wrap, IntKind.bits, IntKind.signed]; omega
      have HT0 := Lib.hid (show Pe.turns l p y = !decide (Pe.st l p y = Pe.st l p (y - 1)) by unfold Pe.turns; rw [q0, q1]; rfl)
      clear hy0 hy1
      go_wp2_with fail
      refine (HAT.out _ hR.out.1 y).mono ?_
      rintro e w4 ⟨⟨vn, vp, rfl, hvn, hvp⟩, hb4⟩
      have H4 := Lib.hid (And.intro (hR.out.1.trans (hb4.mono hR.out.1.size)) (And.intro hvn (And.intro hvp hb4)))
      clear hvn hvp hb4
      obtain ⟨S1, hS1⟩ : ∃ S, S = Pe.st l p y := ⟨_, rfl⟩
      rw [← hS1] at HT0 H4 ⊢
      clear hS1
      dsimp only
      go_wp2_with fail
      refine (HAT.out _ H4.out.1 (y - 1)).mono ?_
      rintro e w5 ⟨⟨un, up, rfl, hun, hup⟩, hb5⟩
      obtain ⟨S2, hS2⟩ : ∃ S, S = Pe.st l p (y - 1) := ⟨_, rfl⟩
      rw [← hS2] at HT0 hun hup ⊢
      clear hS2
      have hbb := H4.out.2.2.2.trans (hb5.mono H4.out.2.2.2.size)
      have H5 := Lib.hid (And.intro (H4.out.1.trans (hb5.mono H4.out.1.size)) (And.intro (same_calls vn vp un up S1 S2 _ _ _ _ w5 (own_below H4.out.2.1 hb5) (own_below H4.out.2.2.1 hb5) hun hup) hbb))
      clear hun hup hb5 hbb
      dsimp only
      go_wp2_with fail
      refine H5.out.2.1.mono ?_
      rintro e w6 ⟨rfl, hb6⟩
      have hbb := H5.out.2.2.trans (hb6.mono H5.out.2.2.size)
      have H6 := Lib.hid (And.intro (H5.out.1.trans (hb6.mono H5.out.1.size)) (And.intro (hR.out.2.1.below hbb) (And.intro (own_below hR.out.2.2.1 hbb) (Nat.le_trans hR.out.2.2.2.2.2 hbb.size))))
      clear hb6 hbb
      obtain ⟨V, hV⟩ : ∃ V, V = decide (S1 = S2) := ⟨_, rfl⟩
      rw [← hV] at HT0 ⊢
      clear hV hcy
      dsimp only
      cases V
      case true =>
        have HT := Lib.hid (show Pe.turns l p y = false from HT0.out)
        go_wp2
        go_roundg (gk - 1)
        case measure => omega
        case rel => exact ⟨i + 1, n', o, A', c', rfl, by go_num, by omega, by omega, Lib.hid ⟨H6.out.1, H6.out.2.1, H6.out.2.2.1, hR.out.2.2.2.1, by rw [HNX.out, HT.out]; simp, H6.out.2.2.2⟩⟩
      have HT := Lib.hid (show Pe.turns l p y = true from HT0.out)
      go_wp2_with (at_builtin; refine wpList_append_lies _ rfl _ _ 42 rfl w3.heap.size 3 i0 _ 1 8 Tryz.underlying42 HI0.out.1 HI0.out.2.1 HI0.out.2.2.1 HI0.out.2.2.2 (by rfl) (by decide) (.slice A' n' c') n' (nRow o) rfl (own_below H6.out.2.2.1 ((Below.refl _ w6).alloc (Nat.le_refl _) _)) ⟨w6.heap.size, 0, none⟩ 1 1 [.int .i64 y] rfl rfl (World.news_of_block (cs := #[.int .i64 y]) (t := 3) (fr := (0, 0)) (heap_alloc_new w6 _)) ?o1 (by decide) ?o2 ?o3 ?o4 _ rfl ?_)
      case o1 => simp [Value.oneCell']
      case o2 => simp only [maxLen]; omega
      case o3 => omega
      case o4 => have := H6.out.2.2.2; (try simp); omega
      intro gn cn W2 hown hgr _ hlt
      have hba : Below w6.heap.size w6 (w6.alloc (.cells #[.int .i64 y] 3)) := (Below.refl _ w6).alloc (Nat.le_refl _) _
      have HA := Lib.hid (And.intro ((H6.out.1.alloc H6.out.1.size _).grown hgr (H6.out.1.alloc H6.out.1.size _).size (fun z hz => by have h1 := (H6.out.2.2.1.lt z hz).1; have h2 := H3.out.1.size; omega)) (And.intro ((H6.out.2.1.below hba).grown hgr (fun a2 e2 e3 => by have h1 := (H6.out.2.2.1.lt _ e3.symm).1; have h2 := H3.out.2.2.1 a2 e2; omega)) (And.intro (show W2.ownsRow w3.heap.size 3 1 (.slice (some ⟨gn, 0, none⟩) (n' + 1) cn) (n' + 1) (nRow (o ++ [y])) by rw [nRow_snoc]; exact hown) (Nat.le_trans H6.out.2.2.2 (Nat.le_trans hba.size hgr.size)))))
      clear hown hgr hlt hba
      go_wp2
      go_roundg (gk - 1)
      case measure => omega
      case rel => exact ⟨i + 1, n' + 1, o ++ [y], some ⟨gn, 0, none⟩, cn, rfl, by go_num, by omega, by omega, Lib.hid ⟨HA.out.1, HA.out.2.1, HA.out.2.2.1, by simp; exact hR.out.2.2.2.1, by rw [HNX.out, HT.out]; simp, HA.out.2.2.2⟩⟩

end Go.Proofs.YtnphlekailodkaaGreatDoor

namespace Go.Proofs.YtnphlekailodkaaGreatDoor
open Go.RowKit

set_option maxRecDepth 1000000 in
set_option maxHeartbeats 8000000 in
theorem rdiffers_calls (A : Option Addr) (n c : Nat) (l : List Pe.Ent) (p d f : Int) (w : World) (h : EntsAt w A n l) (hn : n ≤ 100000) :
    Calls Tryz.prog 82 #[.slice A n c, .int .i64 p, .int .i64 d, .int .i64 f] w fun e w' => e = .returned (.bool (!decide (Pe.st l p d = Pe.st l p f))) ∧ Below w.heap.size w w' := by
  have hln := h.len
  have h1 := fun w0 (hb : Below w.heap.size w w0) d => rNames_calls A n c l p d w0 (h.below hb) hn
  have h2 := fun w0 (hb : Below w.heap.size w w0) d => rPlaces_calls A n c l p d w0 (h.below hb) hn
  have h3 := fun w0 (hb : Below w.heap.size w w0) d => rHome_calls A n c l p d w0 (h.below hb)
  have h4 := fun w0 (hb : Below w.heap.size w w0) d => rHeir_calls A n c l p d w0 (h.below hb)
  have h5 := fun w0 (hb : Below w.heap.size w w0) d => rDead_calls A n c l p d w0 (h.below hb)
  obtain ⟨V, hV⟩ : ∃ V, V = !decide (Pe.st l p d = Pe.st l p f) := ⟨_, rfl⟩
  rw [← hV]
  rw [Pe.st_same] at hV
  obtain ⟨S, hS⟩ : ∃ S, S = Pe.st l p d := ⟨_, rfl⟩
  obtain ⟨T, hT⟩ : ∃ T, T = Pe.st l p f := ⟨_, rfl⟩
  have h11 := fun w0 hb => h1 w0 hb d
  have h12 := fun w0 hb => h1 w0 hb f
  have h21 := fun w0 hb => h2 w0 hb d
  have h22 := fun w0 hb => h2 w0 hb f
  have h31 := fun w0 hb => h3 w0 hb d
  have h32 := fun w0 hb => h3 w0 hb f
  have h41 := fun w0 hb => h4 w0 hb d
  have h42 := fun w0 hb => h4 w0 hb f
  have h51 := fun w0 hb => h5 w0 hb d
  have h52 := fun w0 hb => h5 w0 hb f
  have hl1 : S.names.length ≤ 1000000 := by rw [hS]; have := Pe.gatherS_length (fun x => x.kind == 1 && x.person == p && x.on d) l; show (Pe.names l p d).length ≤ _; unfold Pe.names; omega
  have hl2 : S.places.length ≤ 1000000 := by
    rw [hS]
    show (Pe.places l p d).length ≤ _
    have h1 := List.length_filter_le (fun c : Pe.Pair => c.1 == p) (Pe.pairs l d)
    have h2 := Pe.pairs_length l d
    unfold Pe.places
    rw [List.length_map]
    omega
  rw [show Pe.names l p d = S.names by rw [hS]; rfl] at h11
  rw [show Pe.names l p f = T.names by rw [hT]; rfl] at h12
  rw [show Pe.placesR l p d = S.places by rw [hS]; exact (Pe.places_eq l p d).symm] at h21
  rw [show Pe.placesR l p f = T.places by rw [hT]; exact (Pe.places_eq l p f).symm] at h22
  rw [show Pe.home? l p d = S.home by rw [hS]; rfl] at h31
  rw [show Pe.home? l p f = T.home by rw [hT]; rfl] at h32
  rw [show Pe.heir? l p d = S.heir by rw [hS]; rfl] at h41
  rw [show Pe.heir? l p f = T.heir by rw [hT]; rfl] at h42
  rw [show Pe.dead l p d = S.dead by rw [hS]; rfl] at h51
  rw [show Pe.dead l p f = T.dead by rw [hT]; rfl] at h52
  rw [← hS, ← hT] at hV
  clear hS hT h1 h2 h3 h4 h5 hln
  obtain ⟨NB, hNB⟩ : ∃ NB, NB = decide (S.names = T.names) := ⟨_, rfl⟩
  obtain ⟨PB, hPB⟩ : ∃ PB, PB = decide (S.places = T.places) := ⟨_, rfl⟩
  obtain ⟨D, hD⟩ : ∃ D, D = S.dead := ⟨_, rfl⟩
  obtain ⟨hm, hhm⟩ : ∃ hm, hm = S.home.getD 0 := ⟨_, rfl⟩
  obtain ⟨hz, hhz⟩ : ∃ hs, hs = S.home.isSome := ⟨_, rfl⟩
  obtain ⟨xm, hxm⟩ : ∃ xm, xm = S.heir.getD 0 := ⟨_, rfl⟩
  obtain ⟨xz, hxz⟩ : ∃ xs, xs = S.heir.isSome := ⟨_, rfl⟩
  obtain ⟨D', hD'⟩ : ∃ D, D = T.dead := ⟨_, rfl⟩
  obtain ⟨hm', hhm'⟩ : ∃ hm, hm = T.home.getD 0 := ⟨_, rfl⟩
  obtain ⟨hz', hhz'⟩ : ∃ hs, hs = T.home.isSome := ⟨_, rfl⟩
  obtain ⟨xm', hxm'⟩ : ∃ xm, xm = T.heir.getD 0 := ⟨_, rfl⟩
  obtain ⟨xz', hxz'⟩ : ∃ xs, xs = T.heir.isSome := ⟨_, rfl⟩
  rw [← hNB, ← hPB, ← hD, ← hhm, ← hhz, ← hxm, ← hxz, ← hD', ← hhm', ← hhz', ← hxm', ← hxz'] at hV
  rw [← hD] at h51
  rw [← hD'] at h52
  rw [← hhm, ← hhz] at h31
  rw [← hhm', ← hhz'] at h32
  rw [← hxm, ← hxz] at h41
  rw [← hxm', ← hxz'] at h42
  obtain ⟨B1, hB1⟩ : ∃ B, B = (D != D') := ⟨_, rfl⟩
  obtain ⟨B2, hB2⟩ : ∃ B, B = (hm != hm') := ⟨_, rfl⟩
  obtain ⟨B3, hB3⟩ : ∃ B, B = (hz != hz') := ⟨_, rfl⟩
  obtain ⟨B4, hB4⟩ : ∃ B, B = (xm != xm') := ⟨_, rfl⟩
  obtain ⟨B5, hB5⟩ : ∃ B, B = (xz != xz') := ⟨_, rfl⟩
  rw [show (D == D') = !B1 by rw [hB1, bne, Bool.not_not], show (hm == hm') = !B2 by rw [hB2, bne, Bool.not_not], show (hz == hz') = !B3 by rw [hB3, bne, Bool.not_not], show (xm == xm') = !B4 by rw [hB4, bne, Bool.not_not], show (xz == xz') = !B5 by rw [hB5, bne, Bool.not_not]] at hV
  have q1 := hB1.symm
  have q2 := hB2.symm
  have q3 := hB3.symm
  have q4 := hB4.symm
  have q5 := hB5.symm
  obtain ⟨ns, hns⟩ : ∃ x, x = S.names := ⟨_, rfl⟩
  obtain ⟨ms, hms⟩ : ∃ x, x = T.names := ⟨_, rfl⟩
  obtain ⟨ps, hps⟩ : ∃ x, x = S.places := ⟨_, rfl⟩
  obtain ⟨rs, hrs⟩ : ∃ x, x = T.places := ⟨_, rfl⟩
  rw [← hns] at h11 hNB hl1
  rw [← hms] at h12 hNB
  rw [← hps] at h21 hPB hl2
  rw [← hrs] at h22 hPB
  obtain ⟨nn, hnn⟩ : ∃ x, x = ns.length := ⟨_, rfl⟩
  obtain ⟨mn, hmn⟩ : ∃ x, x = ms.length := ⟨_, rfl⟩
  obtain ⟨pn, hpn⟩ : ∃ x, x = ps.length := ⟨_, rfl⟩
  obtain ⟨rn, hrn⟩ : ∃ x, x = rs.length := ⟨_, rfl⟩
  rw [← hnn] at h11 hl1
  rw [← hmn] at h12
  rw [← hpn] at h21 hl2
  rw [← hrn] at h22
  have HV := Lib.hid (And.intro hV (And.intro hNB hPB))
  have HQ := Lib.hid (And.intro hnn (And.intro hmn (And.intro hpn hrn)))
  have HC := Lib.hid (And.intro h11 (And.intro h12 (And.intro h21 (And.intro h22 (And.intro h31 (And.intro h32 (And.intro h41 (And.intro h42 (And.intro h51 h52)))))))))
  clear hV hNB hPB hD hhm hhz hxm hxz hD' hhm' hhz' hxm' hxz' hns hms hps hrs hnn hmn hpn hrn h11 h12 h21 h22 h31 h32 h41 h42 h51 h52 hB1 hB2 hB3 hB4 hB5 h
  go_enter Tryz.func82, Tryz.ntmps82
  have hb0 := Below.refl w.heap.size w
  have H0 := Lib.hid hb0
  clear hb0
  go_wp2_with fail
  refine (HC.out.1 _ H0.out).mono ?_
  rintro e w1 ⟨v, rfl, hown, hb⟩
  obtain ⟨A1, c1, rfl, hN⟩ := own_strs hown (HQ.out.1)
  have H1 := Lib.hid (And.intro (Below.trans (H0.out) (Below.mono hb (Below.size H0.out))) (And.intro hN hb))
  clear hb hown hN
  dsimp only
  go_wp2_with fail
  refine (HC.out.2.1 _ H1.out.1).mono ?_
  rintro e w2 ⟨v, rfl, hown, hb⟩
  obtain ⟨A2, c2, rfl, hN⟩ := own_strs hown (HQ.out.2.1)
  have H2 := Lib.hid (And.intro (Below.trans (H1.out.1) (Below.mono hb (Below.size H1.out.1))) (And.intro hN hb))
  clear hb hown hN
  dsimp only
  have hss := rSameStrings_calls A1 A2 nn c1 mn c2 ns ms w2 (H1.out.2.1.below H2.out.2.2) H2.out.2.1 hl1
  rw [← HV.out.2.1] at hss
  have HSS := Lib.hid hss
  clear hss
  go_wp2_with fail
  refine (HSS.out).mono ?_
  rintro e w3 ⟨rfl, hb⟩
  have H3 := Lib.hid (Below.trans (H2.out.1) (Below.mono hb (Below.size H2.out.1)))
  clear hb
  dsimp only
  go_wp2_with fail
  refine (HC.out.2.2.1 _ H3.out).mono ?_
  rintro e w4 ⟨v, rfl, hown, hb⟩
  obtain ⟨A4, c4, rfl, hN⟩ := own_nums hown (HQ.out.2.2.1)
  have H4 := Lib.hid (And.intro (Below.trans (H3.out) (Below.mono hb (Below.size H3.out))) (And.intro hN hb))
  clear hb hown hN
  dsimp only
  go_wp2_with fail
  refine (HC.out.2.2.2.1 _ H4.out.1).mono ?_
  rintro e w5 ⟨v, rfl, hown, hb⟩
  obtain ⟨A5, c5, rfl, hN⟩ := own_nums hown (HQ.out.2.2.2)
  have H5 := Lib.hid (And.intro (Below.trans (H4.out.1) (Below.mono hb (Below.size H4.out.1))) (And.intro hN hb))
  clear hb hown hN
  dsimp only
  have hss := rSameInts_calls A4 A5 pn c4 rn c5 ps rs w5 (H4.out.2.1.below H5.out.2.2) H5.out.2.1 hl2
  rw [← HV.out.2.2] at hss
  have HSI := Lib.hid hss
  clear hss
  go_wp2_with fail
  refine (HSI.out).mono ?_
  rintro e w6 ⟨rfl, hb⟩
  have H6 := Lib.hid (Below.trans (H5.out.1) (Below.mono hb (Below.size H5.out.1)))
  clear hb
  dsimp only
  go_wp2_with fail
  refine ((HC.out.2.2.2.2.1 _ H6.out)).mono ?_
  rintro e w7 ⟨rfl, hb⟩
  have H7 := Lib.hid (Below.trans (H6.out) (Below.mono hb (Below.size H6.out)))
  clear hb
  dsimp only
  go_wp2_with fail
  refine ((HC.out.2.2.2.2.2.1 _ H7.out)).mono ?_
  rintro e w8 ⟨rfl, hb⟩
  have H8 := Lib.hid (Below.trans (H7.out) (Below.mono hb (Below.size H7.out)))
  clear hb
  dsimp only
  go_wp2_with fail
  refine ((HC.out.2.2.2.2.2.2.1 _ H8.out)).mono ?_
  rintro e w9 ⟨rfl, hb⟩
  have H9 := Lib.hid (Below.trans (H8.out) (Below.mono hb (Below.size H8.out)))
  clear hb
  dsimp only
  go_wp2_with fail
  refine ((HC.out.2.2.2.2.2.2.2.1 _ H9.out)).mono ?_
  rintro e w10 ⟨rfl, hb⟩
  have H10 := Lib.hid (Below.trans (H9.out) (Below.mono hb (Below.size H9.out)))
  clear hb
  dsimp only
  go_wp2_with fail
  refine ((HC.out.2.2.2.2.2.2.2.2.1 _ H10.out)).mono ?_
  rintro e w11 ⟨rfl, hb⟩
  have H11 := Lib.hid (Below.trans (H10.out) (Below.mono hb (Below.size H10.out)))
  clear hb
  dsimp only
  go_wp2_with fail
  refine ((HC.out.2.2.2.2.2.2.2.2.2 _ H11.out)).mono ?_
  rintro e w12 ⟨rfl, hb⟩
  have H12 := Lib.hid (Below.trans (H11.out) (Below.mono hb (Below.size H11.out)))
  clear hb
  dsimp only
  cases NB
  case false =>
    go_wp2
    go_ret
    exact ⟨by rw [HV.out.1]; simp, H12.out⟩
  cases PB
  case false =>
    go_wp2
    go_ret
    exact ⟨by rw [HV.out.1]; simp, H12.out⟩
  cases B2
  case true =>
    go_wp2
    go_ret
    exact ⟨by rw [HV.out.1]; simp, H12.out⟩
  cases B3
  case true =>
    have n3 : ¬ hz = hz' := by simpa using q3
    go_wp2
    go_ret
    exact ⟨by rw [HV.out.1]; simp, H12.out⟩
  have e3 : hz = hz' := by simpa using q3
  subst e3
  cases B4
  case true =>
    go_wp2
    go_ret
    exact ⟨by rw [HV.out.1]; simp, H12.out⟩
  cases B5
  case true =>
    have n5 : ¬ xz = xz' := by simpa using q5
    go_wp2
    go_ret
    exact ⟨by rw [HV.out.1]; simp, H12.out⟩
  have e5 : xz = xz' := by simpa using q5
  subst e5
  cases B1
  case true =>
    have n1 : ¬ D = D' := by simpa using q1
    go_wp2
    go_ret
    exact ⟨by rw [HV.out.1]; simpa using n1, H12.out⟩
  have e1 : D = D' := by simpa using q1
  subst e1
  go_wp2
  go_ret
  exact ⟨by rw [HV.out.1]; simp, H12.out⟩

theorem NumsAt.at_one {w : World} {ad : Addr} {n : Nat} {l : List Int} (h : NumsAt w (some ad) n l) {i : Nat} {y : Int} (hy : l[i]? = some y) : w.cell? (ad.add i) = some (.int .i64 y) := by
  obtain ⟨y2, ad2, hy2, had, hc⟩ := h.one (i := i) (by have := (List.getElem?_eq_some_iff.1 hy).1; have := h.len; omega)
  injection had with had
  subst had
  rw [hy] at hy2
  injection hy2 with hy2
  subst hy2
  exact hc
set_option linter.unusedSimpArgs false in
set_option maxRecDepth 1000000 in
set_option maxHeartbeats 8000000 in
theorem rChanges_calls (A : Option Addr) (n c : Nat) (l : List Pe.Ent) (p : Int) (w : World) (h : EntsAt w A n l) (hn : n ≤ 50000) :
    Calls Tryz.prog 51 #[.slice A n c, .int .i64 p] w fun e w' => ∃ v, e = .returned v ∧ w'.ownsRow w.heap.size 3 1 v (Pe.changes l p).length (nRow (Pe.changes l p)) ∧ Below w.heap.size w w' := by
  obtain ⟨i0, hi0, hz0, hz1, hz2⟩ := info_parts infoIntR
  have HI0 := Lib.hid (And.intro hi0 (And.intro hz0 (And.intro hz1 hz2)))
  have H := Lib.hid h
  have hmost := h.most
  have hdf := fun w0 (hb : Below w.heap.size w w0) d f => rdiffers_calls A n c l p d f w0 (h.below hb) (by omega)
  have HDF := Lib.hid hdf
  clear h hi0 hz0 hz1 hz2 hdf
  go_enter Tryz.func51, Tryz.ntmps51
  go_wp2_with fail
  go_loopg [5, 6] n (fun q s5 s6 wr => ∃ (i n' : Nat) (o : List Int) (A' : Option Addr) (c' : Nat), s5 = .slice A' n' c' ∧ s6 = .int .i64 (i : Int) ∧ i + q = n ∧ n' ≤ 2 * i ∧ Hid (Below w.heap.size w wr ∧ wr.ownsRow w.heap.size 3 1 (.slice A' n' c') n' (nRow o) ∧ n' = o.length ∧ o = Pe.insAll [] (Pe.ends (l.take i))))
  case atStart => exact ⟨0, 0, [], none, 0, rfl, rfl, by omega, by omega, Lib.hid ⟨Below.refl _ _, World.ownsRow_nil _ _ _ _, rfl, rfl⟩⟩
  case round =>
    obtain ⟨i, n', o, A', c', rfl, rfl, hi, hn', hR⟩ := hrel
    by_cases hgo : i < n
    case pos =>
      have hd1 : decide ((i : Int) < (n : Int)) = true := by simp; omega
      have hE := Lib.hid (H.out.below hR.out.1)
      obtain ⟨x, ad, hx, rfl, hok, hcw⟩ := hE.out.one hgo
      have g0 : wr.cell? (ad.add (i * 10)) = some (.int .i64 x.day) := hcw 0 _ rfl
      have g1 : wr.cell? ⟨(ad.add (i * 10)).block, (ad.add (i * 10)).off + 1, none⟩ = some (.int .u8 (x.kind : Int)) := hcw 1 _ rfl
      have g2 : wr.cell? ⟨(ad.add (i * 10)).block, (ad.add (i * 10)).off + 2, none⟩ = some (.int .i64 x.since) := hcw 2 _ rfl
      have g3 : wr.cell? ⟨(ad.add (i * 10)).block, (ad.add (i * 10)).off + 3, none⟩ = some (.int .i64 x.til) := hcw 3 _ rfl
      have g4 : wr.cell? ⟨(ad.add (i * 10)).block, (ad.add (i * 10)).off + 4, none⟩ = some (.int .i64 x.person) := hcw 4 _ rfl
      have g5 : wr.cell? ⟨(ad.add (i * 10)).block, (ad.add (i * 10)).off + 5, none⟩ = some (.int .i64 x.place) := hcw 5 _ rfl
      have g6 : wr.cell? ⟨(ad.add (i * 10)).block, (ad.add (i * 10)).off + 6, none⟩ = some (.int .i64 x.other) := hcw 6 _ rfl
      have g7 : wr.cell? ⟨(ad.add (i * 10)).block, (ad.add (i * 10)).off + 7, none⟩ = some (.int .i64 x.at_) := hcw 7 _ rfl
      have g8 : wr.cell? ⟨(ad.add (i * 10)).block, (ad.add (i * 10)).off + 8, none⟩ = some (.int .i64 x.order) := hcw 8 _ rfl
      have g9 : wr.cell? ⟨(ad.add (i * 10)).block, (ad.add (i * 10)).off + 9, none⟩ = some (.string (bs x.name)) := hcw 9 _ rfl
      have HX := Lib.hid hx
      clear hx hcw hok
      obtain ⟨A2, cc2, hv2, hN2⟩ := own_nums hR.out.2.1 hR.out.2.2.1
      obtain ⟨rfl, rfl⟩ : A' = A2 ∧ c' = cc2 := by injection hv2 with e1 _ e3; exact ⟨e1, e3⟩
      have hac := radded_calls A' n' c' o x.since wr hN2 (by omega)
      have HAC := Lib.hid hac
      clear hac hN2 hv2
      go_wp2_with fail
      refine HAC.out.mono ?_
      rintro e w3 ⟨v, rfl, hown, hb3⟩
      have hle : (Pe.ins x.since o).length ≤ n' + 1 := by have := Pe.ins_length x.since o; have := hR.out.2.2.1; omega
      obtain ⟨n3, hn3⟩ : ∃ n3, n3 = (Pe.ins x.since o).length := ⟨_, rfl⟩
      rw [← hn3] at hown hle
      obtain ⟨A3, c3, rfl, hN3⟩ := own_nums hown hn3
      have hc3 := (hE.out.below hb3).get HX.out
      have H3 := Lib.hid (And.intro (hR.out.1.trans (hb3.mono hR.out.1.size)) hN3)
      clear hb3 hown hn3 hN3
      clear g0 g1 g2 g3 g4 g5 g6 g7 g8 g9
      have g0 : w3.cell? (ad.add (i * 10)) = some (.int .i64 x.day) := hc3 0 _ rfl
      have g1 : w3.cell? ⟨(ad.add (i * 10)).block, (ad.add (i * 10)).off + 1, none⟩ = some (.int .u8 (x.kind : Int)) := hc3 1 _ rfl
      have g2 : w3.cell? ⟨(ad.add (i * 10)).block, (ad.add (i * 10)).off + 2, none⟩ = some (.int .i64 x.since) := hc3 2 _ rfl
      have g3 : w3.cell? ⟨(ad.add (i * 10)).block, (ad.add (i * 10)).off + 3, none⟩ = some (.int .i64 x.til) := hc3 3 _ rfl
      have g4 : w3.cell? ⟨(ad.add (i * 10)).block, (ad.add (i * 10)).off + 4, none⟩ = some (.int .i64 x.person) := hc3 4 _ rfl
      have g5 : w3.cell? ⟨(ad.add (i * 10)).block, (ad.add (i * 10)).off + 5, none⟩ = some (.int .i64 x.place) := hc3 5 _ rfl
      have g6 : w3.cell? ⟨(ad.add (i * 10)).block, (ad.add (i * 10)).off + 6, none⟩ = some (.int .i64 x.other) := hc3 6 _ rfl
      have g7 : w3.cell? ⟨(ad.add (i * 10)).block, (ad.add (i * 10)).off + 7, none⟩ = some (.int .i64 x.at_) := hc3 7 _ rfl
      have g8 : w3.cell? ⟨(ad.add (i * 10)).block, (ad.add (i * 10)).off + 8, none⟩ = some (.int .i64 x.order) := hc3 8 _ rfl
      have g9 : w3.cell? ⟨(ad.add (i * 10)).block, (ad.add (i * 10)).off + 9, none⟩ = some (.string (bs x.name)) := hc3 9 _ rfl
      clear hc3
      dsimp only
      have hac := radded_calls A3 n3 c3 (Pe.ins x.since o) x.til w3 H3.out.2 (by omega)
      have HAD := Lib.hid hac
      clear hac
      go_wp2_with fail
      refine HAD.out.mono ?_
      rintro e w4 ⟨v, rfl, hown, hb4⟩
      have hle2 : (Pe.ins x.til (Pe.ins x.since o)).length ≤ n3 + 1 := by have := Pe.ins_length x.til (Pe.ins x.since o); have := H3.out.2.len; omega
      obtain ⟨n4, hn4⟩ : ∃ n4, n4 = (Pe.ins x.til (Pe.ins x.since o)).length := ⟨_, rfl⟩
      rw [← hn4] at hown hle2
      obtain ⟨A4, c4, rfl, _, _⟩ := own_shape hown
      have H4 := Lib.hid (And.intro (H3.out.1.trans (hb4.mono H3.out.1.size)) (And.intro (own_weaken hown H3.out.1.size) hn4))
      clear hb4 hown hn4
      clear g0 g1 g2 g3 g4 g5 g6 g7 g8 g9
      dsimp only
      go_wp2
      go_roundg (gk - 1)
      case measure => omega
      case rel =>
        refine ⟨i + 1, n4, Pe.ins x.til (Pe.ins x.since o), A4, c4, rfl, by go_num, by omega, by omega, Lib.hid ⟨H4.out.1, H4.out.2.1, H4.out.2.2, ?_⟩⟩
        rw [Pe.ends_next HX.out, Pe.insAll_append, ← hR.out.2.2.2]
        rfl
    have hd1 : decide ((i : Int) < (n : Int)) = false := by simp; omega
    have ho : o = Pe.days l := by
      have h1 := hR.out.2.2.2
      rwa [List.take_of_length_le (by have := H.out.len; omega), Pe.insAll_days] at h1
    have hbk : ∀ ad, A' = some ad → ad.block < wr.heap.size := fun ad e => by subst e; exact (hR.out.2.1.lt ad.block rfl).2
    obtain ⟨A2, cc2, hv2, hN2⟩ := own_nums hR.out.2.1 hR.out.2.2.1
    obtain ⟨rfl, rfl⟩ : A' = A2 ∧ c' = cc2 := by injection hv2 with e1 _ e3; exact ⟨e1, e3⟩
    have H3 := Lib.hid (And.intro hR.out.1 (And.intro hN2 (And.intro hbk (And.intro hR.out.2.2.1 ho))))
    have hfm : n' ≤ 100000 := by omega
    clear hbk hv2 hN2 ho
    rename World => w3
    go_wp2_with fail
    go_loopg [7, 8] n' (fun q s7 s8 wr2 => ∃ (i m' : Nat) (r : List Int) (A2 : Option Addr) (c2 : Nat), s7 = .slice A2 m' c2 ∧ s8 = .int .i64 (i : Int) ∧ i + q = n' ∧ m' ≤ i ∧ Hid (Below w.heap.size w wr2 ∧ NumsAt wr2 A' n' o ∧ wr2.ownsRow w3.heap.size 3 1 (.slice A2 m' c2) m' (nRow r) ∧ m' = r.length ∧ r = (o.take i).filter (Pe.turns l p) ∧ w3.heap.size ≤ wr2.heap.size))
    case atStart => exact ⟨0, 0, [], none, 0, rfl, rfl, by omega, by omega, Lib.hid ⟨H3.out.1, H3.out.2.1, World.ownsRow_nil _ _ _ _, rfl, rfl, Nat.le_refl _⟩⟩
    case round =>
      clear hi hgo hd1 hn' hR
      obtain ⟨i, m', r, A2, c2, rfl, rfl, hi, hm', hR⟩ := hrel
      by_cases hgo : i < n'
      case neg =>
        have hd1 : decide ((i : Int) < (n' : Int)) = false := by simp; omega
        go_wp2
        go_ret
        have h1 := hR.out.2.2.2.2.1
        rw [List.take_of_length_le (by have := H3.out.2.2.2.1; omega), H3.out.2.2.2.2] at h1
        refine ⟨_, rfl, ?_, hR.out.1⟩
        show World.ownsRow _ _ _ _ _ ((Pe.days l).filter (Pe.turns l p)).length (nRow ((Pe.days l).filter (Pe.turns l p)))
        rw [← h1, ← hR.out.2.2.2.1]
        exact own_weaken hR.out.2.2.1 H3.out.1.size
      have hd1 : decide ((i : Int) < (n' : Int)) = true := by simp; omega
      obtain ⟨y, ad, hy, rfl, hcy⟩ := hR.out.2.1.one hgo
      have hnx : (o.take (i + 1)).filter (Pe.turns l p) = r ++ (if Pe.turns l p y = true then [y] else []) := by
        rw [List.take_add_one, hy, List.filter_append, ← hR.out.2.2.2.2.1]
        congr 1
        cases ht : Pe.turns l p y <;> simp [ht]
      have HNX := Lib.hid (And.intro hnx hy)
      clear hy hnx
      by_cases hy0 : 0 ≤ y
      case neg =>
        have q0 : decide (0 ≤ y) = false := by simpa using hy0
        have q00 : decide (y < 0) = true := by simp; omega
        have HT := Lib.hid (show Pe.turns l p y = false by unfold Pe.turns; rw [q0]; rfl)
        clear hy0
        go_wp2
        go_roundg (gk - 1)
        case measure => omega
        case rel => exact ⟨i + 1, m', r, A2, c2, rfl, by go_num, by omega, by omega, Lib.hid ⟨hR.out.1, hR.out.2.1, hR.out.2.2.1, hR.out.2.2.2.1, by rw [HNX.out.1, HT.out]; simp, hR.out.2.2.2.2.2⟩⟩
      have q0 : decide (0 ≤ y) = true := by simpa using hy0
      have q00 : decide (y < 0) = false := by simp; omega
      by_cases hy1 : y ≤ 100000
      case neg =>
        have q1 : decide (y ≤ 100000) = false := by simpa using hy1
        have q11 : decide (100000 < y) = true := by simp; omega
        have HT := Lib.hid (show Pe.turns l p y = false by unfold Pe.turns; rw [q1]; simp)
        clear hy0 hy1
        go_wp2
        go_roundg (gk - 1)
        case measure => omega
        case rel => exact ⟨i + 1, m', r, A2, c2, rfl, by go_num, by omega, by omega, Lib.hid ⟨hR.out.1, hR.out.2.1, hR.out.2.2.1, hR.out.2.2.2.1, by rw [HNX.out.1, HT.out]; simp, hR.out.2.2.2.2.2⟩⟩
      have q1 : decide (y ≤ 100000) = true := by simpa using hy1
      have q11 : decide (100000 < y) = false := by simp; omega
      have hwr : IntKind.i64.wrap (y - 1) = y - 1 := by simp [IntKind.wrap, IntKind.bits, IntKind.signed]; omega
      have HT0 := Lib.hid (show Pe.turns l p y = !decide (Pe.st l p (y - 1) = Pe.st l p y) by
        unfold Pe.turns; rw [q0, q1]
        rw [show decide (Pe.st l p y = Pe.st l p (y - 1)) = decide (Pe.st l p (y - 1) = Pe.st l p y) by rw [Bool.eq_iff_iff]; simp only [decide_eq_true_eq]; exact eq_comm]
        rfl)
      obtain ⟨V, hV⟩ : ∃ V, V = !decide (Pe.st l p (y - 1) = Pe.st l p y) := ⟨_, rfl⟩
      have hdc := fun w0 hb => HDF.out w0 hb (y - 1) y
      rw [← hV] at HT0 hdc
      have HDC := Lib.hid hdc
      clear hy0 hy1 hdc hV
      go_upto_region 12 with fail
      go_cut [9] (fun s9 wx => s9 = .bool V ∧ Hid (Below w.heap.size w wx ∧ NumsAt wx (some ad) n' o ∧ wx.ownsRow w3.heap.size 3 1 (.slice A2 m' c2) m' (nRow r) ∧ w3.heap.size ≤ wx.heap.size))
      case first =>
        refine wp_region_R (RL [(5, fun w' => w'.cell? (ad.add i) = some (.int .i64 y)), (10, fun w' => w'.cell? (ad.add i) = some (.int .i64 y))]) (by kernel_rfl) (RL_cons hcy (RL_cons hcy (RL_nil _))) (fun hp => ?_)
        have hS5 : wr.drew.cell? (ad.add i) = some (.int .i64 y) := hcy
        have hS10 := hS5
        refine wpAnyR_take (i := 0) (oi := ⟨some 48, _, _, _, _, _⟩) (v := ?_) rfl (by kernel_rfl) (by kernel_rfl) (by kernel_rfl) (fun _ _ _ h => h) hp (.inl ⟨by rfl, fun w _ => ?_⟩) (fun hq => ?_)
        rotate_left
        · go_simp
          with_reducible rfl
        clear hp; have hp := hq; clear hq
        try simp only [Act.put, List.setIfInBounds_toArray, List.set_cons_zero, List.set_cons_succ]
        refine wpAnyR_take (i := 1) (oi := ⟨some 49, _, _, _, _, _⟩) (v := ?_) rfl (by kernel_rfl) (by kernel_rfl) (by kernel_rfl) (fun _ _ _ h => h) hp (.inl ⟨by rfl, fun w _ => ?_⟩) (fun hq => ?_)
        rotate_left
        · go_simp
          with_reducible rfl
        clear hp; have hp := hq; clear hq
        try simp only [Act.put, List.setIfInBounds_toArray, List.set_cons_zero, List.set_cons_succ]
        refine wpAnyR_take (i := 2) (oi := ⟨some 50, _, _, _, _, _⟩) (v := ?_) rfl (by kernel_rfl) (by kernel_rfl) (by kernel_rfl) (fun _ _ _ h => h) hp (.inl ⟨by rfl, fun w _ => ?_⟩) (fun hq => ?_)
        rotate_left
        · go_simp
          with_reducible rfl
        clear hp; have hp := hq; clear hq
        try simp only [Act.put, List.setIfInBounds_toArray, List.set_cons_zero, List.set_cons_succ]
        refine wpAnyR_take (i := 3) (oi := ⟨some 51, _, _, _, _, _⟩) (v := ?_) rfl (by kernel_rfl) (by kernel_rfl) (by kernel_rfl) (fun _ _ _ h => h) hp (.inl ⟨by rfl, fun w _ => ?_⟩) (fun hq => ?_)
        rotate_left
        · go_simp
          with_reducible rfl
        clear hp; have hp := hq; clear hq
        try simp only [Act.put, List.setIfInBounds_toArray, List.set_cons_zero, List.set_cons_succ]
        refine wpAnyR_take (i := 4) (oi := ⟨some 52, _, _, _, _, _⟩) (v := ?_) rfl (by kernel_rfl) (by kernel_rfl) (by kernel_rfl) (fun _ _ _ h => h) hp (.inl ⟨by rfl, fun w _ => ?_⟩) (fun hq => ?_)
        rotate_left
        · go_simp
          with_reducible rfl
        clear hp; have hp := hq; clear hq
        try simp only [Act.put, List.setIfInBounds_toArray, List.set_cons_zero, List.set_cons_succ]
        refine wpAnyR_take (i := 5) (oi := ⟨some 53, _, _, _, _, _⟩) (v := ?_) rfl (by kernel_rfl) (by kernel_rfl) (by kernel_rfl) (fun _ _ _ h => h) hp (.inl ⟨by rfl, fun w hR => ?_⟩) (fun hq => ?_)
        rotate_left
        · have hR := hR.1 rfl
          (try dsimp only at hR)
          go_simp
          with_reducible rfl
        clear hp; have hp := hq; clear hq
        try simp only [Act.put, List.setIfInBounds_toArray, List.set_cons_zero, List.set_cons_succ]
        refine wpAnyR_take (i := 6) (oi := ⟨some 54, _, _, _, _, _⟩) (v := ?_) rfl (by kernel_rfl) (by kernel_rfl) (by kernel_rfl) (fun _ _ _ h => h) hp (.inl ⟨by rfl, fun w _ => ?_⟩) (fun hq => ?_)
        rotate_left
        · go_simp
          with_reducible rfl
        clear hp; have hp := hq; clear hq
        try simp only [Act.put, List.setIfInBounds_toArray, List.set_cons_zero, List.set_cons_succ]
        refine wpAnyR_take (i := 7) (oi := ⟨some 55, _, _, _, _, _⟩) (v := ?_) rfl (by kernel_rfl) (by kernel_rfl) (by kernel_rfl) (fun _ _ _ h => h) hp (.inl ⟨by rfl, fun w _ => ?_⟩) (fun hq => ?_)
        rotate_left
        · go_simp
          with_reducible rfl
        clear hp; have hp := hq; clear hq
        try simp only [Act.put, List.setIfInBounds_toArray, List.set_cons_zero, List.set_cons_succ]
        refine wpAnyR_take (i := 8) (oi := ⟨some 56, _, _, _, _, _⟩) (v := ?_) rfl (by kernel_rfl) (by kernel_rfl) (by kernel_rfl) (fun _ _ _ h => h) hp (.inl ⟨by rfl, fun w _ => ?_⟩) (fun hq => ?_)
        rotate_left
        · go_simp
          with_reducible rfl
        clear hp; have hp := hq; clear hq
        try simp only [Act.put, List.setIfInBounds_toArray, List.set_cons_zero, List.set_cons_succ]
        refine wpAnyR_take (i := 9) (oi := ⟨some 57, _, _, _, _, _⟩) (v := ?_) rfl (by kernel_rfl) (by kernel_rfl) (by kernel_rfl) (fun _ _ _ h => h) hp (.inl ⟨by rfl, fun w _ => ?_⟩) (fun hq => ?_)
        rotate_left
        · go_simp
          with_reducible rfl
        clear hp; have hp := hq; clear hq
        try simp only [Act.put, List.setIfInBounds_toArray, List.set_cons_zero, List.set_cons_succ]
        refine wpAnyR_take (i := 10) (oi := ⟨some 58, _, _, _, _, _⟩) (v := ?_) rfl (by kernel_rfl) (by kernel_rfl) (by kernel_rfl) (fun _ _ _ h => h) hp (.inl ⟨by rfl, fun w hR => ?_⟩) (fun hq => ?_)
        rotate_left
        · have hR := hR.2.1 rfl
          (try dsimp only at hR)
          go_simp
          with_reducible rfl
        clear hp; have hp := hq; clear hq
        try simp only [Act.put, List.setIfInBounds_toArray, List.set_cons_zero, List.set_cons_succ]
        refine wpAnyR_step (i := 11) (o := ⟨some 59, _, _, _, _, _⟩) (by kernel_rfl) rfl (by rfl) (fun K hK => ?_) -- Op.call { callee := Callee.value (Operand.func 82), args := #[Operand.tmp 48, Operand.tmp 49, Operand.tmp 54, 
        go_simp
        refine (HDC.out _ hR.out.1.drew).mono ?_
        rintro e w5 ⟨rfl, hb5⟩
        show K _ _
        have H5 := Lib.hid ((Below.refl wr.heap.size wr).drew.trans (hb5.mono (Nat.le_refl _)))
        clear hb5
        have hS5 : w5.cell? (ad.add i) = some (.int .i64 y) := (hR.out.2.1.below H5.out).at_one HNX.out.2
        have hS10 := hS5
        refine hK _ _ (pend_on hS5 (pend_off (by kernel_rfl) pend_nil)) (fun hq => ?_)
        clear hp hK K; have hp := hq; clear hq
        try simp only [Act.put, List.setIfInBounds_toArray, List.set_cons_zero, List.set_cons_succ]
        refine wpAnyR_take (i := 12) (oi := ⟨some 9, _, _, _, _, _⟩) (v := ?_) rfl (by kernel_rfl) (by kernel_rfl) (by kernel_rfl) (fun _ _ _ h => h) hp (.inl ⟨by rfl, fun w _ => ?_⟩) (fun hq => ?_)
        rotate_left
        · go_simp
          with_reducible rfl
        clear hp; have hp := hq; clear hq
        try simp only [Act.put, List.setIfInBounds_toArray, List.set_cons_zero, List.set_cons_succ]
        refine wpAnyR_done (by kernel_rfl) ?_ _
        clear hp
        all_goals
          go_wp2
          go_meet
          exact ⟨rfl, Lib.hid ⟨hR.out.1.trans (H5.out.mono hR.out.1.size), hR.out.2.1.below H5.out, own_below hR.out.2.2.1 H5.out, Nat.le_trans hR.out.2.2.2.2.2 H5.out.size⟩⟩
      case rest =>
      obtain ⟨rfl, H6⟩ := hcut
      obtain ⟨w6, rfl⟩ : ∃ w6 : World, w6 = wc := ⟨_, rfl⟩
      apply_assumption
      clear hcy
      cases V
      case false =>
        have HT := Lib.hid (show Pe.turns l p y = false from HT0.out)
        go_wp2
        go_roundg (gk - 1)
        case measure => omega
        case rel => exact ⟨i + 1, m', r, A2, c2, rfl, by go_num, by omega, by omega, Lib.hid ⟨H6.out.1, H6.out.2.1, H6.out.2.2.1, hR.out.2.2.2.1, by rw [HNX.out.1, HT.out]; simp, H6.out.2.2.2⟩⟩
      have HT := Lib.hid (show Pe.turns l p y = true from HT0.out)
      obtain ⟨y2, ad2, hy2, had, hcy⟩ := H6.out.2.1.one hgo
      obtain rfl : ad = ad2 := by injection had
      rw [HNX.out.2] at hy2
      injection hy2 with hy2
      subst hy2
      clear had
      go_wp2_with (at_builtin; refine wpList_append_lies _ rfl _ _ 42 rfl w3.heap.size 3 i0 _ 1 8 Tryz.underlying42 HI0.out.1 HI0.out.2.1 HI0.out.2.2.1 HI0.out.2.2.2 (by rfl) (by decide) (.slice A2 m' c2) m' (nRow r) rfl (own_below H6.out.2.2.1 ((Below.refl _ w6).alloc (Nat.le_refl _) _)) ⟨w6.heap.size, 0, none⟩ 1 1 [.int .i64 y] rfl rfl (World.news_of_block (cs := #[.int .i64 y]) (t := 3) (fr := (0, 0)) (heap_alloc_new w6 _)) ?o1 (by decide) ?o2 ?o3 ?o4 _ rfl ?_)
      case o1 => simp [Value.oneCell']
      case o2 => simp only [maxLen]; omega
      case o3 => omega
      case o4 => have := H6.out.2.2.2; (try simp); omega
      intro gn cn W2 hown hgr _ hlt
      have hba : Below w6.heap.size w6 (w6.alloc (.cells #[.int .i64 y] 3)) := (Below.refl _ w6).alloc (Nat.le_refl _) _
      have HA := Lib.hid (And.intro ((H6.out.1.alloc H6.out.1.size _).grown hgr (H6.out.1.alloc H6.out.1.size _).size (fun z hz => by have h1 := (H6.out.2.2.1.lt z hz).1; have h2 := H3.out.1.size; omega)) (And.intro ((H6.out.2.1.below hba).grown hgr (fun a2 e2 e3 => by have h1 := (H6.out.2.2.1.lt _ e3.symm).1; have h2 := H3.out.2.2.1 a2 e2; omega)) (And.intro (show W2.ownsRow w3.heap.size 3 1 (.slice (some ⟨gn, 0, none⟩) (m' + 1) cn) (m' + 1) (nRow (r ++ [y])) by rw [nRow_snoc]; exact hown) (Nat.le_trans H6.out.2.2.2 (Nat.le_trans hba.size hgr.size)))))
      clear hown hgr hlt hba hcy
      go_wp2
      go_roundg (gk - 1)
      case measure => omega
      case rel => exact ⟨i + 1, m' + 1, r ++ [y], some ⟨gn, 0, none⟩, cn, rfl, by go_num, by omega, by omega, Lib.hid ⟨HA.out.1, HA.out.2.1, HA.out.2.2.1, by simp; exact hR.out.2.2.2.1, by rw [HNX.out.1, HT.out]; simp, HA.out.2.2.2⟩⟩

end Go.Proofs.YtnphlekailodkaaGreatDoor

namespace Go.Proofs.YtnphlekailodkaaGreatDoor
open Go.RowKit

set_option maxRecDepth 1000000 in
set_option maxHeartbeats 16000000 in
theorem changes_law (A : Option Addr) (n c : Nat) (l : List Pe.Ent) (p : Int) (w : World) (h : EntsAt w A n l) (hL : Laid w) :
    Calls Tryz.prog 11 #[.slice A n c, .int .i64 p] w (Law w) := by
  have H := Lib.hid (And.intro h hL)
  clear h hL
  have hfe := fun w0 => Few_calls A n c w0
  have HFE := Lib.hid hfe
  clear hfe
  go_enter Tryz.func11, Tryz.ntmps11
  by_cases hfew : n ≤ 60
  case neg =>
    have d1 : decide (n ≤ 60) = false := by simpa using hfew
    have HD := Lib.hid d1
    clear d1 hfew
    go_wp2_with fail
    refine (HFE.out w).mono ?_
    rintro e w2 ⟨rfl, rfl⟩
    rw [HD.out]
    dsimp only
    go_wp2_with fail
    refine (alive_calls w2 H.out.2).mono ?_
    rintro e wy ⟨rfl, hby⟩
    have HY := Lib.hid hby
    clear hby
    dsimp only
    go_wp2
    go_ret
    exact ⟨rfl, HY.out⟩
  have d1 : decide (n ≤ 60) = true := by simpa using hfew
  have HD := Lib.hid d1
  have hn : n ≤ 50000 := by omega
  clear d1
  have h1 := fun w0 (hb : Below w.heap.size w w0) => Changes_calls A n c l p w0 (H.out.1.below hb) hn
  have h2 := fun w0 (hb : Below w.heap.size w w0) => rChanges_calls A n c l p w0 (H.out.1.below hb) hn
  have hcl := Pe.changes_length l p
  have hln := H.out.1.len
  obtain ⟨cs, hcs⟩ : ∃ cs, cs = Pe.changes l p := ⟨_, rfl⟩
  rw [← hcs] at h1 h2 hcl
  obtain ⟨cn, hcn⟩ : ∃ cn, cn = cs.length := ⟨_, rfl⟩
  rw [← hcn] at h1 h2 hcl
  have hcm : cn ≤ 1000000 := by omega
  have HC := Lib.hid (And.intro h1 (And.intro h2 hcn))
  clear h1 h2 hcl hln hcs hcn
  go_wp2_with fail
  refine (HFE.out w).mono ?_
  rintro e w2 ⟨rfl, rfl⟩
  rw [HD.out]
  dsimp only
  go_wp2_with fail
  refine (alive_calls w2 H.out.2).mono ?_
  rintro e w3 ⟨rfl, hb3⟩
  have H3 := Lib.hid hb3
  clear hb3
  dsimp only
  go_wp2_with fail
  refine (HC.out.1 _ H3.out).mono ?_
  rintro e w4 ⟨v, rfl, hown, hb⟩
  obtain ⟨A4, c4, rfl, hN⟩ := own_nums hown HC.out.2.2
  have H4 := Lib.hid (And.intro (H3.out.trans (hb.mono H3.out.size)) hN)
  clear hb hown hN
  dsimp only
  go_wp2_with fail
  refine (HC.out.2.1 _ H4.out.1).mono ?_
  rintro e w5 ⟨v, rfl, hown, hb⟩
  obtain ⟨A5, c5, rfl, hN⟩ := own_nums hown HC.out.2.2
  have H5 := Lib.hid (And.intro (H4.out.1.trans (hb.mono H4.out.1.size)) (And.intro (H4.out.2.below hb) hN))
  clear hb hown hN
  dsimp only
  have hs1 := rSameInts_calls A4 A5 cn c4 cn c5 cs cs w5 H5.out.2.1 H5.out.2.2 hcm
  rw [decide_eq_true rfl] at hs1
  have HS := Lib.hid hs1
  clear hs1
  go_wp2_with fail
  refine HS.out.mono ?_
  rintro e w6 ⟨rfl, hb⟩
  have H6 := Lib.hid (H5.out.1.trans (hb.mono H5.out.1.size))
  clear hb
  dsimp only
  go_wp2
  go_ret
  exact ⟨rfl, H6.out⟩

end Go.Proofs.YtnphlekailodkaaGreatDoor
