/-
  Follow of the directory: its memory.
-/
import Derived.Test.YtnphlekailodkaaGreatDoorPz
import Derived.Test.YtnphlekailodkaaGreatDoorMc
import Derived.ScopeJumps
import Derived.WalkMore
namespace Go.Proofs.YtnphlekailodkaaGreatDoor
open Go.RowKit Go.Shelf

/-- The cells of a route. -/
def rCells (R : Pe.Route) (v : Value) : Array Value := #[.int .u8 (R.kind : Int), .int .i64 R.fin.1, .int .i64 R.fin.2, v, .int .i64 (R.back : Int)]
theorem infoRoute : (Tryz.prog.info? 34).map (·.size) = some 5 := by kernel_rfl
theorem infoHopN : (Tryz.prog.info? 66).map (fun i => (i.zero, i.size, i.bytes)) = some (some (.agg #[.int .u8 0, .int .i64 0, .int .i64 0, .int .i64 0, .int .i64 0, .int .i64 0]), 6, 48) := by kernel_rfl
/-- The cells of a list of hops. -/
def hRow (l : List Pe.Hop) : List Value := l.flatMap fun h => (hCells h).toList
theorem hRow_snoc (l : List Pe.Hop) (x : Pe.Hop) : hRow (l ++ [x]) = hRow l ++ (hCells x).toList := by simp [hRow]
theorem hRow_len (l : List Pe.Hop) : (hRow l).length = l.length * 6 := by
  induction l with
  | nil => rfl
  | cons x r ih => simp only [hRow, List.flatMap_cons, List.length_append, List.length_cons] at ih ⊢; rw [ih]; simp [hCells]; omega
/-- A route and its error, in memory. -/
def RouteAt (w : World) (base : Nat) (R : Pe.Route × Int) (e : Ending) : Prop := ∃ v, e = .returned (.tuple #[.agg (rCells R.1 v), .int .i64 R.2]) ∧ w.ownsRow base 66 6 v R.1.hops.length (hRow R.1.hops)

/-- The memory of a walk under way: the route's cells are cs, the map keeps L. -/
structure FwB (w : World) (b r : Nat) (cs : Array Value) (at_ : Pe.Pair) (L : List Pe.Pair) (hs : List Pe.Hop) (v : Value) (W : World) : Prop where
  rt : Blk W r 34 cs
  rs : Blk W (b + 1) 34 #[.int .u8 0, .int .i64 0, .int .i64 0, .slice none 0 0, .int .i64 0]
  pt : Blk W (r + 1 + 1) 28 (pCells at_)
  map : CMap W (r + 1) L
  own : W.ownsRow (r + 3) 66 6 v hs.length (hRow hs)
  bel : Below w.heap.size w W
theorem FwB.below {w : World} {b r : Nat} {cs : Array Value} {at_ : Pe.Pair} {L : List Pe.Pair} {hs : List Pe.Hop} {v : Value} {W W' : World} (h : FwB w b r cs at_ L hs v W) (hb : Below W.heap.size W W') : FwB w b r cs at_ L hs v W' :=
  ⟨h.rt.below hb h.rt.lt, h.rs.below hb h.rs.lt, h.pt.below hb h.pt.lt, h.map.below hb, own_below h.own hb, h.bel.trans (hb.mono h.bel.size)⟩
theorem FwB.drew {w : World} {b r : Nat} {cs : Array Value} {at_ : Pe.Pair} {L : List Pe.Pair} {hs : List Pe.Hop} {v : Value} {W : World} (h : FwB w b r cs at_ L hs v W) : FwB w b r cs at_ L hs v W.drew :=
  ⟨h.rt, h.rs, h.pt, h.map, own_below h.own (Below.refl _ W).drew, h.bel.drew⟩
theorem FwB.ins {w : World} {b r : Nat} {cs : Array Value} {at_ : Pe.Pair} {L L' : List Pe.Pair} {hs : List Pe.Hop} {v : Value} {W W' : World} (h : FwB w b r cs at_ L hs v W) (hg : W.grownBy W' (some (r + 1))) (hm : CMap W' (r + 1) L') (hr : w.heap.size ≤ r + 1) : FwB w b r cs at_ L' hs v W' := by
  have hx : ∀ q, some (r + 1) = some q → w.heap.size ≤ q ∧ ∃ o : Obj, W.heap[q]? = some o ∧ o.isCells = false := by
    rintro q hq
    obtain rfl : r + 1 = q := by simpa using hq
    exact ⟨hr, _, h.map, rfl⟩
  exact ⟨h.rt.own hg hx, h.rs.own hg hx, h.pt.own hg hx, hm, own_own h.own hg hx, below_own h.bel (Nat.le_refl _) (Nat.le_refl _) hg hx⟩

theorem own_low {W : World} {base : Nat} {e : TypeId} {size n : Nat} {v : Value} {xs : List Value} (h : W.ownsRow base e size v n xs) {b : Nat} (hb : b < base) : some b ≠ v.ownBlock := fun e1 => by
  have := (h.lt b e1.symm).1
  omega
theorem own_mono {W : World} {base base' : Nat} {e : TypeId} {size n : Nat} {v : Value} {xs : List Value} (h : W.ownsRow base e size v n xs) (hb : base' ≤ base) : W.ownsRow base' e size v n xs := by
  refine ⟨h.1, h.2.imp id ?_⟩
  rintro ⟨g, cap, cur, h1, h2, h3⟩
  exact ⟨g, cap, cur, h1, Nat.le_trans hb h2, h3⟩
theorem own_far {W : World} {base : Nat} {e : TypeId} {size n : Nat} {v : Value} {xs : List Value} (h : W.ownsRow base e size v n xs) {p : Addr} (hp : p.block < base) (u : Value) : (W.setCell p u).ownsRow base e size v n xs := by
  refine ⟨h.1, h.2.imp id ?_⟩
  rintro ⟨g, cap, cur, h1, h2, h3, h4⟩
  exact ⟨g, cap, cur, h1, h2, Blk.far (t := e) h3 (by omega) u, h4⟩
theorem CMap.far {w : World} {r : Nat} {L : List Pe.Pair} (h : CMap w r L) {p : Addr} (hp : r ≠ p.block) (u : Value) : CMap (w.setCell p u) r L := (heap_setCell_other w p r u hp).trans h
theorem FwB.set {w : World} {b r : Nat} {cs : Array Value} {at_ : Pe.Pair} {L : List Pe.Pair} {hs : List Pe.Hop} {v : Value} {W : World} (h : FwB w b r cs at_ L hs v W) (hr : r = b + 2) (hw : w.heap.size = b) (i : Nat) (u : Value) : FwB w b r (cs.setIfInBounds i u) at_ L hs v (W.setCell ⟨r, i, none⟩ u) :=
  ⟨h.rt.put i u, h.rs.far (by simp; omega) u, h.pt.far (by simp; omega) u, h.map.far (by simp) u, own_far h.own (by simp) u, h.bel.setCell (by simp; omega) u⟩
theorem FwB.fin {w : World} {b r : Nat} {cs : Array Value} {at_ : Pe.Pair} {L : List Pe.Pair} {hs : List Pe.Hop} {v : Value} {W : World} (h : FwB w b r cs at_ L hs v W) (hr : r = b + 2) (hw : w.heap.size = b) (u0 u1 u2 u3 u4 : Value) :
    Blk (((((W.setCell ⟨b + 1, 0, none⟩ u0).setCell ⟨b + 1, 1, none⟩ u1).setCell ⟨b + 1, 2, none⟩ u2).setCell ⟨b + 1, 3, none⟩ u3).setCell ⟨b + 1, 4, none⟩ u4) (b + 1) 34 #[u0, u1, u2, u3, u4] ∧
    (((((W.setCell ⟨b + 1, 0, none⟩ u0).setCell ⟨b + 1, 1, none⟩ u1).setCell ⟨b + 1, 2, none⟩ u2).setCell ⟨b + 1, 3, none⟩ u3).setCell ⟨b + 1, 4, none⟩ u4).ownsRow w.heap.size 66 6 v hs.length (hRow hs) ∧
    Below w.heap.size w (((((W.setCell ⟨b + 1, 0, none⟩ u0).setCell ⟨b + 1, 1, none⟩ u1).setCell ⟨b + 1, 2, none⟩ u2).setCell ⟨b + 1, 3, none⟩ u3).setCell ⟨b + 1, 4, none⟩ u4) :=
  ⟨((((h.rs.put 0 u0).put 1 u1).put 2 u2).put 3 u3).put 4 u4,
   own_mono (own_far (own_far (own_far (own_far (own_far h.own (by simp; omega) u0) (by simp; omega) u1) (by simp; omega) u2) (by simp; omega) u3) (by simp; omega) u4) (by omega),
   ((((h.bel.setCell (by simp; omega) u0).setCell (by simp; omega) u1).setCell (by simp; omega) u2).setCell (by simp; omega) u3).setCell (by simp; omega) u4⟩

theorem Pe.step_how (l : List Pe.Ent) (c : Pe.Pair) (d : Int) : (Pe.step l c d).2 = 0 ∨ (Pe.step l c d).2 = 1 ∨ (Pe.step l c d).2 = 2 := by
  unfold Pe.step
  repeat' split
  all_goals simp
theorem seen_num {l : List Pe.Ent} {at_ : Pe.Pair} {d : Int} (hs : List Pe.Hop) (c : Pe.Pair) (h2 : (Pe.step l at_ d).2 = 2) : numOf c (hs.map (·.frm) ++ [at_]) 0 = Pe.seenAt (hs ++ [(Pe.step l at_ d).1]) c := by
  have hf := (Pe.step_target h2).2
  have e : hs.map (·.frm) ++ [at_] = (hs ++ [(Pe.step l at_ d).1]).map (·.frm) := by simp [hf]
  rw [e, numOf_eq, List.findIdx?_map]
  unfold Pe.seenAt
  simp only [Nat.add_zero, Option.map_id_fun', id]
  rfl
theorem FwB.app {w : World} {b r : Nat} {cs : Array Value} {at_ : Pe.Pair} {L : List Pe.Pair} {hs hs' : List Pe.Hop} {v v' : Value} {W W' : World} (h : FwB w b r cs at_ L hs v W) (hr : r = b + 2) (hw : w.heap.size = b) (hg : W.grownBy W' v.ownBlock) (ho : W'.ownsRow (r + 3) 66 6 v' hs'.length (hRow hs')) : FwB w b r cs at_ L hs' v' W' :=
  ⟨h.rt.grown hg (own_low h.own (by omega)), h.rs.grown hg (own_low h.own (by omega)), h.pt.grown hg (own_low h.own (by omega)), (hg.block (r + 1) h.map.lt (own_low h.own (by omega))).trans h.map, ho,
    h.bel.grown hg h.bel.size (fun k hk => Nat.le_of_not_lt fun hlt => own_low h.own (b := k) (by omega) hk.symm)⟩
theorem FwB.mv {w : World} {b r : Nat} {cs : Array Value} {at_ : Pe.Pair} {L : List Pe.Pair} {hs : List Pe.Hop} {v : Value} {W : World} (h : FwB w b r cs at_ L hs v W) (hr : r = b + 2) (hw : w.heap.size = b) (c : Pe.Pair) : FwB w b r cs c L hs v ((W.setCell ⟨r + 1 + 1, 0, none⟩ (.int .i64 c.1)).setCell ⟨r + 1 + 1, 1, none⟩ (.int .i64 c.2)) :=
  ⟨(h.rt.far (by simp; omega) _).far (by simp; omega) _, (h.rs.far (by simp; omega) _).far (by simp; omega) _, (h.pt.put 0 _).put 1 _, (h.map.far (by simp) _).far (by simp) _, own_far (own_far h.own (by simp) _) (by simp) _, (h.bel.setCell (by simp; omega) _).setCell (by simp; omega) _⟩

/-- A route on its way, in memory. -/
structure FwI (l : List Pe.Ent) (s d : Int) (cd : Pe.Pair) (F : Pe.Route × Int) (w : World) (b r : Nat) (at_ : Pe.Pair) (hs : List Pe.Hop) (v : Value) (W : World) : Prop where
  mem : FwB w b r #[.int .u8 0, .int .i64 0, .int .i64 0, v, .int .i64 0] at_ (hs.map (·.frm)) hs v W
  way : Pe.OnWay l d cd at_ hs
  spec : ∃ q, q + hs.length = l.length + 2 ∧ F = (Pe.followFrom l s d q at_ hs, 0)
theorem slots129 (tm : Array Value) (a0 a1 a2 a3 a4 a5 a6 a7 a8 a9 a10 a11 a12 : Value) (h : tm.size = 129) (hd : tm.toList.take 13 = [a0, a1, a2, a3, a4, a5, a6, a7, a8, a9, a10, a11, a12]) : ∃ u : Nat → Value, tm = #[a0, a1, a2, a3, a4, a5, a6, a7, a8, a9, a10, a11, a12, u 13, u 14, u 15, u 16, u 17, u 18, u 19, u 20, u 21, u 22, u 23, u 24, u 25, u 26, u 27, u 28, u 29, u 30, u 31, u 32, u 33, u 34, u 35, u 36, u 37, u 38, u 39, u 40, u 41, u 42, u 43, u 44, u 45, u 46, u 47, u 48, u 49, u 50, u 51, u 52, u 53, u 54, u 55, u 56, u 57, u 58, u 59, u 60, u 61, u 62, u 63, u 64, u 65, u 66, u 67, u 68, u 69, u 70, u 71, u 72, u 73, u 74, u 75, u 76, u 77, u 78, u 79, u 80, u 81, u 82, u 83, u 84, u 85, u 86, u 87, u 88, u 89, u 90, u 91, u 92, u 93, u 94, u 95, u 96, u 97, u 98, u 99, u 100, u 101, u 102, u 103, u 104, u 105, u 106, u 107, u 108, u 109, u 110, u 111, u 112, u 113, u 114, u 115, u 116, u 117, u 118, u 119, u 120, u 121, u 122, u 123, u 124, u 125, u 126, u 127, u 128] := by
  obtain ⟨f, hf⟩ : ∃ f : Nat → Value, f = fun k => tm.getD k undef := ⟨_, rfl⟩
  have e : tm.toList = (List.range 129).map f := by
    apply List.ext_getElem
    · simp [h]
    · intro k h1 h2
      have h3 : k < tm.size := by simpa using h1
      rw [hf]
      simp [Array.getD, h3]
  rw [e] at hd
  have hd2 : [f 0, f 1, f 2, f 3, f 4, f 5, f 6, f 7, f 8, f 9, f 10, f 11, f 12] = [a0, a1, a2, a3, a4, a5, a6, a7, a8, a9, a10, a11, a12] := hd
  simp only [List.cons.injEq, and_true] at hd2
  obtain ⟨rfl, rfl, rfl, rfl, rfl, rfl, rfl, rfl, rfl, rfl, rfl, rfl, rfl⟩ := hd2
  refine ⟨f, ?_⟩
  rw [← Array.toArray_toList (xs := tm), e]
  rfl
/-- What holds at the label. -/
def FwJ (A : Option Addr) (n c : Nat) (l : List Pe.Ent) (s d : Int) (cd : Pe.Pair) (F : Pe.Route × Int) (w : World) (b r : Nat) (a : Act) (W : World) : Prop :=
  ∃ (at_ : Pe.Pair) (hs : List Pe.Hop) (v : Value), a.tmps.size = 129 ∧ a.defers = [] ∧ a.tmps.toList.take 13 = [.slice A n c, .agg #[.int .i64 cd.1, .int .i64 cd.2], .int .i64 s, .int .i64 d, undef, .pointer (some ⟨b, 0, none⟩), undef, undef, .pointer (some ⟨b + 1, 0, none⟩), .int .i64 0, .pointer (some ⟨r, 0, none⟩), .map (some (r + 1)), .pointer (some ⟨r + 1 + 1, 0, none⟩)] ∧ FwI l s d cd F w b r at_ hs v W
/-- How many hops are to come at most. -/
def fwM (n r : Nat) (W : World) : Nat := match W.heap[r + 1]? with
  | some (.map es _) => n + 2 - es.size
  | _ => 0
theorem fwM_eq {n r : Nat} {W : World} {L : List Pe.Pair} (h : CMap W (r + 1) L) : fwM n r W = n + 2 - L.length := by
  unfold fwM
  rw [show W.heap[r + 1]? = _ from h]
  simp [cEs]
theorem wp_scope_jumps2 {P : Program} {a : Act} {w : World} {Q : Exit → Act → World → Prop} {c rest : Code} (l : Nat) (J : Act → World → Prop) (μ : Act → World → Nat) (hf : findLabel c l = some (.seq .skip rest))
    (first : (∀ a w, J a w → rest.wp P (Exit.jump l J Q) a w) → c.wp P (Exit.jump l J Q) a w)
    (pass : ∀ a w, J a w → rest.wp P (Exit.jump l (fun a' w' => J a' w' ∧ μ a' w' < μ a w) Q) a w) : (Code.scope c).wp P Q a w :=
  wp_scope_jumps l J μ hf (first (fun a w h => wp_mono (pass a w h) (fun e a w he => by
    cases e with
    | goto l' => exact ⟨he.1, he.2.1⟩
    | normal => exact he
    | exit id => exact he
    | ret => exact he
    | panic ch => exact he
    | outgrown => exact he))) (fun a w h => wp_seq (wp_skip (pass a w h)))

end Go.Proofs.YtnphlekailodkaaGreatDoor
