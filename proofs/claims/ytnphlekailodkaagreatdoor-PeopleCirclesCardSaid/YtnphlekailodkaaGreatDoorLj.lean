/-
  Routes and circles, in plain Lean: a route that ends in a loop goes through a circle; following from a pair of a circle goes round it. Whether a route goes through a circle: the law's own word, walked. Routes loop through the circles of Loops, and each circle is a loop: the law's walk.
-/
import Derived.Test.YtnphlekailodkaaGreatDoorRl
import Derived.Test.YtnphlekailodkaaGreatDoorHp
import Derived.Test.YtnphlekailodkaaGreatDoorLw
import Derived.Deep.QuietTactic
import Derived.BigQuiet
import Derived.Test.YtnphlekailodkaaGreatDoorLz
import Derived.Test.YtnphlekailodkaaGreatDoorFw
namespace Go.Proofs.YtnphlekailodkaaGreatDoor
namespace Pe
open Cg

theorem refuses_none {l : List Ent} {c : Pair} {s d : Int} (h : ∀ x ∈ l, x.kind ≠ 7) : refuses l c s d = false := by
  have : onDay l 7 d = [] := by
    unfold onDay
    rw [List.filter_eq_nil_iff]
    intro x hx
    simp only [Bool.and_eq_true, beq_iff_eq, not_and]
    exact fun e => absurd e (h x hx)
  unfold refuses
  rw [this]
  simp
theorem step_stuck {l : List Ent} {c : Pair} {d : Int} (h : dead l c.1 d = true ∧ heir? l c.1 d = none) : (step l c d).2 = 0 := by
  unfold step
  rw [if_pos h.1, h.2]
theorem seenAt_some {hs : List Hop} {c : Pair} {i : Nat} (h : seenAt hs c = some i) : (hs.map (·.frm))[i]? = some c := by
  unfold seenAt at h
  obtain ⟨hi, hp, _⟩ := List.findIdx?_eq_some_iff_getElem.1 h
  rw [List.getElem?_map, List.getElem?_eq_getElem hi]
  simpa using hp
/-- What following finds, if it ends in a loop. -/
def Loopy (l : List Ent) (d : Int) (R : Route) : Prop := R.back < R.hops.length ∧ IsC (nextP l d) ((R.hops.map (·.frm)).drop R.back)
theorem follow_loop {l : List Ent} {s d : Int} : ∀ {n : Nat} {at_ : Pair} {hs : List Hop}, OnW (nextP l d) [] (hs.map (·.frm)) at_ → at_ ∉ hs.map (·.frm) → (followFrom l s d n at_ hs).kind = 6 → Loopy l d (followFrom l s d n at_ hs)
  | 0, at_, hs, _, _, h => by simp [followFrom] at h
  | n + 1, at_, hs, hw, hn, h => by
    unfold followFrom at h ⊢
    by_cases h1 : dead l at_.1 d = true ∧ heir? l at_.1 d = none
    · rw [if_pos h1] at h; simp at h
    · rw [if_neg h1] at h ⊢
      by_cases h2 : refuses l at_ s d = true
      · rw [if_pos h2] at h; simp at h
      · rw [if_neg h2] at h ⊢
        by_cases h3 : (step l at_ d).2 = 1
        · rw [if_pos h3] at h; simp at h
        · rw [if_neg h3] at h ⊢
          by_cases h4 : (step l at_ d).2 = 2
          · rw [if_pos h4] at h ⊢
            have hf := (step_target h4).2
            have e : (hs ++ [(step l at_ d).1]).map (·.frm) = hs.map (·.frm) ++ [at_] := by simp [hf]
            have hx : nextP l d at_ = some (step l at_ d).1.to := nextP_some.2 ⟨h4, rfl⟩
            have hn2 : at_ ∉ [] ++ hs.map (·.frm) := by simpa using hn
            cases hs2 : seenAt (hs ++ [(step l at_ d).1]) (step l at_ d).1.to with
            | some i =>
              have hi := seenAt_some hs2
              refine ⟨?_, ?_⟩
              · have := (List.getElem?_eq_some_iff.1 hi).1
                simpa using this
              · show IsC _ (((hs ++ [(step l at_ d).1]).map (·.frm)).drop i)
                rw [e] at hi ⊢
                exact hw.circ hn2 hx hi
            | none =>
              rw [hs2] at h
              have hs3 := seenAt_none.1 hs2
              refine follow_loop ?_ hs3 h
              rw [e]
              exact hw.on hn2 hx
          · rw [if_neg h4] at h
            exfalso
            revert h
            simp only
            split <;> simp
theorem follow_round {l : List Ent} {s d : Int} {p : Pair} {r : List Pair} (hc : IsC (nextP l d) (p :: r)) (hr : ∀ x ∈ l, x.kind ≠ 7) : ∀ {n : Nat} {at_ : Pair} {t : List Pair} {hs : List Hop}, p :: r = hs.map (·.frm) ++ at_ :: t → t.length + 1 ≤ n →
    (followFrom l s d n at_ hs).kind = 6 ∧ (followFrom l s d n at_ hs).back = 0 ∧ (followFrom l s d n at_ hs).hops.map (·.frm) = p :: r
  | 0, at_, t, hs, _, h => by omega
  | n + 1, at_, t, hs, e, h => by
    have hpath : Path (nextP l d) (hs.map (·.frm) ++ at_ :: (t ++ [p])) := by
      have h1 : Path (nextP l d) ((p :: r) ++ [p]) := hc.2
      rw [e] at h1
      simpa using h1
    have hpr := hpath.right
    have hnx : ∃ b, nextP l d at_ = some b ∧ (t = [] ∧ b = p ∨ ∃ t', t = b :: t') := by
      cases t with
      | nil => exact ⟨p, hpr.1, .inl ⟨rfl, rfl⟩⟩
      | cons b t' => exact ⟨b, hpr.1, .inr ⟨t', rfl⟩⟩
    obtain ⟨b, hb, ht⟩ := hnx
    obtain ⟨h4, hto⟩ := nextP_some.1 hb
    have hf := (step_target h4).2
    have e2 : (hs ++ [(step l at_ d).1]).map (·.frm) = hs.map (·.frm) ++ [at_] := by simp [hf]
    unfold followFrom
    rw [if_neg (fun h1 => by rw [step_stuck h1] at h4; cases h4), if_neg (by rw [refuses_none hr]; simp), if_neg (by rw [h4]; decide), if_pos h4, hto]
    rcases ht with ⟨rfl, rfl⟩ | ⟨t', rfl⟩
    · have hs0 : seenAt (hs ++ [(step l at_ d).1]) b = some 0 := by
        have h0 : ((hs ++ [(step l at_ d).1]).map (·.frm))[0]? = some b := by rw [e2, ← e]; rfl
        unfold seenAt
        rw [List.findIdx?_eq_some_iff_getElem]
        obtain ⟨hl, he⟩ := List.getElem?_eq_some_iff.1 h0
        exact ⟨by simp, by rw [List.getElem_map] at he; simpa using he, by simp⟩
      rw [hs0]
      exact ⟨rfl, rfl, by rw [e2, e]⟩
    · have hs0 : seenAt (hs ++ [(step l at_ d).1]) b = none := by
        rw [seenAt_none, e2]
        have hnd : (hs.map (·.frm) ++ at_ :: b :: t').Nodup := by rw [← e]; exact hc.1
        have h5 : (hs.map (·.frm) ++ [at_] ++ b :: t').Nodup := by simpa using hnd
        exact fun hm => (List.nodup_append.1 h5).2.2 b hm b (by simp) rfl
      rw [hs0]
      exact follow_round hc hr (by rw [e2, List.append_assoc]; exact e) (by simp at h ⊢; omega)
/-- A list has an element that none is before. -/
theorem least_of : ∀ {x : List Pair}, x ≠ [] → ∃ (k : Nat) (h : k < x.length), ∀ z ∈ x, ¬ ltP z x[k]
  | [], h => absurd rfl h
  | [a], _ => ⟨0, by simp, by simp [ltP_irr]⟩
  | a :: b :: r, _ => by
    obtain ⟨k, hk, h⟩ := least_of (x := b :: r) (by simp)
    by_cases ha : ltP a (b :: r)[k]
    · refine ⟨0, by simp, fun z hz => ?_⟩
      rcases List.mem_cons.1 hz with rfl | hz
      · exact ltP_irr _
      · exact fun hlt => h z hz (ltP_tr _ _ _ hlt ha)
    · refine ⟨k + 1, by simpa using hk, fun z hz => ?_⟩
      rcases List.mem_cons.1 hz with rfl | hz
      · exact ha
      · exact h z hz
/-- Each circle is in the list of all circles, turned. -/
theorem circ_in {l : List Ent} {d : Int} {C : List Pair} (h : IsC (nextP l d) C) : ∃ X ∈ loopsR l d, ∃ k, k < X.length ∧ C = X.drop k ++ X.take k := by
  have hne : C ≠ [] := fun e => by rw [e] at h; exact h
  obtain ⟨k0, hk0, hl⟩ := least_of hne
  obtain ⟨h1, h2, h3⟩ := turned_least h hk0 hl
  refine ⟨_, (mem_loopsR l d _).2 ⟨h1, h2⟩, ?_⟩
  generalize C.drop k0 ++ C.take k0 = X at h1 h3
  cases C with
  | nil => exact h.elim
  | cons c r =>
    obtain ⟨p, s, rfl, h4⟩ := h1.at ((h3 c).2 (by simp))
    refine ⟨p.length, by simp, ?_⟩
    rw [List.drop_left, List.take_left]
    exact h.same h4
/-- Some pairs are those of a list from its k-th on, round. -/
def rotB (fr x : List Pair) (k : Nat) : Bool := decide (x.length = fr.length ∧ ∀ j, j < fr.length → fr[j]? = x[(k + j) % fr.length]?)
def circB (fr : List Pair) (LL : List (List Pair)) : Bool := LL.any fun x => (List.range x.length).any fun k => rotB fr x k
theorem rotB_turn {C X : List Pair} {k : Nat} (hk : k < X.length) (h : C = X.drop k ++ X.take k) : rotB C X k = true := by
  have hl : X.length = C.length := by
    rw [h]
    simp only [List.length_append, List.length_drop, List.length_take]
    omega
  unfold rotB
  rw [decide_eq_true_eq]
  refine ⟨hl, fun j hj => ?_⟩
  rw [← hl] at hj ⊢
  rw [h]
  by_cases hkj : k + j < X.length
  · rw [List.getElem?_append_left (by rw [List.length_drop]; omega), List.getElem?_drop, Nat.mod_eq_of_lt hkj]
  · rw [List.getElem?_append_right (by rw [List.length_drop]; omega), List.length_drop, List.getElem?_take, if_pos (by omega)]
    congr 1
    rw [Nat.mod_eq_sub_mod (by omega), Nat.mod_eq_of_lt (by omega)]
    omega
theorem circB_turn {C X : List Pair} {LL : List (List Pair)} {k : Nat} (hX : X ∈ LL) (hk : k < X.length) (h : C = X.drop k ++ X.take k) : circB C LL = true := by
  unfold circB
  rw [List.any_eq_true]
  refine ⟨X, hX, ?_⟩
  rw [List.any_eq_true]
  exact ⟨k, by simpa using hk, rotB_turn hk h⟩
theorem from_most {l : List Ent} {s d : Int} {c : Pair} : ∀ (k : Nat) (at_ : Pair) (hs : List Hop), (followFrom l s d k at_ hs).hops.length ≤ hs.length + k
  | 0, at_, hs => by simp [followFrom]
  | k + 1, at_, hs => by
    unfold followFrom
    repeat' split
    all_goals
      first
        | (have := from_most (l := l) (s := s) (d := d) (c := c) k (step l at_ d).1.to (hs ++ [(step l at_ d).1]); simp at this; omega)
        | (simp; omega)
        | simp
theorem follow_most (l : List Ent) (c : Pair) (s d : Int) : (follow l c s d).1.hops.length ≤ l.length + 2 := by
  unfold follow
  split
  · have := from_most (l := l) (s := s) (d := d) (c := c) (l.length + 2) c []
    simpa using this
  · simp [noRoute]
theorem follow_kind {l : List Ent} {c : Pair} {s d : Int} (h : (follow l c s d).1.kind = 6) : Loopy l d (follow l c s d).1 := by
  unfold follow at h ⊢
  split at h
  · rename_i ha
    rw [if_pos ha]
    exact follow_loop (hs := []) ⟨by simp, by simp [Path]⟩ (by simp) h
  · simp [noRoute] at h
/-- A route that ends in a loop goes through a circle of the list. -/
theorem loop_circled {l : List Ent} {c : Pair} {s d : Int} (h : (follow l c s d).1.kind = 6) : (follow l c s d).1.back < (follow l c s d).1.hops.length ∧ circB (((follow l c s d).1.hops.drop (follow l c s d).1.back).map (·.frm)) (loopsR l d) = true := by
  obtain ⟨h1, h2⟩ := follow_kind h
  refine ⟨h1, ?_⟩
  rw [List.map_drop]
  obtain ⟨X, hX, k, hk, e⟩ := circ_in h2
  exact circB_turn hX hk e
/-- Following from a pair of a circle goes round it. -/
theorem circle_followed {l : List Ent} {p : Pair} {s d : Int} {x : List Pair} (hr : ∀ x ∈ l, x.kind ≠ 7) (hx : x ∈ loopsR l d) (hp : p ∈ x) (ha : (follow l p s d).2 = 0) : (follow l p s d).1.kind = 6 ∧ (follow l p s d).1.back = 0 ∧ (follow l p s d).1.hops.length = x.length ∧ circB ((follow l p s d).1.hops.map (·.frm)) [x] = true := by
  obtain ⟨hc, _⟩ := (mem_loopsR l d x).1 hx
  have hlen := circ_length hc
  obtain ⟨u, t, rfl, h4⟩ := hc.at hp
  unfold follow at ha ⊢
  split at ha
  · rename_i hf
    rw [if_pos hf]
    obtain ⟨h5, h6, h7⟩ := follow_round (s := s) h4 hr (n := l.length + 2) (at_ := p) (t := t ++ u) (hs := []) rfl (by simp at hlen ⊢; omega)
    refine ⟨h5, h6, ?_, ?_⟩
    · have := congrArg List.length h7
      simp at this ⊢
      omega
    · rw [h7]
      exact circB_turn (k := u.length) (List.mem_singleton.2 rfl) (by simp) (by rw [List.drop_left, List.take_left]; rfl)
  · cases ha

end Pe
end Go.Proofs.YtnphlekailodkaaGreatDoor

namespace Go.Proofs.YtnphlekailodkaaGreatDoor
open Go.RowKit

theorem Pe.any_false_snoc {α : Type} {l : List α} {p : α → Bool} {i : Nat} {x : α} (hx : l[i]? = some x) (h : (l.take i).any p = false) (h2 : p x = false) : (l.take (i + 1)).any p = false := by
  rw [List.take_add_one, hx, List.any_append, h]
  simp [h2]
theorem Pe.any_true_at {α : Type} {l : List α} {p : α → Bool} {i : Nat} {x : α} (hx : l[i]? = some x) (h2 : p x = true) : l.any p = true := List.any_eq_true.2 ⟨x, List.mem_of_getElem? hx, h2⟩
theorem Pe.range_snoc {p : Nat → Bool} {k : Nat} (h : (List.range k).any p = false) (h2 : p k = false) : (List.range (k + 1)).any p = false := by
  rw [List.range_succ, List.any_append, h]
  simp [h2]
theorem Pe.range_true {p : Nat → Bool} {k n : Nat} (hk : k < n) (h : p k = true) : (List.range n).any p = true := List.any_eq_true.2 ⟨k, List.mem_range.2 hk, h⟩

set_option maxRecDepth 1000000 in
set_option maxHeartbeats 8000000 in
theorem circled_calls (A : Option Addr) (nh ch : Nat) (R : Pe.Route) (B : Option Addr) (m c : Nat) (LL : List (List Pe.Pair)) (w : World) (hA : HopsAt w A nh R.hops) (hb : R.back ≤ nh) (hLL : RowssAt w B m LL) (hn : nh ≤ 1000000) (hm : m ≤ 1000000) (hx : ∀ x ∈ LL, x.length ≤ 1000000) :
    Calls Tryz.prog 39 #[.agg (rCells R (.slice A nh ch)), .slice B m c] w fun e w' => e = .returned (.bool (Pe.circB ((R.hops.drop R.back).map (·.frm)) LL)) ∧ Below w.heap.size w w' := by
  obtain ⟨V, hV⟩ : ∃ V, V = Pe.circB ((R.hops.drop R.back).map (·.frm)) LL := ⟨_, rfl⟩
  rw [← hV]
  obtain ⟨fr, hfr⟩ : ∃ fr, fr = (R.hops.drop R.back).map (·.frm) := ⟨_, rfl⟩
  rw [← hfr] at hV
  obtain ⟨nf, hnf⟩ : ∃ nf, nf = nh - R.back := ⟨_, rfl⟩
  have hnl : nf = fr.length := by rw [hfr, List.length_map, List.length_drop, ← hA.len]; exact hnf
  have hfg : ∀ j y, (R.hops[R.back + j]? = some y) → fr[j]? = some y.frm := fun j y hy => by
    rw [hfr, List.getElem?_map, List.getElem?_drop, hy]; rfl
  have H := Lib.hid (And.intro hA (And.intro hLL (And.intro hx (And.intro hV (And.intro hnl hfg)))))
  have hsub : (nh : Int) - (R.back : Int) = (nf : Int) := by omega
  have hwr : IntKind.i64.wrap (nf : Int) = (nf : Int) := by simp [IntKind.wrap, IntKind.bits, IntKind.signed]; omega
  have HNF := Lib.hid hnf
  clear hA hLL hx hV hnl hfg hfr hnf
  go_enter Tryz.func39, Tryz.ntmps39
  unfold rCells
  go_upto_region 1 with fail
  obtain ⟨b, hbb⟩ : ∃ b, b = w.heap.size := ⟨_, rfl⟩
  obtain ⟨w1, hw1⟩ : ∃ w1, w1 = w.alloc (.cells #[.int .u8 (R.kind : Int), .int .i64 R.fin.1, .int .i64 R.fin.2, .slice A nh ch, .int .i64 (R.back : Int)] 34) := ⟨_, rfl⟩
  have hB1 : Below w.heap.size w w1 := by rw [hw1]; exact (Below.refl _ w).alloc (Nat.le_refl _) _
  have hc1 : Blk w1 b 34 #[.int .u8 (R.kind : Int), .int .i64 R.fin.1, .int .i64 R.fin.2, .slice A nh ch, .int .i64 (R.back : Int)] := by rw [hw1, hbb]; exact Blk.fresh w _ _
  rw [← hbb, ← hw1]
  have H1 := Lib.hid (And.intro hB1 (And.intro hc1 (H.out.1.below hB1)))
  have k3 : w1.cell? ⟨b, 3, none⟩ = some (.slice A nh ch) := hc1.cell 3
  have k4 : w1.cell? ⟨b, 4, none⟩ = some (.int .i64 (R.back : Int)) := hc1.cell 4
  clear hB1 hc1 hw1 hbb
  go_wp2_with fail
  clear k3 k4 hsub hwr
  go_loopg [19] m (fun q s19 wr => ∃ i : Nat, s19 = .int .i64 (i : Int) ∧ i + q = m ∧ Hid (Below w1.heap.size w1 wr ∧ (LL.take i).any (fun x => (List.range x.length).any fun k => Pe.rotB fr x k) = false))
  case atStart => exact ⟨0, by go_num, by omega, Lib.hid ⟨Below.refl _ _, by simp⟩⟩
  case round =>
    obtain ⟨i, rfl, hi, hR⟩ := hrel
    rename World => wo
    by_cases hgo : i < m
    case neg =>
      have hd1 : decide ((i : Int) < (m : Int)) = false := by simp; omega
      go_wp2
      go_ret
      refine ⟨?_, H1.out.1.trans (hR.out.1.mono H1.out.1.size)⟩
      have h1 := hR.out.2
      rw [List.take_of_length_le (by have := H.out.2.1.len; omega)] at h1
      rw [H.out.2.2.2.1]
      unfold Pe.circB
      rw [h1]
      rfl
    have hd1 : decide ((i : Int) < (m : Int)) = true := by simp; omega
    obtain ⟨g, rfl⟩ : ∃ g', gk = g' + 1 := ⟨gk - 1, by omega⟩
    obtain ⟨x, hx⟩ : ∃ x, LL[i]? = some x := ⟨_, List.getElem?_eq_getElem (by have := H.out.2.1.len; omega)⟩
    obtain ⟨ad, Bx, cx, rfl, _, hcx, _, hpx⟩ := (H.out.2.1.below (H1.out.1.trans (hR.out.1.mono H1.out.1.size))).one i x hx
    obtain ⟨nx, hnx⟩ : ∃ nx, nx = x.length := ⟨_, rfl⟩
    rw [← hnx] at hcx hpx
    have hxm : nx ≤ 1000000 := by rw [hnx]; exact H.out.2.2.1 x (List.mem_of_getElem? hx)
    have HX := Lib.hid (And.intro hx (And.intro hnx hpx))
    clear hx hnx hpx
    go_wp2_with fail
    clear hcx
    go_loopg [25] nx (fun q s25 wr2 => ∃ k : Nat, s25 = .int .i64 (k : Int) ∧ k + q = nx ∧ Hid (Below wo.heap.size wo wr2 ∧ (List.range k).any (fun k => Pe.rotB fr x k) = false))
    case atStart => exact ⟨0, by go_num, by omega, Lib.hid ⟨Below.refl _ _, by simp⟩⟩
    case round =>
      obtain ⟨k, rfl, hk, hS⟩ := hrel
      rename World => wp
      by_cases hgk : k < nx
      case neg =>
        have hd2 : decide ((k : Int) < (nx : Int)) = false := by simp; omega
        go_wp2
        go_roundg g
        case measure => omega
        case rel =>
          refine ⟨i + 1, by go_num, by omega, Lib.hid ⟨hR.out.1.trans (hS.out.1.mono hR.out.1.size), Pe.any_false_snoc HX.out.1 hR.out.2 ?_⟩⟩
          have h1 := hS.out.2
          rwa [show k = x.length by have := HX.out.2.1; omega] at h1
      have hd2 : decide ((k : Int) < (nx : Int)) = true := by simp; omega
      obtain ⟨g2, rfl⟩ : ∃ g', gk = g' + 1 := ⟨gk - 1, by omega⟩
      have heq : ((nx : Int) == (nf : Int)) = decide (nx = nf) := by rw [Bool.eq_iff_iff]; simp; omega
      obtain ⟨S0, hS0⟩ : ∃ S0, S0 = decide (nx = nf) := ⟨_, rfl⟩
      rw [← hS0] at heq
      have HS0 := Lib.hid hS0
      clear hS0
      go_wp2_with fail
      clear heq
      go_loopg [9, 10] nf (fun q s9 s10 wr3 => ∃ (j : Nat) (sm : Bool), s9 = .bool sm ∧ s10 = .int .i64 (j : Int) ∧ j + q = nf ∧ (sm = true → nx = nf) ∧ Hid (Below wp.heap.size wp wr3 ∧ sm = decide (nx = nf ∧ ∀ t, t < j → fr[t]? = x[(k + t) % nf]?)))
      case atStart => exact ⟨0, S0, rfl, by go_num, by omega, fun e => of_decide_eq_true (by rw [← HS0.out]; exact e), Lib.hid ⟨Below.refl _ _, by rw [HS0.out]; simp⟩⟩
      case round =>
        obtain ⟨j, sm, rfl, rfl, hj, hsm, hT⟩ := hrel
        have hbw := hR.out.1.trans ((hS.out.1.trans (hT.out.1.mono hS.out.1.size)).mono hR.out.1.size)
        have HBW := Lib.hid (H1.out.1.trans (hbw.mono H1.out.1.size))
        have HBO := Lib.hid (hS.out.1.trans (hT.out.1.mono hS.out.1.size))
        clear hbw
        cases sm
        · have HNO := Lib.hid (show Pe.rotB fr x k = false by
            have h1 := hT.out.2
            rw [eq_comm, decide_eq_false_iff_not] at h1
            unfold Pe.rotB
            rw [decide_eq_false_iff_not, ← HX.out.2.1, ← H.out.2.2.2.2.1]
            exact fun h2 => h1 ⟨h2.1, fun t ht => h2.2 t (by omega)⟩)
          clear hsm
          by_cases hgj : j < nf
          · have hd3 : decide ((j : Int) < (nf : Int)) = true := by simp; omega
            go_wp2
            go_roundg g2
            case measure => omega
            case rel => exact ⟨k + 1, by go_num, by omega, Lib.hid ⟨HBO.out, Pe.range_snoc hS.out.2 HNO.out⟩⟩
          · have hd3 : decide ((j : Int) < (nf : Int)) = false := by simp; omega
            go_wp2
            go_roundg g2
            case measure => omega
            case rel => exact ⟨k + 1, by go_num, by omega, Lib.hid ⟨HBO.out, Pe.range_snoc hS.out.2 HNO.out⟩⟩
        have hxf : nx = nf := hsm rfl
        by_cases hgj : j < nf
        case neg =>
          have hd3 : decide ((j : Int) < (nf : Int)) = false := by simp; omega
          have HYES := Lib.hid (show Pe.rotB fr x k = true by
            have h1 := hT.out.2
            rw [eq_comm, decide_eq_true_eq] at h1
            unfold Pe.rotB
            rw [decide_eq_true_eq, ← HX.out.2.1, ← H.out.2.2.2.2.1]
            exact ⟨h1.1, fun t ht => h1.2 t (by omega)⟩)
          clear hxf
          go_wp2
          go_ret
          refine ⟨?_, HBW.out⟩
          rw [H.out.2.2.2.1]
          unfold Pe.circB
          rw [Pe.any_true_at HX.out.1 (Pe.range_true (by have := HX.out.2.1; omega) HYES.out)]
          rfl
        have hd3 : decide ((j : Int) < (nf : Int)) = true := by simp; omega
        have hA2 := H1.out.2.2.below (hR.out.1.trans ((hS.out.1.trans (hT.out.1.mono hS.out.1.size)).mono hR.out.1.size))
        obtain ⟨y, ah, hy, rfl, hcy⟩ := hA2.one (i := R.back + j) (by have := HNF.out; omega)
        have hmod : (k + j) % nf < nx := by rw [hxf]; exact Nat.mod_lt _ (by omega)
        obtain ⟨z, az, hz, rfl, hcz⟩ := (HX.out.2.2.below (hS.out.1.trans (hT.out.1.mono hS.out.1.size))).one hmod
        have hB2 := H1.out.2.1.below (hR.out.1.trans ((hS.out.1.trans (hT.out.1.mono hS.out.1.size)).mono hR.out.1.size)) H1.out.2.1.lt
        have k3 : wr.cell? ⟨b, 3, none⟩ = some (.slice (some ah) nh ch) := hB2.cell 3
        have k4 : wr.cell? ⟨b, 4, none⟩ = some (.int .i64 (R.back : Int)) := hB2.cell 4
        obtain ⟨J, hJ⟩ : ∃ J, J = R.back + j := ⟨_, rfl⟩
        obtain ⟨M, hM⟩ : ∃ M, M = (k + j) % nf := ⟨_, rfl⟩
        rw [← hJ] at hy hcy
        rw [← hM] at hz hcz hmod
        have p1 : wr.cell? ⟨(ah.add (J * 6)).block, (ah.add (J * 6)).off + 1, none⟩ = some (.int .i64 y.frm.1) := hcy 1 _ rfl
        have p2 : wr.cell? ⟨(ah.add (J * 6)).block, (ah.add (J * 6)).off + 2, none⟩ = some (.int .i64 y.frm.2) := hcy 2 _ rfl
        have z0 : wr.cell? (az.add (M * 2)) = some (.int .i64 z.1) := hcz 0 _ rfl
        have z1 : wr.cell? ⟨(az.add (M * 2)).block, (az.add (M * 2)).off + 1, none⟩ = some (.int .i64 z.2) := hcz 1 _ rfl
        have e1 : (R.back : Int) + (j : Int) = (J : Int) := by omega
        obtain ⟨KJ, hKJ⟩ : ∃ KJ, KJ = k + j := ⟨_, rfl⟩
        have e2 : (k : Int) + (j : Int) = (KJ : Int) := by omega
        have e3 : Int.tmod (KJ : Int) (nf : Int) = (M : Int) := by rw [hM, hKJ]; rfl
        obtain ⟨EV, hEV⟩ : ∃ EV, EV = decide (y.frm = z) := ⟨_, rfl⟩
        have heq : ∀ w0, (binOp .eql 28 (.agg #[.int .i64 y.frm.1, .int .i64 y.frm.2]) (.agg #[.int .i64 z.1, .int .i64 z.2])).run Tryz.prog w0 = .ok (.bool EV) w0 := fun w0 => by rw [hEV]; exact eql_pair y.frm z w0
        have HY := Lib.hid (And.intro hy (And.intro hz (And.intro hEV (And.intro hJ hM))))
        have hJl : J < nh := by have := HNF.out; omega
        have wJ : IntKind.i64.wrap (J : Int) = (J : Int) := by simp [IntKind.wrap, IntKind.bits, IntKind.signed]; omega
        have wK : IntKind.i64.wrap (KJ : Int) = (KJ : Int) := by simp [IntKind.wrap, IntKind.bits, IntKind.signed]; omega
        have wM : IntKind.i64.wrap (M : Int) = (M : Int) := by simp [IntKind.wrap, IntKind.bits, IntKind.signed]; omega
        have hf0 : ((nf : Int) == 0) = false := by simp; omega
        have hf1 : ¬ nf = 0 := by omega
        have HXF := Lib.hid hxf
        clear hxf hsm hKJ
        clear hA2 hcy hcz hB2 hy hz hEV hJ hM
        go_upto_region 12 with fail
        go_quiet (fail)
        go_wp2
        go_roundg (gk - 1)
        case measure => omega
        case rel =>
          refine ⟨j + 1, EV, rfl, by go_num, by omega, fun _ => HXF.out, Lib.hid ⟨hT.out.1.trans ((below_drewN _ _).mono hT.out.1.size), ?_⟩⟩
          have h1 := hT.out.2
          rw [eq_comm, decide_eq_true_eq] at h1
          rw [HY.out.2.2.1]
          rw [Bool.eq_iff_iff, decide_eq_true_eq, decide_eq_true_eq]
          have hfj : fr[j]? = some y.frm := H.out.2.2.2.2.2 j y (by rw [← HY.out.2.2.2.1]; exact HY.out.1)
          constructor
          · intro he
            refine ⟨HXF.out, fun t ht => ?_⟩
            by_cases htj : t = j
            · subst htj
              rw [hfj, ← HY.out.2.2.2.2, HY.out.2.1, he]
            · exact h1.2 t (by omega)
          · rintro ⟨_, h2⟩
            have h3 := h2 j (by omega)
            rw [hfj, ← HY.out.2.2.2.2, HY.out.2.1] at h3
            injection h3

end Go.Proofs.YtnphlekailodkaaGreatDoor

namespace Go.Proofs.YtnphlekailodkaaGreatDoor
open Go.RowKit

theorem Pe.loops_or (l : List Pe.Ent) (d : Int) : (Pe.loops l d = ([], 1)) ∨ Pe.loops l d = (Pe.loopsR l d, 0) := by
  unfold Pe.loops
  split
  · exact .inl rfl
  · split
    · exact .inl rfl
    · exact .inr rfl
theorem Pe.loopsR_most (l : List Pe.Ent) (d : Int) : (Pe.loopsR l d).length ≤ l.length := by
  have h2 := Pe.circsOf_length l d (Pe.allR l d l)
  have h3 := Pe.allR_length l d l
  exact Nat.le_trans h2 h3

set_option maxRecDepth 1000000 in
set_option maxHeartbeats 16000000 in
theorem circles_law (A : Option Addr) (n c : Nat) (l : List Pe.Ent) (cd : Pe.Pair) (d : Int) (w : World) (h : EntsAt w A n l) (hby : n * 88 ≤ 140737488355328) (hL : Laid w) :
    Calls Tryz.prog 9 #[.slice A n c, .agg (pCells cd), .int .i64 d] w (Law w) := by
  have H := Lib.hid (And.intro h hL)
  have hmost := h.most
  clear h hL
  have hfe := fun w0 => Few_calls A n c w0
  have HFE := Lib.hid hfe
  clear hfe
  go_enter Tryz.func9, Tryz.ntmps9
  unfold pCells
  go_upto_region 1 with fail
  obtain ⟨b, hb⟩ : ∃ b, b = w.heap.size := ⟨_, rfl⟩
  obtain ⟨w1, hw1⟩ : ∃ w1, w1 = w.alloc (.cells (pCells cd) 28) := ⟨_, rfl⟩
  have hb1 : Below w.heap.size w w1 := by rw [hw1]; exact (Below.refl _ w).alloc (Nat.le_refl _) _
  have hc1 : Blk w1 b 28 (pCells cd) := by rw [hw1, hb]; exact Blk.fresh _ _ _
  unfold pCells at hw1
  rw [← hb, ← hw1]
  have H1 := Lib.hid (And.intro hb1 hc1)
  clear hb1 hc1 hw1 hb
  obtain ⟨⟨LL, E⟩, hLE⟩ : ∃ z, z = Pe.loops l d := ⟨_, rfl⟩
  have hlc := Loops_calls A n c l d w1 (H.out.1.below H1.out.1) hby
  have hor := Pe.loops_or l d
  rw [← hLE] at hlc hor
  dsimp only at hlc
  have HLC := Lib.hid hlc
  have HOR := Lib.hid hor
  clear hlc hLE hor
  go_wp2_with fail
  refine HLC.out.mono ?_
  rintro e w2 ⟨v2, rfl, hv2, hb2⟩
  obtain ⟨A2, cL, rfl, hr2⟩ := hv2.rows
  have H2 := Lib.hid (And.intro (H1.out.1.trans (hb2.mono H1.out.1.size)) (And.intro hr2 (H1.out.2.below hb2 H1.out.2.lt)))
  clear hb2 hr2 hv2
  obtain ⟨m, hm⟩ : ∃ m, m = LL.length := ⟨_, rfl⟩
  rw [← hm] at H2 ⊢
  have HM := Lib.hid hm
  clear hm
  dsimp only
  by_cases hfew : n ≤ 60
  case neg =>
    have d1 : decide (n ≤ 60) = false := by simpa using hfew
    have HD := Lib.hid d1
    clear d1 hfew
    go_wp2_with fail
    refine (HFE.out w2).mono ?_
    rintro e w3 ⟨rfl, rfl⟩
    rw [HD.out]
    dsimp only
    go_wp2_with fail
    refine (alive_calls w3 (H.out.2.below H2.out.1)).mono ?_
    rintro e wy ⟨rfl, hby⟩
    have HY := Lib.hid ((H2.out.1).trans (hby.mono (H2.out.1).size))
    clear hby
    dsimp only
    go_wp2
    go_ret
    exact ⟨rfl, HY.out⟩
  have d1 : decide (n ≤ 60) = true := by simpa using hfew
  have HD := Lib.hid d1
  have hn : n ≤ 100000 := by omega
  clear d1 hby
  go_wp2_with fail
  refine (HFE.out w2).mono ?_
  rintro e w3 ⟨rfl, rfl⟩
  rw [HD.out]
  dsimp only
  by_cases hE : E = 0
  case neg =>
    have hE1 : (E != 0) = true := by simpa using hE
    clear hE
    go_wp2_with fail
    refine (alive_calls w3 (H.out.2.below H2.out.1)).mono ?_
    rintro e wy ⟨rfl, hby⟩
    have HY := Lib.hid ((H2.out.1).trans (hby.mono (H2.out.1).size))
    clear hby
    dsimp only
    go_wp2
    go_ret
    exact ⟨rfl, HY.out⟩
  subst hE
  have HLL := Lib.hid (show LL = Pe.loopsR l d by
    rcases HOR.out with h1 | h1
    · injection h1 with _ h2; cases h2
    · injection h1)
  have hmm : m ≤ 100000 := by
    have h1 := Pe.loopsR_most l d
    have h2 := HM.out
    have h3 := H.out.1.len
    rw [HLL.out] at h2
    omega
  have HXL := Lib.hid (show ∀ x ∈ LL, x.length ≤ 1000000 from fun x hx => by
    rw [HLL.out] at hx
    have h1 := Pe.circ_length ((Pe.mem_loopsR l d x).1 hx).1
    have h3 := H.out.1.len
    omega)
  have q0 : w3.cell? ⟨b, 0, none⟩ = some (.int .i64 cd.1) := H2.out.2.2.cell 0
  have q1 : w3.cell? ⟨b, 1, none⟩ = some (.int .i64 cd.2) := H2.out.2.2.cell 1
  have hfc := Follow_calls A n c l cd 0 d w3 (H.out.1.below H2.out.1) hn
  have hms := Pe.follow_most l cd 0 d
  have hfk := (fun h => Pe.loop_circled (l := l) (c := cd) (s := 0) (d := d) h)
  obtain ⟨⟨R, F⟩, hRF⟩ : ∃ z, z = Pe.follow l cd 0 d := ⟨_, rfl⟩
  rw [← hRF] at hfc hms hfk
  unfold pCells RouteAt at hfc
  dsimp only at hfc hms hfk
  have hnh1 : R.hops.length ≤ 1000000 := by have := H.out.1.len; omega
  have HFC := Lib.hid hfc
  have HFK := Lib.hid hfk
  clear hfc hfk hRF hms
  go_wp2_with fail
  refine HFC.out.mono ?_
  rintro e w4 ⟨⟨v, rfl, hown⟩, hb4⟩
  obtain ⟨nh, hnh⟩ : ∃ nh, nh = R.hops.length := ⟨_, rfl⟩
  rw [← hnh] at hown hnh1
  obtain ⟨Ah, ch, rfl, hho, _⟩ := own_hops hown hnh
  have H4 := Lib.hid (And.intro hb4 hho)
  have HNH := Lib.hid hnh
  clear hown hb4 hho hnh
  unfold rCells
  dsimp only
  go_upto_region 5 with fail
  obtain ⟨rb, hg⟩ : ∃ g, g = w4.heap.size := ⟨_, rfl⟩
  obtain ⟨w5, hw⟩ : ∃ w0, w0 = w4.alloc (.cells #[.int .u8 (R.kind : Int), .int .i64 R.fin.1, .int .i64 R.fin.2, .slice Ah nh ch, .int .i64 (R.back : Int)] 34) := ⟨_, rfl⟩
  have hbl : Below w4.heap.size w4 w5 := by rw [hw]; exact (Below.refl _ w4).alloc (Nat.le_refl _) _
  have hgb : Blk w5 rb 34 #[.int .u8 (R.kind : Int), .int .i64 R.fin.1, .int .i64 R.fin.2, .slice Ah nh ch, .int .i64 (R.back : Int)] := by rw [hw, hg]; exact Blk.fresh _ _ _
  rw [← hg, ← hw]
  have H5 := Lib.hid (And.intro (H4.out.1.trans (hbl.mono H4.out.1.size)) (H4.out.2.below hbl))
  have r0 : w5.cell? ⟨rb, 0, none⟩ = some (.int .u8 (R.kind : Int)) := hgb.cell 0
  have r1 : w5.cell? ⟨rb, 1, none⟩ = some (.int .i64 R.fin.1) := hgb.cell 1
  have r2 : w5.cell? ⟨rb, 2, none⟩ = some (.int .i64 R.fin.2) := hgb.cell 2
  have r3 : w5.cell? ⟨rb, 3, none⟩ = some (.slice Ah nh ch) := hgb.cell 3
  have r4 : w5.cell? ⟨rb, 4, none⟩ = some (.int .i64 (R.back : Int)) := hgb.cell 4
  clear hg hw hbl hgb
  have k6 := nat_beq R.kind 6
  clear q0 q1
  go_cut [65] (fun s65 wx => s65 = .bool false ∧ Hid (Below w3.heap.size w3 wx))
  case first =>
    by_cases hF : F = 0
    case neg =>
      have hF1 : (F == 0) = false := by simpa using hF
      clear hF k6
      go_wp2
      go_meet
      exact ⟨rfl, Lib.hid H5.out.1⟩
    subst hF
    by_cases hk : R.kind = 6
    case neg =>
      have q6 : ((R.kind : Int) == 6) = false := k6.trans (by simpa using hk)
      clear hk k6
      go_wp2
      go_meet
      exact ⟨rfl, Lib.hid H5.out.1⟩
    have q6 : ((R.kind : Int) == 6) = true := k6.trans (by simpa using hk)
    obtain ⟨hbk, hcb⟩ := HFK.out hk
    rw [← HLL.out] at hcb
    have hbn : R.back < nh := by rw [HNH.out]; exact hbk
    have b1 : decide ((R.back : Int) < 0) = false := by simp
    have b2 : decide ((R.back : Int) ≥ (nh : Int)) = false := by simp; omega
    have b3 : decide (nh ≤ R.back) = false := by simp; omega
    have hcc := circled_calls Ah nh ch R A2 m cL LL w5 H5.out.2 (by omega) (H2.out.2.1.below H5.out.1) hnh1 (by omega) HXL.out
    rw [hcb] at hcc
    unfold rCells at hcc
    have HCC := Lib.hid hcc
    clear hcc hcb hbk hk k6
    go_wp2_with fail
    refine HCC.out.mono ?_
    rintro e w6 ⟨rfl, hb6⟩
    have H6 := Lib.hid (H5.out.1.trans (hb6.mono H5.out.1.size))
    clear hb6
    dsimp only
    go_wp2
    go_meet
    exact ⟨rfl, H6⟩
  case rest =>
  obtain ⟨rfl, HC⟩ := hcut
  clear r0 r1 r2 r3 r4 k6 hnh1
  rename World => w7
  apply_assumption
  go_wp2_with fail
  go_loopg [68] n (fun q s68 wr => ∃ i : Nat, s68 = .int .i64 (i : Int) ∧ i + q = n ∧ Hid (Below w3.heap.size w3 wr ∧ ∀ x ∈ l.take i, x.kind ≠ 7))
  case atStart => exact ⟨0, by go_num, by omega, Lib.hid ⟨HC.out, by simp⟩⟩
  case round =>
    obtain ⟨i, rfl, hi, hR⟩ := hrel
    rename World => wo
    have hBO := H2.out.1.trans (hR.out.1.mono H2.out.1.size)
    have HBO := Lib.hid hBO
    clear hBO
    by_cases hgo : i < n
    case pos =>
      have hd1 : decide ((i : Int) < (n : Int)) = true := by simp; omega
      obtain ⟨x, ad, hx, rfl, hok, hcw⟩ := (H.out.1.below HBO.out).one hgo
      have g0 : wo.cell? (ad.add (i * 10)) = some (.int .i64 x.day) := hcw 0 _ rfl
      have g1 : wo.cell? ⟨(ad.add (i * 10)).block, (ad.add (i * 10)).off + 1, none⟩ = some (.int .u8 (x.kind : Int)) := hcw 1 _ rfl
      have g2 : wo.cell? ⟨(ad.add (i * 10)).block, (ad.add (i * 10)).off + 2, none⟩ = some (.int .i64 x.since) := hcw 2 _ rfl
      have g3 : wo.cell? ⟨(ad.add (i * 10)).block, (ad.add (i * 10)).off + 3, none⟩ = some (.int .i64 x.til) := hcw 3 _ rfl
      have g4 : wo.cell? ⟨(ad.add (i * 10)).block, (ad.add (i * 10)).off + 4, none⟩ = some (.int .i64 x.person) := hcw 4 _ rfl
      have g5 : wo.cell? ⟨(ad.add (i * 10)).block, (ad.add (i * 10)).off + 5, none⟩ = some (.int .i64 x.place) := hcw 5 _ rfl
      have g6 : wo.cell? ⟨(ad.add (i * 10)).block, (ad.add (i * 10)).off + 6, none⟩ = some (.int .i64 x.other) := hcw 6 _ rfl
      have g7 : wo.cell? ⟨(ad.add (i * 10)).block, (ad.add (i * 10)).off + 7, none⟩ = some (.int .i64 x.at_) := hcw 7 _ rfl
      have g8 : wo.cell? ⟨(ad.add (i * 10)).block, (ad.add (i * 10)).off + 8, none⟩ = some (.int .i64 x.order) := hcw 8 _ rfl
      have g9 : wo.cell? ⟨(ad.add (i * 10)).block, (ad.add (i * 10)).off + 9, none⟩ = some (.string (bs x.name)) := hcw 9 _ rfl
      have HX := Lib.hid hx
      clear hx hcw hok
      go_upto_region 10 with fail
      obtain ⟨xb, hxb⟩ : ∃ g, g = wo.heap.size := ⟨_, rfl⟩
      obtain ⟨w8, hw8⟩ : ∃ w0, w0 = wo.alloc (.cells (eCells x) 31) := ⟨_, rfl⟩
      have hbl : Below wo.heap.size wo w8 := by rw [hw8]; exact (Below.refl _ wo).alloc (Nat.le_refl _) _
      have hgb : Blk w8 xb 31 (eCells x) := by rw [hw8, hxb]; exact Blk.fresh _ _ _
      unfold eCells at hw8
      rw [← hxb, ← hw8]
      clear g0 g1 g2 g3 g4 g5 g6 g7 g8 g9
      have x1 : w8.cell? ⟨xb, 1, none⟩ = some (.int .u8 (x.kind : Int)) := hgb.cell 1
      have H8 := Lib.hid (And.intro (HBO.out.trans (hbl.mono HBO.out.size)) (hR.out.1.trans (hbl.mono hR.out.1.size)))
      clear hbl hxb hw8 hgb
      have k7 := nat_beq x.kind 7
      by_cases h7 : x.kind = 7
      · have q7 : ((x.kind : Int) == 7) = true := k7.trans (by rw [h7]; rfl)
        clear k7 h7
        go_wp2_with fail
        refine (alive_calls w8 (H.out.2.below H8.out.1)).mono ?_
        rintro e wy ⟨rfl, hby⟩
        have HY := Lib.hid ((H8.out.1).trans (hby.mono (H8.out.1).size))
        clear hby
        dsimp only
        go_wp2
        go_ret
        exact ⟨rfl, HY.out⟩
      have q7 : ((x.kind : Int) == 7) = false := k7.trans (by simpa using h7)
      have H7 := Lib.hid h7
      clear k7 h7
      go_wp2
      go_roundg (gk - 1)
      case measure => omega
      case rel =>
        refine ⟨i + 1, by go_num, by omega, Lib.hid ⟨H8.out.2, fun y hy => ?_⟩⟩
        rw [List.take_add_one, HX.out] at hy
        rcases List.mem_append.1 hy with hy | hy
        · exact hR.out.2 y hy
        · simp at hy
          rw [hy]; exact H7.out
    have hd1 : decide ((i : Int) < (n : Int)) = false := by simp; omega
    have HNR := Lib.hid (show ∀ x ∈ l, x.kind ≠ 7 by
      have h1 := hR.out.2
      rwa [List.take_of_length_le (by have := H.out.1.len; omega)] at h1)
    go_wp2_with fail
    go_loopg [79] m (fun q s79 wr2 => ∃ i : Nat, s79 = .int .i64 (i : Int) ∧ i + q = m ∧ Hid (Below w3.heap.size w3 wr2))
    case atStart => exact ⟨0, by go_num, by omega, Lib.hid hR.out.1⟩
    case round =>
      clear hi hgo hd1
      obtain ⟨i, rfl, hi, hS⟩ := hrel
      rename World => wp
      have HBP := Lib.hid (H2.out.1.trans (hS.out.mono H2.out.1.size))
      by_cases hgo : i < m
      case neg =>
        have hd1 : decide ((i : Int) < (m : Int)) = false := by simp; omega
        go_wp2_with fail
        refine (alive_calls wp (H.out.2.below HBP.out)).mono ?_
        rintro e wy ⟨rfl, hby⟩
        have HY := Lib.hid ((HBP.out).trans (hby.mono (HBP.out).size))
        clear hby
        dsimp only
        go_wp2
        go_ret
        exact ⟨rfl, HY.out⟩
      have hd1 : decide ((i : Int) < (m : Int)) = true := by simp; omega
      obtain ⟨g, rfl⟩ : ∃ g', gk = g' + 1 := ⟨gk - 1, by omega⟩
      obtain ⟨x, hx⟩ : ∃ x, LL[i]? = some x := ⟨_, List.getElem?_eq_getElem (by have := HM.out; omega)⟩
      obtain ⟨ad, Bx, cx, rfl, _, hcx, hncx, hpx⟩ := (H2.out.2.1.below hS.out).one i x hx
      obtain ⟨nx, hnx⟩ : ∃ nx, nx = x.length := ⟨_, rfl⟩
      rw [← hnx] at hcx hpx hncx
      have hxm : nx ≤ 1000000 := by rw [hnx]; exact HXL.out x (List.mem_of_getElem? hx)
      have HX := Lib.hid (And.intro hx (And.intro hnx (And.intro hpx hncx)))
      clear hx hnx hpx hncx
      go_wp2_with fail
      clear hcx
      go_loopg [85] nx (fun q s85 wr3 => ∃ k : Nat, s85 = .int .i64 (k : Int) ∧ k + q = nx ∧ Hid (Below wp.heap.size wp wr3))
      case atStart => exact ⟨0, by go_num, by omega, Lib.hid (Below.refl _ _)⟩
      case round =>
        obtain ⟨k, rfl, hk, hT⟩ := hrel
        rename World => wq
        have HBQ := Lib.hid (HBP.out.trans (hT.out.mono HBP.out.size))
        by_cases hgk : k < nx
        case neg =>
          have hd2 : decide ((k : Int) < (nx : Int)) = false := by simp; omega
          go_wp2
          go_roundg g
          case measure => omega
          case rel => exact ⟨i + 1, by go_num, by omega, Lib.hid (hS.out.trans (hT.out.mono hS.out.size))⟩
        have hd2 : decide ((k : Int) < (nx : Int)) = true := by simp; omega
        have hpq := HX.out.2.2.1.below hT.out
        obtain ⟨p, az, hp, rfl, hcp⟩ := hpq.one hgk
        have p0 : wq.cell? (az.add (k * 2)) = some (.int .i64 p.1) := hcp 0 _ rfl
        have p1 : wq.cell? ⟨(az.add (k * 2)).block, (az.add (k * 2)).off + 1, none⟩ = some (.int .i64 p.2) := hcp 1 _ rfl
        have HP := Lib.hid hp
        clear hpq hp hcp
        go_upto_region 19 with fail
        obtain ⟨pb, hpb⟩ : ∃ g, g = wq.heap.size := ⟨_, rfl⟩
        obtain ⟨w3', hw3⟩ : ∃ w0, w0 = wq.alloc (.cells (pCells p) 28) := ⟨_, rfl⟩
        have hbl : Below wq.heap.size wq w3' := by rw [hw3]; exact (Below.refl _ wq).alloc (Nat.le_refl _) _
        have hgb : Blk w3' pb 28 (pCells p) := by rw [hw3, hpb]; exact Blk.fresh _ _ _
        unfold pCells at hw3
        rw [← hpb, ← hw3]
        have q0 : w3'.cell? ⟨pb, 0, none⟩ = some (.int .i64 p.1) := hgb.cell 0
        have q1 : w3'.cell? ⟨pb, 1, none⟩ = some (.int .i64 p.2) := hgb.cell 1
        have H3 := Lib.hid (And.intro (HBQ.out.trans (hbl.mono HBQ.out.size)) (hT.out.trans (hbl.mono hT.out.size)))
        clear hbl hpb hw3 hgb p0 p1
        have hfc := Follow_calls A n c l p 0 d w3' (H.out.1.below H3.out.1) hn
        have hms := Pe.follow_most l p 0 d
        have hfk := (fun h => Pe.circle_followed (l := l) (p := p) (s := 0) (d := d) (x := x) HNR.out (by rw [← HLL.out]; exact List.mem_of_getElem? HX.out.1) (List.mem_of_getElem? HP.out) h)
        obtain ⟨⟨R, F⟩, hRF⟩ : ∃ z, z = Pe.follow l p 0 d := ⟨_, rfl⟩
        rw [← hRF] at hfc hms hfk
        unfold pCells RouteAt at hfc
        dsimp only at hfc hms hfk
        have hnh1 : R.hops.length ≤ 1000000 := by have := H.out.1.len; omega
        have HFC := Lib.hid hfc
        have HFK := Lib.hid hfk
        clear hfc hfk hRF hms
        go_wp2_with fail
        refine HFC.out.mono ?_
        rintro e w4 ⟨⟨v, rfl, hown⟩, hb4⟩
        obtain ⟨nh, hnh⟩ : ∃ nh, nh = R.hops.length := ⟨_, rfl⟩
        rw [← hnh] at hown hnh1
        obtain ⟨Ah, ch, rfl, hho, _⟩ := own_hops hown hnh
        have H4 := Lib.hid (And.intro hb4 hho)
        have HNH := Lib.hid hnh
        clear hown hb4 hho hnh
        unfold rCells
        dsimp only
        go_upto_region 20 with fail
        obtain ⟨rb, hg⟩ : ∃ g, g = w4.heap.size := ⟨_, rfl⟩
        obtain ⟨w5, hw⟩ : ∃ w0, w0 = w4.alloc (.cells #[.int .u8 (R.kind : Int), .int .i64 R.fin.1, .int .i64 R.fin.2, .slice Ah nh ch, .int .i64 (R.back : Int)] 34) := ⟨_, rfl⟩
        have hbl : Below w4.heap.size w4 w5 := by rw [hw]; exact (Below.refl _ w4).alloc (Nat.le_refl _) _
        have hgb : Blk w5 rb 34 #[.int .u8 (R.kind : Int), .int .i64 R.fin.1, .int .i64 R.fin.2, .slice Ah nh ch, .int .i64 (R.back : Int)] := by rw [hw, hg]; exact Blk.fresh _ _ _
        rw [← hg, ← hw]
        have H5 := Lib.hid (And.intro (H4.out.1.trans (hbl.mono H4.out.1.size)) (H4.out.2.below hbl))
        have r0 : w5.cell? ⟨rb, 0, none⟩ = some (.int .u8 (R.kind : Int)) := hgb.cell 0
        have r1 : w5.cell? ⟨rb, 1, none⟩ = some (.int .i64 R.fin.1) := hgb.cell 1
        have r2 : w5.cell? ⟨rb, 2, none⟩ = some (.int .i64 R.fin.2) := hgb.cell 2
        have r3 : w5.cell? ⟨rb, 3, none⟩ = some (.slice Ah nh ch) := hgb.cell 3
        have r4 : w5.cell? ⟨rb, 4, none⟩ = some (.int .i64 (R.back : Int)) := hgb.cell 4
        clear hg hw hbl hgb
        have k6 := nat_beq R.kind 6
        clear q0 q1
        go_cut [122] (fun s122 wx => s122 = .bool false ∧ Hid (Below w3'.heap.size w3' wx))
        case first =>
          by_cases hF : F = 0
          case neg =>
            have hF1 : (F == 0) = false := by simpa using hF
            clear hF k6
            go_wp2
            go_meet
            exact ⟨rfl, Lib.hid H5.out.1⟩
          subst hF
          obtain ⟨hk6, hbk, hlx, hcb⟩ := HFK.out rfl
          have q6 : ((R.kind : Int) != 6) = false := by rw [hk6]; rfl
          have b1 : ((R.back : Int) != 0) = false := by rw [hbk]; rfl
          have hnn : nh = nx := by rw [HNH.out, hlx]; exact HX.out.2.1.symm
          have b2 : ((nh : Int) != (nx : Int)) = false := by rw [hnn]; simp
          have hcc := fun (w0 : World) (gg : Nat) (hb0 : Below w5.heap.size w5 w0) (hcl : w0.cell? ⟨gg, 0, none⟩ = some (.slice (some az) nx cx)) (hgl : gg < w0.heap.size) => circled_calls Ah nh ch R (some ⟨gg, 0, none⟩) 1 1 [x] w0 (H5.out.2.below hb0) (by rw [hbk]; omega) ⟨rfl, fun i2 y2 hy2 => by
            match i2, hy2 with
            | 0, hy2 =>
              simp at hy2
              subst hy2
              refine ⟨_, some az, cx, rfl, hgl, ?_, by rw [← HX.out.2.1]; exact HX.out.2.2.2, ?_⟩
              · rw [← HX.out.2.1, Addr.add_mid]; simpa using hcl
              · rw [← HX.out.2.1]
                exact HX.out.2.2.1.below ((H3.out.2.trans (H5.out.1.mono H3.out.2.size)).trans (hb0.mono (Nat.le_trans H3.out.2.size H5.out.1.size)))⟩ hnh1 (by omega) (fun y2 hy2 => by rw [List.mem_singleton.1 hy2, ← HX.out.2.1]; exact hxm)
          have hdr : (R.hops.drop R.back) = R.hops := by rw [hbk]; rfl
          rw [hdr, hcb] at hcc
          unfold rCells at hcc
          have HCC := Lib.hid hcc
          clear hcc hcb hbk hdr hlx k6 hnn hk6
          go_wp2_with fail
          refine (HCC.out _ w5.heap.size ((Below.refl _ w5).alloc (Nat.le_refl _) _) ((Blk.fresh w5 46 #[.slice (some az) nx cx]).cell 0) (by simp)).mono ?_
          rintro e w6 ⟨rfl, hb6⟩
          have hba : Below w5.heap.size w5 (w5.alloc (.cells #[.slice (some az) nx cx] 46)) := (Below.refl _ w5).alloc (Nat.le_refl _) _
          have H6 := Lib.hid (H5.out.1.trans ((hba.trans (hb6.mono hba.size)).mono H5.out.1.size))
          clear hb6 hba
          dsimp only
          go_wp2
          go_meet
          exact ⟨rfl, H6⟩
        case rest =>
        obtain ⟨rfl, HC2⟩ := hcut
        clear r0 r1 r2 r3 r4 k6 hnh1
        rename World => w9
        apply_assumption
        go_wp2
        go_roundg (gk - 1)
        case measure => omega
        case rel => exact ⟨k + 1, by go_num, by omega, Lib.hid (H3.out.2.trans (HC2.out.mono H3.out.2.size))⟩

end Go.Proofs.YtnphlekailodkaaGreatDoor
