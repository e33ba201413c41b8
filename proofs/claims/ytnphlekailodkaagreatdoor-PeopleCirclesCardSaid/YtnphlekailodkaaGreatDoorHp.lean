/-
  A list of hops in memory; the reference's SameRoute, walked.
-/
import Derived.Test.YtnphlekailodkaaGreatDoorFv
import Derived.Deep.QuietTactic
import Derived.BigQuiet
namespace Go.Proofs.YtnphlekailodkaaGreatDoor
open Go.RowKit

theorem hRow_at {l : List Pe.Hop} {i j : Nat} {x : Pe.Hop} {u : Value} (h1 : l[i]? = some x) (h2 : (hCells x)[j]? = some u) : (hRow l)[i * 6 + j]? = some u := by
  induction l generalizing i with
  | nil => simp at h1
  | cons y r ih =>
    have e : hRow (y :: r) = (hCells y).toList ++ hRow r := rfl
    have hs : (hCells y).toList.length = 6 := rfl
    have hj : j < 6 := by have := (Array.getElem?_eq_some_iff.1 h2).1; simpa [hCells] using this
    rw [e]
    cases i with
    | zero =>
      simp at h1
      subst h1
      rw [List.getElem?_append_left (by omega)]
      simpa using h2
    | succ i =>
      rw [List.getElem?_append_right (by omega), hs]
      have := ih (i := i) (by simpa using h1)
      rw [show (i + 1) * 6 + j - 6 = i * 6 + j from by omega]
      exact this
/-- A list of hops in memory. -/
structure HopsAt (w : World) (A : Option Addr) (n : Nat) (l : List Pe.Hop) : Prop where
  len : n = l.length
  at_ : l = [] ∨ ∃ ad, A = some ad ∧ ad.block < w.heap.size ∧ ∀ i x, l[i]? = some x → ∀ j v, (hCells x)[j]? = some v → w.cell? ((ad.add (i * 6)).add j) = some v
theorem HopsAt.below {w w' : World} {A : Option Addr} {n : Nat} {l : List Pe.Hop} (h : HopsAt w A n l) (hb : Below w.heap.size w w') : HopsAt w' A n l := by
  refine ⟨h.len, h.at_.imp id ?_⟩
  rintro ⟨ad, hA, hl, hc⟩
  refine ⟨ad, hA, Nat.lt_of_lt_of_le hl hb.size, fun i x hi j v hv => ?_⟩
  rw [hb.cell (by rw [Addr.add_add]; unfold Addr.add; split <;> exact hl)]
  exact hc i x hi j v hv
theorem HopsAt.set {w : World} {A : Option Addr} {n : Nat} {l : List Pe.Hop} (h : HopsAt w A n l) {p : Addr} (hp : ∀ ad, A = some ad → ad.block ≠ p.block) (u : Value) : HopsAt (w.setCell p u) A n l := by
  refine ⟨h.len, h.at_.imp id ?_⟩
  rintro ⟨ad, hA, hl, hc⟩
  refine ⟨ad, hA, by simpa using hl, fun i x hi j v hv => ?_⟩
  have hb : ((ad.add (i * 6)).add j).block = ad.block := by rw [Addr.add_add]; unfold Addr.add; split <;> rfl
  rw [World.cell?_of_block (heap_setCell_other w p _ u (by rw [hb]; exact hp ad hA))]
  exact hc i x hi j v hv
theorem own_hops {w : World} {base n : Nat} {v : Value} {l : List Pe.Hop} (h : w.ownsRow base 66 6 v n (hRow l)) (hn : n = l.length) : ∃ A c, v = .slice A n c ∧ HopsAt w A n l ∧ (∀ ad, A = some ad → base ≤ ad.block ∧ ad.block < w.heap.size) := by
  obtain ⟨A, c, rfl, hlc, hcm⟩ := own_shape h
  refine ⟨A, c, rfl, ⟨hn, ?_⟩, ?_⟩
  · by_cases h0 : n = 0
    · left; exact List.eq_nil_of_length_eq_zero (by omega)
    · right
      obtain ⟨g, cap, hv, _, hlt, _⟩ := own_form h (by omega)
      obtain ⟨rfl, _, rfl⟩ : A = some ⟨g, 0, none⟩ ∧ n = n ∧ c = cap := by injection hv with h1 h2 h3; exact ⟨h1, h2, h3⟩
      refine ⟨_, rfl, hlt, fun i x hi j u hj => ?_⟩
      rw [Addr.add_add, Addr.add_mid, Nat.zero_add]
      have := own_range h (i * 6 + j) [u] (fun q v hv => by
        match q, hv with
        | 0, hv => simp at hv; subst hv; simpa using hRow_at hi hj) 0 _ rfl
      simpa using this
  · rintro ad rfl
    rcases h.2 with ⟨hv, _⟩ | ⟨g', cap', cur, hv, hb, hg, _⟩
    · cases hv
    · injection hv with hv _ _
      injection hv with hv
      subst hv
      exact ⟨hb, (Array.getElem?_eq_some_iff.1 hg).1⟩

theorem HopsAt.one {w : World} {A : Option Addr} {n : Nat} {l : List Pe.Hop} (h : HopsAt w A n l) {i : Nat} (hi : i < n) : ∃ x ad, l[i]? = some x ∧ A = some ad ∧ ∀ j v, (hCells x)[j]? = some v → w.cell? ((ad.add (i * 6)).add j) = some v := by
  have hl := h.len
  have hx : l[i]? = some (l[i]'(by omega)) := List.getElem?_eq_getElem (by omega)
  obtain ⟨ad, hA, _, hc⟩ := h.at_.resolve_left (fun e => by rw [e] at hl; simp at hl; omega)
  exact ⟨_, ad, hx, hA, fun j v hv => hc i _ hx j v hv⟩
theorem HopsAt.get {w : World} {ad : Addr} {n : Nat} {l : List Pe.Hop} (h : HopsAt w (some ad) n l) {i : Nat} {x : Pe.Hop} (hx : l[i]? = some x) : ∀ j v, (hCells x)[j]? = some v → w.cell? ((ad.add (i * 6)).add j) = some v := by
  obtain ⟨ad', hA, _, hc⟩ := h.at_.resolve_left (fun e => by rw [e] at hx; simp at hx)
  cases hA
  exact hc i x hx
end Go.Proofs.YtnphlekailodkaaGreatDoor

namespace Go.Proofs.YtnphlekailodkaaGreatDoor
open Go.RowKit

theorem equal_pair9 (x y : Pe.Pair) (w : World) : (Op.equalIn 9999 28 (.agg #[.int .i64 x.1, .int .i64 x.2]) (.agg #[.int .i64 y.1, .int .i64 y.2])).run Tryz.prog w = .ok (decide (x = y)) w := by
  have hS : Tryz.prog.underlying 28 = some (.struct (Tryz.prog.fieldsOf 28)) := by kernel_rfl
  have hp : Tryz.prog.stoodInHeld 28 = false := by kernel_rfl
  have u3 := Tryz.underlying3
  have a3 := Tryz.isAgg3
  have z3 := Tryz.sizeOf3
  rw [show (9999 : Nat) = 9998 + 1 from rfl, run_equalIn_agg w 9998 28 _ _ hS hp]
  simp only [Program.fieldsOf, Tryz.underlying28]
  go_simp
  clear hS hp u3 a3 z3
  obtain ⟨x1, x2⟩ := x
  obtain ⟨y1, y2⟩ := y
  dsimp only
  repeat' split
  all_goals
    refine congrArg (fun b => Result.ok b w) (Eq.symm ?_)
    first
      | (rw [decide_eq_true_eq]; rw [show x1 = y1 by assumption, show x2 = y2 by assumption])
      | (rw [decide_eq_false_iff_not]; intro h; injection h with h1 h2; first | exact absurd h1 (by assumption) | exact absurd h2 (by assumption))
theorem hop_iff (x y : Pe.Hop) : x = y ↔ x.kind = y.kind ∧ x.frm = y.frm ∧ x.to = y.to ∧ x.order = y.order := by
  constructor
  · rintro rfl; simp
  · obtain ⟨a1, a2, a3, a4⟩ := x
    obtain ⟨b1, b2, b3, b4⟩ := y
    rintro ⟨h1, h2, h3, h4⟩
    dsimp only at *
    subst h1 h2 h3 h4
    rfl
theorem equal_hop (x y : Pe.Hop) (w : World) : (Op.equalIn 10000 66 (.agg (hCells x)) (.agg (hCells y))).run Tryz.prog w = .ok (decide (x = y)) w := by
  have hS : Tryz.prog.underlying 66 = some (.struct (Tryz.prog.fieldsOf 66)) := by kernel_rfl
  have hp : Tryz.prog.stoodInHeld 66 = false := by kernel_rfl
  have u3 := Tryz.underlying3
  have u5 := Tryz.underlying5
  have a3 := Tryz.isAgg3
  have a5 := Tryz.isAgg5
  have ac := Tryz.isAgg28
  have z3 := Tryz.sizeOf3
  have z5 := Tryz.sizeOf5
  have zc := Tryz.sizeOf28
  have hf := equal_pair9 x.frm y.frm
  have ht := equal_pair9 x.to y.to
  unfold hCells
  rw [show (10000 : Nat) = 9999 + 1 from rfl, run_equalIn_agg w 9999 66 _ _ hS hp]
  simp only [Program.fieldsOf, Tryz.underlying66]
  go_simp
  have hk : ((x.kind : Int) = (y.kind : Int)) ↔ x.kind = y.kind := by omega
  simp only [hk]
  clear hS hp u3 u5 a3 a5 ac z3 z5 zc hf ht hk
  repeat' split
  all_goals
    refine congrArg (fun b => Result.ok b w) (Eq.symm ?_)
    first
      | (rw [decide_eq_true_eq, hop_iff]; exact ⟨by assumption, by assumption, by assumption, by assumption⟩)
      | (rw [decide_eq_false_iff_not, hop_iff]; rintro ⟨h1, h2, h3, h4⟩; first | exact absurd h1 (by assumption) | exact absurd h2 (by assumption) | exact absurd h3 (by assumption) | exact absurd h4 (by assumption))
theorem neq_hop (x y : Pe.Hop) (w : World) : (binOp .neq 66 (.agg (hCells x)) (.agg (hCells y))).run Tryz.prog w = .ok (.bool (!decide (x = y))) w := by
  rw [run_neq_struct, equal_hop]; rfl
theorem route_iff (x y : Pe.Route) : x = y ↔ x.kind = y.kind ∧ x.fin = y.fin ∧ x.back = y.back ∧ x.hops = y.hops := by
  constructor
  · rintro rfl; simp
  · obtain ⟨a1, a2, a3, a4⟩ := x
    obtain ⟨b1, b2, b3, b4⟩ := y
    rintro ⟨h1, h2, h3, h4⟩
    dsimp only at *
    subst h1 h2 h3 h4
    rfl

set_option maxRecDepth 1000000 in
set_option maxHeartbeats 8000000 in
theorem rSameRoute_calls (A B : Option Addr) (n c m c' : Nat) (R S : Pe.Route) (w : World) (hA : HopsAt w A n R.hops) (hB : HopsAt w B m S.hops) (hn : n ≤ 1000000) :
    Calls Tryz.prog 19 #[.agg (rCells R (.slice A n c)), .agg (rCells S (.slice B m c'))] w fun e w' => e = .returned (.bool (decide (R = S))) ∧ Below w.heap.size w w' := by
  have H := Lib.hid (And.intro hA hB)
  obtain ⟨V, hV⟩ : ∃ V, V = decide (R = S) := ⟨_, rfl⟩
  rw [← hV]
  have HV := Lib.hid hV
  clear hA hB hV
  go_enter Tryz.func19, Tryz.ntmps19
  unfold rCells
  go_upto_region 1 with fail
  obtain ⟨b, hb⟩ : ∃ b, b = w.heap.size := ⟨_, rfl⟩
  obtain ⟨w1, hw1⟩ : ∃ w1, w1 = (w.alloc (.cells #[.int .u8 (R.kind : Int), .int .i64 R.fin.1, .int .i64 R.fin.2, .slice A n c, .int .i64 (R.back : Int)] 34)).alloc (.cells #[.int .u8 (S.kind : Int), .int .i64 S.fin.1, .int .i64 S.fin.2, .slice B m c', .int .i64 (S.back : Int)] 34) := ⟨_, rfl⟩
  have hB1 : Below w.heap.size w w1 := by rw [hw1]; exact ((Below.refl _ w).alloc (Nat.le_refl _) _).alloc (by simp) _
  have hc1 : Blk w1 b 34 #[.int .u8 (R.kind : Int), .int .i64 R.fin.1, .int .i64 R.fin.2, .slice A n c, .int .i64 (R.back : Int)] := by rw [hw1, hb]; exact (Blk.fresh w _ _).alloc _
  have hr1 : Blk w1 (b + 1) 34 #[.int .u8 (S.kind : Int), .int .i64 S.fin.1, .int .i64 S.fin.2, .slice B m c', .int .i64 (S.back : Int)] := by rw [hw1, hb]; have := Blk.fresh (w.alloc (.cells #[.int .u8 (R.kind : Int), .int .i64 R.fin.1, .int .i64 R.fin.2, .slice A n c, .int .i64 (R.back : Int)] 34)) 34 #[.int .u8 (S.kind : Int), .int .i64 S.fin.1, .int .i64 S.fin.2, .slice B m c', .int .i64 (S.back : Int)]; simpa using this
  rw [← hb, ← hw1]
  have H1 := Lib.hid (And.intro hB1 (And.intro hc1 hr1))
  clear hB1 hc1 hr1 hw1 hb
  have a0 : w1.cell? ⟨b, 0, none⟩ = some (.int .u8 (R.kind : Int)) := H1.out.2.1.cell 0
  have a1 : w1.cell? ⟨b, 1, none⟩ = some (.int .i64 R.fin.1) := H1.out.2.1.cell 1
  have a2 : w1.cell? ⟨b, 2, none⟩ = some (.int .i64 R.fin.2) := H1.out.2.1.cell 2
  have a3 : w1.cell? ⟨b, 3, none⟩ = some (.slice A n c) := H1.out.2.1.cell 3
  have a4 : w1.cell? ⟨b, 4, none⟩ = some (.int .i64 (R.back : Int)) := H1.out.2.1.cell 4
  have b0 : w1.cell? ⟨b + 1, 0, none⟩ = some (.int .u8 (S.kind : Int)) := H1.out.2.2.cell 0
  have b1 : w1.cell? ⟨b + 1, 1, none⟩ = some (.int .i64 S.fin.1) := H1.out.2.2.cell 1
  have b2 : w1.cell? ⟨b + 1, 2, none⟩ = some (.int .i64 S.fin.2) := H1.out.2.2.cell 2
  have b3 : w1.cell? ⟨b + 1, 3, none⟩ = some (.slice B m c') := H1.out.2.2.cell 3
  have b4 : w1.cell? ⟨b + 1, 4, none⟩ = some (.int .i64 (S.back : Int)) := H1.out.2.2.cell 4
  by_cases hk : R.kind = S.kind
  case neg =>
    have d1 : ((R.kind : Int) != (S.kind : Int)) = true := by simp; omega
    have HQ := Lib.hid hk
    clear hk
    go_wp2
    go_ret
    refine ⟨?_, H1.out.1⟩
    have hv : V = false := by
      rw [HV.out]
      exact decide_eq_false (fun e => HQ.out (by rw [e]))
    rw [hv]; rfl
  have d1 : ((R.kind : Int) != (S.kind : Int)) = false := by simp; omega
  have HK := Lib.hid hk
  clear hk
  by_cases hf : R.fin = S.fin
  case neg =>
    have hnq : ∀ w0, (binOp .neq 28 (.agg #[.int .i64 R.fin.1, .int .i64 R.fin.2]) (.agg #[.int .i64 S.fin.1, .int .i64 S.fin.2])).run Tryz.prog w0 = .ok (.bool true) w0 := fun w0 => by
      have := neq_pair R.fin S.fin w0
      rw [show (!decide (R.fin = S.fin)) = true by simp [hf]] at this
      exact this
    have HQ := Lib.hid hf
    clear hf
    go_wp2
    go_ret
    refine ⟨?_, H1.out.1⟩
    have hv : V = false := by
      rw [HV.out]
      exact decide_eq_false (fun e => HQ.out (by rw [e]))
    rw [hv]; rfl
  have hnq : ∀ w0, (binOp .neq 28 (.agg #[.int .i64 R.fin.1, .int .i64 R.fin.2]) (.agg #[.int .i64 S.fin.1, .int .i64 S.fin.2])).run Tryz.prog w0 = .ok (.bool false) w0 := fun w0 => by
    have := neq_pair R.fin S.fin w0
    rw [show (!decide (R.fin = S.fin)) = false by simp [hf]] at this
    exact this
  have HFI := Lib.hid hf
  clear hf
  by_cases hbk : R.back = S.back
  case neg =>
    have d2 : ((R.back : Int) != (S.back : Int)) = true := by simp; omega
    have HQ := Lib.hid hbk
    clear hbk
    go_wp2
    go_ret
    refine ⟨?_, H1.out.1⟩
    have hv : V = false := by
      rw [HV.out]
      exact decide_eq_false (fun e => HQ.out (by rw [e]))
    rw [hv]; rfl
  have d2 : ((R.back : Int) != (S.back : Int)) = false := by simp; omega
  have HBK := Lib.hid hbk
  clear hbk
  by_cases hnm : n = m
  case neg =>
    have d3 : ((n : Int) != (m : Int)) = true := by simp; omega
    have HQ := Lib.hid (show ¬ R.hops.length = S.hops.length by rw [← H.out.1.len, ← H.out.2.len]; exact hnm)
    clear hnm
    go_wp2
    go_ret
    refine ⟨?_, H1.out.1⟩
    have hv : V = false := by
      rw [HV.out]
      exact decide_eq_false (fun e => HQ.out (by rw [e]))
    rw [hv]; rfl
  subst hnm
  have d3 : ((n : Int) != (n : Int)) = false := by simp
  go_wp2_with fail
  clear a0 a1 a2 a3 a4 b0 b1 b2 b3 b4
  go_loopg [5] n (fun q s5 wr => ∃ i : Nat, s5 = .int .i64 (i : Int) ∧ i + q = n ∧ Hid (Below w.heap.size w wr ∧ Blk wr b 34 #[.int .u8 (R.kind : Int), .int .i64 R.fin.1, .int .i64 R.fin.2, .slice A n c, .int .i64 (R.back : Int)] ∧ Blk wr (b + 1) 34 #[.int .u8 (S.kind : Int), .int .i64 S.fin.1, .int .i64 S.fin.2, .slice B n c', .int .i64 (S.back : Int)] ∧ R.hops.take i = S.hops.take i))
  case atStart => exact ⟨0, by go_num, by omega, Lib.hid ⟨H1.out.1, H1.out.2.1, H1.out.2.2, by simp⟩⟩
  case round =>
    obtain ⟨i, rfl, hi, hR⟩ := hrel
    have a3 : wr.cell? ⟨b, 3, none⟩ = some (.slice A n c) := hR.out.2.1.cell 3
    have b3 : wr.cell? ⟨b + 1, 3, none⟩ = some (.slice B n c') := hR.out.2.2.1.cell 3
    by_cases hgo : i < n
    case neg =>
      have hd1 : decide ((i : Int) < (n : Int)) = false := by simp; omega
      go_wp2
      go_ret
      refine ⟨?_, hR.out.1⟩
      have h1 := H.out.1.len
      have h2 := H.out.2.len
      have h3 := hR.out.2.2.2
      rw [List.take_of_length_le (by omega), List.take_of_length_le (by omega)] at h3
      have hv : V = true := by rw [HV.out]; exact decide_eq_true ((route_iff R S).2 ⟨HK.out, HFI.out, HBK.out, h3⟩)
      rw [hv]; rfl
    have hd1 : decide ((i : Int) < (n : Int)) = true := by simp; omega
    obtain ⟨x, ad, hx, rfl, hcx⟩ := (H.out.1.below hR.out.1).one hgo
    obtain ⟨y, bd, hy, rfl, hcy⟩ := (H.out.2.below hR.out.1).one hgo
    have p : wr.cell? (ad.add (i * 6)) = some (.int .u8 (x.kind : Int)) := hcx 0 _ rfl
    have p1 : wr.cell? ⟨(ad.add (i * 6)).block, (ad.add (i * 6)).off + 1, none⟩ = some (.int .i64 x.frm.1) := hcx 1 _ rfl
    have p2 : wr.cell? ⟨(ad.add (i * 6)).block, (ad.add (i * 6)).off + 2, none⟩ = some (.int .i64 x.frm.2) := hcx 2 _ rfl
    have p3 : wr.cell? ⟨(ad.add (i * 6)).block, (ad.add (i * 6)).off + 3, none⟩ = some (.int .i64 x.to.1) := hcx 3 _ rfl
    have p4 : wr.cell? ⟨(ad.add (i * 6)).block, (ad.add (i * 6)).off + 4, none⟩ = some (.int .i64 x.to.2) := hcx 4 _ rfl
    have p5 : wr.cell? ⟨(ad.add (i * 6)).block, (ad.add (i * 6)).off + 5, none⟩ = some (.int .i64 x.order) := hcx 5 _ rfl
    have q : wr.cell? (bd.add (i * 6)) = some (.int .u8 (y.kind : Int)) := hcy 0 _ rfl
    have q1 : wr.cell? ⟨(bd.add (i * 6)).block, (bd.add (i * 6)).off + 1, none⟩ = some (.int .i64 y.frm.1) := hcy 1 _ rfl
    have q2 : wr.cell? ⟨(bd.add (i * 6)).block, (bd.add (i * 6)).off + 2, none⟩ = some (.int .i64 y.frm.2) := hcy 2 _ rfl
    have q3 : wr.cell? ⟨(bd.add (i * 6)).block, (bd.add (i * 6)).off + 3, none⟩ = some (.int .i64 y.to.1) := hcy 3 _ rfl
    have q4 : wr.cell? ⟨(bd.add (i * 6)).block, (bd.add (i * 6)).off + 4, none⟩ = some (.int .i64 y.to.2) := hcy 4 _ rfl
    have q5 : wr.cell? ⟨(bd.add (i * 6)).block, (bd.add (i * 6)).off + 5, none⟩ = some (.int .i64 y.order) := hcy 5 _ rfl
    have HX := Lib.hid (And.intro hx hy)
    clear hx hy hcx hcy
    obtain ⟨E, hE⟩ : ∃ E, E = !decide (x = y) := ⟨_, rfl⟩
    have hq : ∀ w0, (binOp .neq 66 (.agg (hCells x)) (.agg (hCells y))).run Tryz.prog w0 = .ok (.bool E) w0 := fun w0 => by rw [hE]; exact neq_hop x y w0
    unfold hCells at hq
    have HE := Lib.hid hE
    clear hE
    cases E
    · have HXY := Lib.hid (show x = y by have := HE.out; simpa using this.symm)
      go_upto_region 6 with fail
      go_quiet (fail)
      go_wp2
      go_roundg (gk - 1)
      case measure => omega
      case rel =>
        refine ⟨i + 1, by go_num, by omega, Lib.hid ⟨hR.out.1.trans ((below_drewN _ _).mono hR.out.1.size), hR.out.2.1.below (below_drewN _ _) hR.out.2.1.lt, hR.out.2.2.1.below (below_drewN _ _) hR.out.2.2.1.lt, ?_⟩⟩
        rw [List.take_add_one, List.take_add_one, hR.out.2.2.2, HX.out.1, HX.out.2, HXY.out]
    · have HXY := Lib.hid (show x ≠ y by have := HE.out; simpa using this.symm)
      go_upto_region 6 with fail
      go_quiet (fail)
      go_wp2
      go_ret
      refine ⟨?_, hR.out.1.trans ((below_drewN _ _).mono hR.out.1.size)⟩
      have hv : V = false := by
        rw [HV.out]
        exact decide_eq_false (fun e => HXY.out (by have h1 := HX.out.1; rw [e, HX.out.2] at h1; injection h1 with h1; exact h1.symm))
      rw [hv]; rfl

end Go.Proofs.YtnphlekailodkaaGreatDoor
