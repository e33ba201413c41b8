/-
  CheckRoute of the directory and of the reference, walked; CheckRoute accepts the route of Follow and no other one.
-/
import Derived.Test.YtnphlekailodkaaGreatDoorRp7
import Derived.Test.YtnphlekailodkaaGreatDoorFw
import Derived.Test.YtnphlekailodkaaGreatDoorLw
import Derived.Test.YtnphlekailodkaaGreatDoorOrd
namespace Go.Proofs.YtnphlekailodkaaGreatDoor
open Go.RowKit

namespace Pe
/-- A route is that of a kind, an end, a way back and hops. -/
def sameO (R : Route) (k : Nat) (f : Pair) (bk : Int) (hs : List Hop) : Bool := decide (R.kind = k) && decide (R.fin = f) && decide ((R.back : Int) = bk) && decide (R.hops = hs)
theorem sameO_not {R : Route} {k : Nat} {f : Pair} {bk : Int} {hs : List Hop} (h : R.kind = k → R.fin = f → (R.back : Int) = bk → R.hops = hs → False) : sameO R k f bk hs = false := by
  cases hq : sameO R k f bk hs
  · rfl
  · unfold sameO at hq
    simp only [Bool.and_eq_true, decide_eq_true_eq] at hq
    exact (h hq.1.1.1 hq.1.1.2 hq.1.2 hq.2).elim
theorem sameO_yes {R : Route} {k : Nat} {f : Pair} {bk : Int} {hs : List Hop} (h1 : R.kind = k) (h2 : R.fin = f) (h3 : (R.back : Int) = bk) (h4 : R.hops = hs) : sameO R k f bk hs = true := by
  unfold sameO
  simp [h1, h2, h3, h4]
end Pe

set_option maxRecDepth 1000000 in
set_option maxHeartbeats 8000000 in
theorem rSameRoute_any (A B : Option Addr) (n c m c' : Nat) (R : Pe.Route) (k2 : Nat) (f2 : Pe.Pair) (bk : Int) (hs2 : List Pe.Hop) (w : World) (hA : HopsAt w A n R.hops) (hB : HopsAt w B m hs2) (hn : n ≤ 1000000) :
    Calls Tryz.prog 19 #[.agg (rCells R (.slice A n c)), .agg #[.int .u8 (k2 : Int), .int .i64 f2.1, .int .i64 f2.2, .slice B m c', .int .i64 bk]] w fun e w' => e = .returned (.bool (Pe.sameO R k2 f2 bk hs2)) ∧ Below w.heap.size w w' := by
  have H := Lib.hid (And.intro hA hB)
  obtain ⟨V, hV⟩ : ∃ V, V = Pe.sameO R k2 f2 bk hs2 := ⟨_, rfl⟩
  rw [← hV]
  have HV := Lib.hid hV
  clear hA hB hV
  go_enter Tryz.func19, Tryz.ntmps19
  unfold rCells
  go_upto_region 1 with fail
  obtain ⟨b, hb⟩ : ∃ b, b = w.heap.size := ⟨_, rfl⟩
  obtain ⟨w1, hw1⟩ : ∃ w1, w1 = (w.alloc (.cells #[.int .u8 (R.kind : Int), .int .i64 R.fin.1, .int .i64 R.fin.2, .slice A n c, .int .i64 (R.back : Int)] 34)).alloc (.cells #[.int .u8 (k2 : Int), .int .i64 f2.1, .int .i64 f2.2, .slice B m c', .int .i64 bk] 34) := ⟨_, rfl⟩
  have hB1 : Below w.heap.size w w1 := by rw [hw1]; exact ((Below.refl _ w).alloc (Nat.le_refl _) _).alloc (by simp) _
  have hc1 : Blk w1 b 34 #[.int .u8 (R.kind : Int), .int .i64 R.fin.1, .int .i64 R.fin.2, .slice A n c, .int .i64 (R.back : Int)] := by rw [hw1, hb]; exact (Blk.fresh w _ _).alloc _
  have hr1 : Blk w1 (b + 1) 34 #[.int .u8 (k2 : Int), .int .i64 f2.1, .int .i64 f2.2, .slice B m c', .int .i64 bk] := by rw [hw1, hb]; have := Blk.fresh (w.alloc (.cells #[.int .u8 (R.kind : Int), .int .i64 R.fin.1, .int .i64 R.fin.2, .slice A n c, .int .i64 (R.back : Int)] 34)) 34 #[.int .u8 (k2 : Int), .int .i64 f2.1, .int .i64 f2.2, .slice B m c', .int .i64 bk]; simpa using this
  rw [← hb, ← hw1]
  have H1 := Lib.hid (And.intro hB1 (And.intro hc1 hr1))
  clear hB1 hc1 hr1 hw1 hb
  have a0 : w1.cell? ⟨b, 0, none⟩ = some (.int .u8 (R.kind : Int)) := H1.out.2.1.cell 0
  have a1 : w1.cell? ⟨b, 1, none⟩ = some (.int .i64 R.fin.1) := H1.out.2.1.cell 1
  have a2 : w1.cell? ⟨b, 2, none⟩ = some (.int .i64 R.fin.2) := H1.out.2.1.cell 2
  have a3 : w1.cell? ⟨b, 3, none⟩ = some (.slice A n c) := H1.out.2.1.cell 3
  have a4 : w1.cell? ⟨b, 4, none⟩ = some (.int .i64 (R.back : Int)) := H1.out.2.1.cell 4
  have b0 : w1.cell? ⟨b + 1, 0, none⟩ = some (.int .u8 (k2 : Int)) := H1.out.2.2.cell 0
  have b1 : w1.cell? ⟨b + 1, 1, none⟩ = some (.int .i64 f2.1) := H1.out.2.2.cell 1
  have b2 : w1.cell? ⟨b + 1, 2, none⟩ = some (.int .i64 f2.2) := H1.out.2.2.cell 2
  have b3 : w1.cell? ⟨b + 1, 3, none⟩ = some (.slice B m c') := H1.out.2.2.cell 3
  have b4 : w1.cell? ⟨b + 1, 4, none⟩ = some (.int .i64 bk) := H1.out.2.2.cell 4
  by_cases hk : R.kind = k2
  case neg =>
    have d1 : ((R.kind : Int) != (k2 : Int)) = true := by simp; omega
    have HQ := Lib.hid hk
    clear hk
    go_wp2
    go_ret
    refine ⟨?_, H1.out.1⟩
    have hv : V = false := by
      rw [HV.out]
      exact Pe.sameO_not (fun e1 e2 e3 e4 => HQ.out (e1))
    rw [hv]; rfl
  have d1 : ((R.kind : Int) != (k2 : Int)) = false := by simp; omega
  have HK := Lib.hid hk
  clear hk
  by_cases hf : R.fin = f2
  case neg =>
    have hnq : ∀ w0, (binOp .neq 28 (.agg #[.int .i64 R.fin.1, .int .i64 R.fin.2]) (.agg #[.int .i64 f2.1, .int .i64 f2.2])).run Tryz.prog w0 = .ok (.bool true) w0 := fun w0 => by
      have := neq_pair R.fin f2 w0
      rw [show (!decide (R.fin = f2)) = true by simp [hf]] at this
      exact this
    have HQ := Lib.hid hf
    clear hf
    go_wp2
    go_ret
    refine ⟨?_, H1.out.1⟩
    have hv : V = false := by
      rw [HV.out]
      exact Pe.sameO_not (fun e1 e2 e3 e4 => HQ.out (e2))
    rw [hv]; rfl
  have hnq : ∀ w0, (binOp .neq 28 (.agg #[.int .i64 R.fin.1, .int .i64 R.fin.2]) (.agg #[.int .i64 f2.1, .int .i64 f2.2])).run Tryz.prog w0 = .ok (.bool false) w0 := fun w0 => by
    have := neq_pair R.fin f2 w0
    rw [show (!decide (R.fin = f2)) = false by simp [hf]] at this
    exact this
  have HFI := Lib.hid hf
  clear hf
  by_cases hbk : (R.back : Int) = bk
  case neg =>
    have d2 : ((R.back : Int) != bk) = true := by simp; omega
    have HQ := Lib.hid hbk
    clear hbk
    go_wp2
    go_ret
    refine ⟨?_, H1.out.1⟩
    have hv : V = false := by
      rw [HV.out]
      exact Pe.sameO_not (fun e1 e2 e3 e4 => HQ.out (e3))
    rw [hv]; rfl
  have d2 : ((R.back : Int) != bk) = false := by simp; omega
  have HBK := Lib.hid hbk
  clear hbk
  by_cases hnm : n = m
  case neg =>
    have d3 : ((n : Int) != (m : Int)) = true := by simp; omega
    have HQ := Lib.hid (show ¬ R.hops.length = hs2.length by rw [← H.out.1.len, ← H.out.2.len]; exact hnm)
    clear hnm
    go_wp2
    go_ret
    refine ⟨?_, H1.out.1⟩
    have hv : V = false := by
      rw [HV.out]
      exact Pe.sameO_not (fun e1 e2 e3 e4 => HQ.out (by rw [e4]))
    rw [hv]; rfl
  subst hnm
  have d3 : ((n : Int) != (n : Int)) = false := by simp
  go_wp2_with fail
  clear a0 a1 a2 a3 a4 b0 b1 b2 b3 b4
  go_loopg [5] n (fun q s5 wr => ∃ i : Nat, s5 = .int .i64 (i : Int) ∧ i + q = n ∧ Hid (Below w.heap.size w wr ∧ Blk wr b 34 #[.int .u8 (R.kind : Int), .int .i64 R.fin.1, .int .i64 R.fin.2, .slice A n c, .int .i64 (R.back : Int)] ∧ Blk wr (b + 1) 34 #[.int .u8 (k2 : Int), .int .i64 f2.1, .int .i64 f2.2, .slice B n c', .int .i64 bk] ∧ R.hops.take i = hs2.take i))
  case atStart => exact ⟨0, by go_num, by omega, Lib.hid ⟨H1.out.1, H1.out.2.1, H1.out.2.2, by simp⟩⟩
  case round =>
    obtain ⟨i, rfl, hi, hR⟩ := hrel
    have a3 : wr.cell? ⟨b, 3, none⟩ = some (.slice A n c) := hR.out.2.1.cell 3
    have b3 : wr.cell? ⟨b + 1, 3, none⟩ = some (.slice B n c') := hR.out.2.2.1.cell 3
    by_cases hgo : i < n
    case neg =>
      have hd1 : decide ((i : Int) < (n : Int)) = false := by simp; omega
      go_wp2
      go_ret
      refine ⟨?_, hR.out.1⟩
      have h1 := H.out.1.len
      have h2 := H.out.2.len
      have h3 := hR.out.2.2.2
      rw [List.take_of_length_le (by omega), List.take_of_length_le (by omega)] at h3
      have hv : V = true := by rw [HV.out]; exact Pe.sameO_yes HK.out HFI.out HBK.out h3
      rw [hv]; rfl
    have hd1 : decide ((i : Int) < (n : Int)) = true := by simp; omega
    obtain ⟨x, ad, hx, rfl, hcx⟩ := (H.out.1.below hR.out.1).one hgo
    obtain ⟨y, bd, hy, rfl, hcy⟩ := (H.out.2.below hR.out.1).one hgo
    have p : wr.cell? (ad.add (i * 6)) = some (.int .u8 (x.kind : Int)) := hcx 0 _ rfl
    have p1 : wr.cell? ⟨(ad.add (i * 6)).block, (ad.add (i * 6)).off + 1, none⟩ = some (.int .i64 x.frm.1) := hcx 1 _ rfl
    have p2 : wr.cell? ⟨(ad.add (i * 6)).block, (ad.add (i * 6)).off + 2, none⟩ = some (.int .i64 x.frm.2) := hcx 2 _ rfl
    have p3 : wr.cell? ⟨(ad.add (i * 6)).block, (ad.add (i * 6)).off + 3, none⟩ = some (.int .i64 x.to.1) := hcx 3 _ rfl
    have p4 : wr.cell? ⟨(ad.add (i * 6)).block, (ad.add (i * 6)).off + 4, none⟩ = some (.int .i64 x.to.2) := hcx 4 _ rfl
    have p5 : wr.cell? ⟨(ad.add (i * 6)).block, (ad.add (i * 6)).off + 5, none⟩ = some (.int .i64 x.order) := hcx 5 _ rfl
    have q : wr.cell? (bd.add (i * 6)) = some (.int .u8 (y.kind : Int)) := hcy 0 _ rfl
    have q1 : wr.cell? ⟨(bd.add (i * 6)).block, (bd.add (i * 6)).off + 1, none⟩ = some (.int .i64 y.frm.1) := hcy 1 _ rfl
    have q2 : wr.cell? ⟨(bd.add (i * 6)).block, (bd.add (i * 6)).off + 2, none⟩ = some (.int .i64 y.frm.2) := hcy 2 _ rfl
    have q3 : wr.cell? ⟨(bd.add (i * 6)).block, (bd.add (i * 6)).off + 3, none⟩ = some (.int .i64 y.to.1) := hcy 3 _ rfl
    have q4 : wr.cell? ⟨(bd.add (i * 6)).block, (bd.add (i * 6)).off + 4, none⟩ = some (.int .i64 y.to.2) := hcy 4 _ rfl
    have q5 : wr.cell? ⟨(bd.add (i * 6)).block, (bd.add (i * 6)).off + 5, none⟩ = some (.int .i64 y.order) := hcy 5 _ rfl
    have HX := Lib.hid (And.intro hx hy)
    clear hx hy hcx hcy
    obtain ⟨E, hE⟩ : ∃ E, E = !decide (x = y) := ⟨_, rfl⟩
    have hq : ∀ w0, (binOp .neq 66 (.agg (hCells x)) (.agg (hCells y))).run Tryz.prog w0 = .ok (.bool E) w0 := fun w0 => by rw [hE]; exact neq_hop x y w0
    unfold hCells at hq
    have HE := Lib.hid hE
    clear hE
    cases E
    · have HXY := Lib.hid (show x = y by have := HE.out; simpa using this.symm)
      go_upto_region 6 with fail
      go_quiet (fail)
      go_wp2
      go_roundg (gk - 1)
      case measure => omega
      case rel =>
        refine ⟨i + 1, by go_num, by omega, Lib.hid ⟨hR.out.1.trans ((below_drewN _ _).mono hR.out.1.size), hR.out.2.1.below (below_drewN _ _) hR.out.2.1.lt, hR.out.2.2.1.below (below_drewN _ _) hR.out.2.2.1.lt, ?_⟩⟩
        rw [List.take_add_one, List.take_add_one, hR.out.2.2.2, HX.out.1, HX.out.2, HXY.out]
    · have HXY := Lib.hid (show x ≠ y by have := HE.out; simpa using this.symm)
      go_upto_region 6 with fail
      go_quiet (fail)
      go_wp2
      go_ret
      refine ⟨?_, hR.out.1.trans ((below_drewN _ _).mono hR.out.1.size)⟩
      have hv : V = false := by
        rw [HV.out]
        exact Pe.sameO_not (fun _ _ _ e => HXY.out (by have h1 := HX.out.1; rw [e, HX.out.2] at h1; injection h1 with h1; exact h1.symm))
      rw [hv]; rfl


set_option maxRecDepth 1000000 in
set_option maxHeartbeats 4000000 in
theorem sEqualHop_calls (A B : Option Addr) (n c m c' : Nat) (l r : List Pe.Hop) (w : World) (h : HopsAt w A n l) (h' : HopsAt w B m r) (hn : n ≤ 1000000) :
    Calls Tryz.prog 58 #[.slice A n c, .slice B m c'] w fun e w' => e = .returned (.bool (decide (l = r))) ∧ Below w.heap.size w w' := by
  have H := Lib.hid (And.intro h h')
  obtain ⟨V, hV⟩ : ∃ V, V = decide (l = r) := ⟨_, rfl⟩
  rw [← hV]
  have HV := Lib.hid hV
  clear h h' hV
  go_enter Tryz.func58, Tryz.ntmps58
  by_cases hnm : n = m
  case neg =>
    have hd1 : ((n : Int) != (m : Int)) = true := by simp; omega
    have HN := Lib.hid hnm
    clear hnm
    go_wp2
    go_ret
    refine ⟨?_, Below.refl _ _⟩
    have hv : V = false := by
      rw [HV.out]
      exact decide_eq_false (fun e => HN.out (by rw [H.out.1.len, H.out.2.len, e]))
    rw [hv]; rfl
  subst hnm
  have hd1 : ((n : Int) != (n : Int)) = false := by simp
  go_wp2_with fail
  go_loopg [13] n (fun q s13 wr => ∃ i : Nat, s13 = .int .i64 (i : Int) ∧ i + q = n ∧ Hid (Below w.heap.size w wr ∧ l.take i = r.take i))
  case atStart => exact ⟨0, by go_num, by omega, Lib.hid ⟨Below.refl _ _, by simp⟩⟩
  case round =>
    obtain ⟨i, rfl, hi, hR⟩ := hrel
    by_cases hgo : i < n
    case neg =>
      have hd1 : decide ((i : Int) < (n : Int)) = false := by simp; omega
      go_wp2
      go_ret
      refine ⟨?_, hR.out.1⟩
      have := hR.out.2
      have h1 := H.out.1.len
      have h2 := H.out.2.len
      rw [List.take_of_length_le (by omega), List.take_of_length_le (by omega)] at this
      rw [HV.out, decide_eq_true this]; rfl
    have hd1 : decide ((i : Int) < (n : Int)) = true := by simp; omega
    obtain ⟨x, ad, hx, rfl, hcx⟩ := (H.out.1.below hR.out.1).one hgo
    obtain ⟨y, bd, hy, rfl, hcy⟩ := (H.out.2.below hR.out.1).one hgo
    have p : wr.cell? (ad.add (i * 6)) = some (.int .u8 (x.kind : Int)) := hcx 0 _ rfl
    have p1 : wr.cell? ⟨(ad.add (i * 6)).block, (ad.add (i * 6)).off + 1, none⟩ = some (.int .i64 x.frm.1) := hcx 1 _ rfl
    have p2 : wr.cell? ⟨(ad.add (i * 6)).block, (ad.add (i * 6)).off + 2, none⟩ = some (.int .i64 x.frm.2) := hcx 2 _ rfl
    have p3 : wr.cell? ⟨(ad.add (i * 6)).block, (ad.add (i * 6)).off + 3, none⟩ = some (.int .i64 x.to.1) := hcx 3 _ rfl
    have p4 : wr.cell? ⟨(ad.add (i * 6)).block, (ad.add (i * 6)).off + 4, none⟩ = some (.int .i64 x.to.2) := hcx 4 _ rfl
    have p5 : wr.cell? ⟨(ad.add (i * 6)).block, (ad.add (i * 6)).off + 5, none⟩ = some (.int .i64 x.order) := hcx 5 _ rfl
    have q : wr.cell? (bd.add (i * 6)) = some (.int .u8 (y.kind : Int)) := hcy 0 _ rfl
    have q1 : wr.cell? ⟨(bd.add (i * 6)).block, (bd.add (i * 6)).off + 1, none⟩ = some (.int .i64 y.frm.1) := hcy 1 _ rfl
    have q2 : wr.cell? ⟨(bd.add (i * 6)).block, (bd.add (i * 6)).off + 2, none⟩ = some (.int .i64 y.frm.2) := hcy 2 _ rfl
    have q3 : wr.cell? ⟨(bd.add (i * 6)).block, (bd.add (i * 6)).off + 3, none⟩ = some (.int .i64 y.to.1) := hcy 3 _ rfl
    have q4 : wr.cell? ⟨(bd.add (i * 6)).block, (bd.add (i * 6)).off + 4, none⟩ = some (.int .i64 y.to.2) := hcy 4 _ rfl
    have q5 : wr.cell? ⟨(bd.add (i * 6)).block, (bd.add (i * 6)).off + 5, none⟩ = some (.int .i64 y.order) := hcy 5 _ rfl
    have HX := Lib.hid (And.intro hx hy)
    clear hx hy hcx hcy
    obtain ⟨E, hE⟩ : ∃ E, E = !decide (x = y) := ⟨_, rfl⟩
    have hq : ∀ w0, (binOp .neq 66 (.agg (hCells x)) (.agg (hCells y))).run Tryz.prog w0 = .ok (.bool E) w0 := fun w0 => by rw [hE]; exact neq_hop x y w0
    unfold hCells at hq
    have HE := Lib.hid hE
    clear hE
    cases E
    · have HXY := Lib.hid (show x = y by have := HE.out; simpa using this.symm)
      go_upto_region 6 with fail
      go_quiet (fail)
      go_wp2
      go_roundg (gk - 1)
      case measure => omega
      case rel =>
        refine ⟨i + 1, by go_num, by omega, Lib.hid ⟨hR.out.1.trans ((below_drewN _ _).mono hR.out.1.size), ?_⟩⟩
        rw [List.take_add_one, List.take_add_one, hR.out.2, HX.out.1, HX.out.2, HXY.out]
    · have HXY := Lib.hid (show x ≠ y by have := HE.out; simpa using this.symm)
      go_upto_region 6 with fail
      go_quiet (fail)
      go_wp2
      go_ret
      refine ⟨?_, hR.out.1.trans ((below_drewN _ _).mono hR.out.1.size)⟩
      have hv : V = false := by
        rw [HV.out]
        exact decide_eq_false (fun e => HXY.out (by have h1 := HX.out.1; rw [e, HX.out.2] at h1; injection h1 with h1; exact h1.symm))
      rw [hv]; rfl


theorem Pe.from_short2 {l : List Pe.Ent} {s d : Int} {c : Pe.Pair} : ∀ (k : Nat) (at_ : Pe.Pair) (hs : List Pe.Hop), (Pe.followFrom l s d k at_ hs).hops.length ≤ hs.length + k
  | 0, at_, hs => by simp [Pe.followFrom]
  | k + 1, at_, hs => by
    unfold Pe.followFrom
    repeat' split
    all_goals
      first
        | (have := Pe.from_short2 (l := l) (s := s) (d := d) (c := c) k (Pe.step l at_ d).1.to (hs ++ [(Pe.step l at_ d).1]); simp at this; omega)
        | (simp; omega)
        | simp
theorem Pe.follow_short2 {l : List Pe.Ent} {c : Pe.Pair} {s d : Int} {R : Pe.Route} {q : Int} (h : (R, q) = Pe.follow l c s d) : R.hops.length ≤ l.length + 2 := by
  unfold Pe.follow at h
  split at h
  · injection h with h1 _
    rw [h1]
    have := Pe.from_short2 (l := l) (s := s) (d := d) (c := c) (l.length + 2) c []
    simpa using this
  · injection h with h1 _
    rw [h1]; simp [Pe.noRoute]

set_option maxRecDepth 1000000 in
set_option maxHeartbeats 8000000 in
theorem CheckRoute_calls (A B : Option Addr) (n c m c' : Nat) (l : List Pe.Ent) (cd : Pe.Pair) (s d : Int) (k2 : Nat) (f2 : Pe.Pair) (bk : Int) (hs2 : List Pe.Hop) (w : World) (h : EntsAt w A n l) (hB : HopsAt w B m hs2) (hn : n ≤ 100000) :
    Calls Tryz.prog 20 #[.slice A n c, .agg (pCells cd), .int .i64 s, .int .i64 d, .agg #[.int .u8 (k2 : Int), .int .i64 f2.1, .int .i64 f2.2, .slice B m c', .int .i64 bk]] w fun e w' => e = .returned (.bool (decide ((Pe.follow l cd s d).2 = 0) && Pe.sameO (Pe.follow l cd s d).1 k2 f2 bk hs2)) ∧ Below w.heap.size w w' := by
  have H := Lib.hid (And.intro h hB)
  obtain ⟨⟨R, q⟩, hR⟩ : ∃ z, z = Pe.follow l cd s d := ⟨_, rfl⟩
  obtain ⟨V, hV⟩ : ∃ V, V = (decide ((Pe.follow l cd s d).2 = 0) && Pe.sameO (Pe.follow l cd s d).1 k2 f2 bk hs2) := ⟨_, rfl⟩
  rw [← hV]
  rw [← hR] at hV
  dsimp only at hV
  have hfc := fun w0 (hb : Below w.heap.size w w0) => Follow_calls A n c l cd s d w0 (h.below hb) hn
  rw [← hR] at hfc
  unfold pCells at hfc
  have HFC := Lib.hid hfc
  have HQ := Lib.hid (Pe.follow_short2 hR)
  have HLEN := Lib.hid h.len
  have HV := Lib.hid hV
  clear h hB hV hfc hR
  go_enter Tryz.func20, Tryz.ntmps20
  unfold pCells
  go_upto_region 1 with fail
  obtain ⟨b, hb⟩ : ∃ b, b = w.heap.size := ⟨_, rfl⟩
  obtain ⟨w1, hw1⟩ : ∃ w1, w1 = (w.alloc (.cells (pCells cd) 28)).alloc (.cells #[.int .u8 (k2 : Int), .int .i64 f2.1, .int .i64 f2.2, .slice B m c', .int .i64 bk] 34) := ⟨_, rfl⟩
  have hB1 : Below w.heap.size w w1 := by rw [hw1]; exact ((Below.refl _ w).alloc (Nat.le_refl _) _).alloc (by simp) _
  have hc1 : Blk w1 b 28 (pCells cd) := by rw [hw1, hb]; exact (Blk.fresh w _ _).alloc _
  have hr1 : Blk w1 (b + 1) 34 #[.int .u8 (k2 : Int), .int .i64 f2.1, .int .i64 f2.2, .slice B m c', .int .i64 bk] := by rw [hw1, hb]; have := Blk.fresh (w.alloc (.cells (pCells cd) 28)) 34 #[.int .u8 (k2 : Int), .int .i64 f2.1, .int .i64 f2.2, .slice B m c', .int .i64 bk]; simpa using this
  unfold pCells at hw1
  rw [← hb, ← hw1]
  have H1 := Lib.hid (And.intro hB1 (And.intro hc1 hr1))
  have k0 : w1.cell? ⟨b, 0, none⟩ = some (.int .i64 cd.1) := hc1.cell 0
  have k1 : w1.cell? ⟨b, 1, none⟩ = some (.int .i64 cd.2) := hc1.cell 1
  clear hB1 hc1 hr1 hw1 hb
  go_wp2_with fail
  refine (HFC.out w1 H1.out.1).mono ?_
  rintro e w3 ⟨⟨v, rfl, ho⟩, hb3⟩
  dsimp only at ho
  obtain ⟨nh, hnh⟩ : ∃ nh, nh = R.hops.length := ⟨_, rfl⟩
  rw [← hnh] at ho
  obtain ⟨A3, c3, rfl, hHA, _⟩ := own_hops ho hnh
  have H3 := Lib.hid (And.intro (H1.out.1.trans (hb3.mono H1.out.1.size)) (And.intro (H1.out.2.2.below hb3 H1.out.2.2.lt) hHA))
  have hnh6 : nh ≤ 1000000 := by have h1 := HQ.out; have h2 := HLEN.out; omega
  clear ho hb3 hHA hnh k0 k1
  unfold rCells
  dsimp only
  go_upto_region 2 with fail
  obtain ⟨g, hg⟩ : ∃ g, g = w3.heap.size := ⟨_, rfl⟩
  obtain ⟨w4, hw⟩ : ∃ w0, w0 = w3.alloc (.cells #[.int .u8 (R.kind : Int), .int .i64 R.fin.1, .int .i64 R.fin.2, .slice A3 nh c3, .int .i64 (R.back : Int)] 34) := ⟨_, rfl⟩
  have hbl : Below w3.heap.size w3 w4 := by rw [hw]; exact (Below.refl _ w3).alloc (Nat.le_refl _) _
  have hgb : Blk w4 g 34 #[.int .u8 (R.kind : Int), .int .i64 R.fin.1, .int .i64 R.fin.2, .slice A3 nh c3, .int .i64 (R.back : Int)] := by rw [hw, hg]; exact Blk.fresh _ _ _
  rw [← hg, ← hw]
  clear hg hw
  have H4 := Lib.hid (And.intro (H3.out.1.trans (hbl.mono H3.out.1.size)) (And.intro (H3.out.2.1.below hbl H3.out.2.1.lt) (And.intro (H3.out.2.2.below hbl) hgb)))
  clear hbl hgb
  have a0 : w4.cell? ⟨g, 0, none⟩ = some (.int .u8 (R.kind : Int)) := H4.out.2.2.2.cell 0
  have a1 : w4.cell? ⟨g, 1, none⟩ = some (.int .i64 R.fin.1) := H4.out.2.2.2.cell 1
  have a2 : w4.cell? ⟨g, 2, none⟩ = some (.int .i64 R.fin.2) := H4.out.2.2.2.cell 2
  have a3 : w4.cell? ⟨g, 3, none⟩ = some (.slice A3 nh c3) := H4.out.2.2.2.cell 3
  have a4 : w4.cell? ⟨g, 4, none⟩ = some (.int .i64 (R.back : Int)) := H4.out.2.2.2.cell 4
  have b0 : w4.cell? ⟨b + 1, 0, none⟩ = some (.int .u8 (k2 : Int)) := H4.out.2.1.cell 0
  have b1 : w4.cell? ⟨b + 1, 1, none⟩ = some (.int .i64 f2.1) := H4.out.2.1.cell 1
  have b2 : w4.cell? ⟨b + 1, 2, none⟩ = some (.int .i64 f2.2) := H4.out.2.1.cell 2
  have b3 : w4.cell? ⟨b + 1, 3, none⟩ = some (.slice B m c') := H4.out.2.1.cell 3
  have b4 : w4.cell? ⟨b + 1, 4, none⟩ = some (.int .i64 bk) := H4.out.2.1.cell 4
  by_cases hq0 : q = 0
  case neg =>
    have d1 : (q == 0) = false := by simpa using hq0
    have HQ0 := Lib.hid hq0
    clear hq0
    go_wp2
    go_ret
    refine ⟨?_, H4.out.1⟩
    have hv : V = false := by
      rw [HV.out]
      rw [decide_eq_false HQ0.out]; rfl
    rw [hv]; rfl
  have d1 : (q == 0) = true := by simpa using hq0
  have HQ0 := Lib.hid hq0
  clear hq0
  by_cases hk : R.kind = k2
  case neg =>
    have d2 : ((R.kind : Int) == (k2 : Int)) = false := by simp; omega
    have HK := Lib.hid hk
    clear hk
    go_wp2
    go_ret
    refine ⟨?_, H4.out.1⟩
    have hv : V = false := by
      rw [HV.out]
      rw [Pe.sameO_not (fun e _ _ _ => HK.out e), Bool.and_false]
    rw [hv]; rfl
  have d2 : ((R.kind : Int) == (k2 : Int)) = true := by simp; omega
  have HK := Lib.hid hk
  clear hk
  by_cases hf : R.fin = f2
  case neg =>
    have heq : ∀ w0, (binOp .eql 28 (.agg #[.int .i64 R.fin.1, .int .i64 R.fin.2]) (.agg #[.int .i64 f2.1, .int .i64 f2.2])).run Tryz.prog w0 = .ok (.bool false) w0 := fun w0 => by
      have := eql_pair R.fin f2 w0
      rw [show decide (R.fin = f2) = false by simp [hf]] at this
      exact this
    have HF := Lib.hid hf
    clear hf
    go_wp2
    go_ret
    refine ⟨?_, H4.out.1⟩
    have hv : V = false := by
      rw [HV.out]
      rw [Pe.sameO_not (fun _ e _ _ => HF.out e), Bool.and_false]
    rw [hv]; rfl
  have heq : ∀ w0, (binOp .eql 28 (.agg #[.int .i64 R.fin.1, .int .i64 R.fin.2]) (.agg #[.int .i64 f2.1, .int .i64 f2.2])).run Tryz.prog w0 = .ok (.bool true) w0 := fun w0 => by
    have := eql_pair R.fin f2 w0
    rw [show decide (R.fin = f2) = true by simp [hf]] at this
    exact this
  have HF := Lib.hid hf
  clear hf
  by_cases hbk : (R.back : Int) = bk
  case neg =>
    have d3 : ((R.back : Int) == bk) = false := by simpa using hbk
    have HBK := Lib.hid hbk
    clear hbk
    go_wp2
    go_ret
    refine ⟨?_, H4.out.1⟩
    have hv : V = false := by
      rw [HV.out]
      rw [Pe.sameO_not (fun _ _ e _ => HBK.out e), Bool.and_false]
    rw [hv]; rfl
  have d3 : ((R.back : Int) == bk) = true := by simpa using hbk
  have HBK := Lib.hid hbk
  clear hbk
  have hsc := sEqualHop_calls A3 B nh c3 m c' R.hops hs2 w4 H4.out.2.2.1 (H.out.2.below H4.out.1) hnh6
  obtain ⟨E, hE⟩ : ∃ E, E = decide (R.hops = hs2) := ⟨_, rfl⟩
  rw [← hE] at hsc
  have HSC := Lib.hid hsc
  have HE := Lib.hid hE
  clear hsc hE
  go_wp2_with fail
  refine HSC.out.mono ?_
  rintro e w5 ⟨rfl, hb5⟩
  have H5 := Lib.hid (H4.out.1.trans (hb5.mono H4.out.1.size))
  clear hb5
  dsimp only
  go_wp2
  go_ret
  refine ⟨?_, H5.out⟩
  have hv : V = E := by
    rw [HV.out, HE.out]
    unfold Pe.sameO
    rw [decide_eq_true HQ0.out, decide_eq_true HK.out, decide_eq_true HF.out, decide_eq_true HBK.out]; rfl
  rw [hv]; rfl

set_option maxRecDepth 1000000 in
set_option maxHeartbeats 8000000 in
theorem rCheckRoute_calls (A B : Option Addr) (n c m c' : Nat) (l : List Pe.Ent) (cd : Pe.Pair) (s d : Int) (k2 : Nat) (f2 : Pe.Pair) (bk : Int) (hs2 : List Pe.Hop) (w : World) (h : EntsAt w A n l) (hB : HopsAt w B m hs2) (hn : n ≤ 100000) :
    Calls Tryz.prog 21 #[.slice A n c, .agg (pCells cd), .int .i64 s, .int .i64 d, .agg #[.int .u8 (k2 : Int), .int .i64 f2.1, .int .i64 f2.2, .slice B m c', .int .i64 bk]] w fun e w' => e = .returned (.bool (decide ((Pe.follow l cd s d).2 = 0) && Pe.sameO (Pe.follow l cd s d).1 k2 f2 bk hs2)) ∧ Below w.heap.size w w' := by
  have H := Lib.hid (And.intro h hB)
  obtain ⟨⟨R, q⟩, hR⟩ : ∃ z, z = Pe.follow l cd s d := ⟨_, rfl⟩
  obtain ⟨V, hV⟩ : ∃ V, V = (decide ((Pe.follow l cd s d).2 = 0) && Pe.sameO (Pe.follow l cd s d).1 k2 f2 bk hs2) := ⟨_, rfl⟩
  rw [← hV]
  rw [← hR] at hV
  dsimp only at hV
  have hfc := fun w0 (hb : Below w.heap.size w w0) => rFollow_calls A n c l cd s d w0 (h.below hb) hn
  rw [← hR] at hfc
  unfold pCells at hfc
  have HFC := Lib.hid hfc
  have HQ := Lib.hid (Pe.follow_short2 hR)
  have HLEN := Lib.hid h.len
  have HV := Lib.hid hV
  clear h hB hV hfc hR
  go_enter Tryz.func21, Tryz.ntmps21
  unfold pCells
  go_upto_region 1 with fail
  obtain ⟨b, hb⟩ : ∃ b, b = w.heap.size := ⟨_, rfl⟩
  obtain ⟨w1, hw1⟩ : ∃ w1, w1 = (w.alloc (.cells (pCells cd) 28)).alloc (.cells #[.int .u8 (k2 : Int), .int .i64 f2.1, .int .i64 f2.2, .slice B m c', .int .i64 bk] 34) := ⟨_, rfl⟩
  have hB1 : Below w.heap.size w w1 := by rw [hw1]; exact ((Below.refl _ w).alloc (Nat.le_refl _) _).alloc (by simp) _
  have hc1 : Blk w1 b 28 (pCells cd) := by rw [hw1, hb]; exact (Blk.fresh w _ _).alloc _
  have hr1 : Blk w1 (b + 1) 34 #[.int .u8 (k2 : Int), .int .i64 f2.1, .int .i64 f2.2, .slice B m c', .int .i64 bk] := by rw [hw1, hb]; have := Blk.fresh (w.alloc (.cells (pCells cd) 28)) 34 #[.int .u8 (k2 : Int), .int .i64 f2.1, .int .i64 f2.2, .slice B m c', .int .i64 bk]; simpa using this
  unfold pCells at hw1
  rw [← hb, ← hw1]
  have H1 := Lib.hid (And.intro hB1 (And.intro hc1 hr1))
  have k0 : w1.cell? ⟨b, 0, none⟩ = some (.int .i64 cd.1) := hc1.cell 0
  have k1 : w1.cell? ⟨b, 1, none⟩ = some (.int .i64 cd.2) := hc1.cell 1
  clear hB1 hc1 hr1 hw1 hb
  go_wp2_with fail
  refine (HFC.out w1 H1.out.1).mono ?_
  rintro e w3 ⟨⟨v, rfl, ho⟩, hb3⟩
  dsimp only at ho
  obtain ⟨nh, hnh⟩ : ∃ nh, nh = R.hops.length := ⟨_, rfl⟩
  rw [← hnh] at ho
  obtain ⟨A3, c3, rfl, hHA, _⟩ := own_hops ho hnh
  have H3 := Lib.hid (And.intro (H1.out.1.trans (hb3.mono H1.out.1.size)) (And.intro (H1.out.2.2.below hb3 H1.out.2.2.lt) hHA))
  have hnh6 : nh ≤ 1000000 := by have h1 := HQ.out; have h2 := HLEN.out; omega
  clear ho hb3 hHA hnh k0 k1
  unfold rCells
  dsimp only
  go_upto_region 2 with fail
  obtain ⟨g, hg⟩ : ∃ g, g = w3.heap.size := ⟨_, rfl⟩
  obtain ⟨w4, hw⟩ : ∃ w0, w0 = w3.alloc (.cells #[.int .u8 (R.kind : Int), .int .i64 R.fin.1, .int .i64 R.fin.2, .slice A3 nh c3, .int .i64 (R.back : Int)] 34) := ⟨_, rfl⟩
  have hbl : Below w3.heap.size w3 w4 := by rw [hw]; exact (Below.refl _ w3).alloc (Nat.le_refl _) _
  have hgb : Blk w4 g 34 #[.int .u8 (R.kind : Int), .int .i64 R.fin.1, .int .i64 R.fin.2, .slice A3 nh c3, .int .i64 (R.back : Int)] := by rw [hw, hg]; exact Blk.fresh _ _ _
  rw [← hg, ← hw]
  clear hg hw
  have H4 := Lib.hid (And.intro (H3.out.1.trans (hbl.mono H3.out.1.size)) (And.intro (H3.out.2.1.below hbl H3.out.2.1.lt) (And.intro (H3.out.2.2.below hbl) hgb)))
  clear hbl hgb
  have a0 : w4.cell? ⟨g, 0, none⟩ = some (.int .u8 (R.kind : Int)) := H4.out.2.2.2.cell 0
  have a1 : w4.cell? ⟨g, 1, none⟩ = some (.int .i64 R.fin.1) := H4.out.2.2.2.cell 1
  have a2 : w4.cell? ⟨g, 2, none⟩ = some (.int .i64 R.fin.2) := H4.out.2.2.2.cell 2
  have a3 : w4.cell? ⟨g, 3, none⟩ = some (.slice A3 nh c3) := H4.out.2.2.2.cell 3
  have a4 : w4.cell? ⟨g, 4, none⟩ = some (.int .i64 (R.back : Int)) := H4.out.2.2.2.cell 4
  have b0 : w4.cell? ⟨b + 1, 0, none⟩ = some (.int .u8 (k2 : Int)) := H4.out.2.1.cell 0
  have b1 : w4.cell? ⟨b + 1, 1, none⟩ = some (.int .i64 f2.1) := H4.out.2.1.cell 1
  have b2 : w4.cell? ⟨b + 1, 2, none⟩ = some (.int .i64 f2.2) := H4.out.2.1.cell 2
  have b3 : w4.cell? ⟨b + 1, 3, none⟩ = some (.slice B m c') := H4.out.2.1.cell 3
  have b4 : w4.cell? ⟨b + 1, 4, none⟩ = some (.int .i64 bk) := H4.out.2.1.cell 4
  have hsc := rSameRoute_any A3 B nh c3 m c' R k2 f2 bk hs2 w4 H4.out.2.2.1 (H.out.2.below H4.out.1) hnh6
  obtain ⟨E, hE⟩ : ∃ E, E = Pe.sameO R k2 f2 bk hs2 := ⟨_, rfl⟩
  rw [← hE] at hsc
  unfold rCells at hsc
  have HSC := Lib.hid hsc
  have HE := Lib.hid hE
  clear hsc hE
  go_wp2_with fail
  refine HSC.out.mono ?_
  rintro e w5 ⟨rfl, hb5⟩
  have H5 := Lib.hid (H4.out.1.trans (hb5.mono H4.out.1.size))
  clear hb5
  dsimp only
  by_cases hq0 : q = 0
  case neg =>
    have d1 : (q == 0) = false := by simpa using hq0
    have HQ0 := Lib.hid hq0
    clear hq0
    go_wp2
    go_ret
    refine ⟨?_, H5.out⟩
    have hv : V = false := by rw [HV.out, decide_eq_false HQ0.out]; rfl
    rw [hv]; rfl
  have d1 : (q == 0) = true := by simpa using hq0
  have HQ0 := Lib.hid hq0
  clear hq0
  go_wp2
  go_ret
  refine ⟨?_, H5.out⟩
  have hv : V = E := by rw [HV.out, HE.out, decide_eq_true HQ0.out]; rfl
  rw [hv]; rfl

end Go.Proofs.YtnphlekailodkaaGreatDoor

namespace Go.Proofs.YtnphlekailodkaaGreatDoor
open Go.RowKit

set_option maxRecDepth 1000000 in
set_option maxHeartbeats 8000000 in
theorem routes_law (A B : Option Addr) (n c m c' : Nat) (l : List Pe.Ent) (cd : Pe.Pair) (s d : Int) (k2 : Nat) (f2 : Pe.Pair) (bk : Int) (hs2 : List Pe.Hop) (w : World) (h : EntsAt w A n l) (hB : HopsAt w B m hs2) (hL : Laid w) :
    Calls Tryz.prog 5 #[.slice A n c, .agg (pCells cd), .int .i64 s, .int .i64 d, .agg #[.int .u8 (k2 : Int), .int .i64 f2.1, .int .i64 f2.2, .slice B m c', .int .i64 bk]] w (Law w) := by
  have H := Lib.hid (And.intro h (And.intro hB hL))
  clear h hB hL
  have hfe := fun w0 => Few_calls A n c w0
  have HFE := Lib.hid hfe
  clear hfe
  go_enter Tryz.func5, Tryz.ntmps5
  unfold pCells
  go_upto_region 1 with fail
  obtain ⟨b, hb⟩ : ∃ b, b = w.heap.size := ⟨_, rfl⟩
  obtain ⟨w1, hw1⟩ : ∃ w1, w1 = (w.alloc (.cells (pCells cd) 28)).alloc (.cells #[.int .u8 (k2 : Int), .int .i64 f2.1, .int .i64 f2.2, .slice B m c', .int .i64 bk] 34) := ⟨_, rfl⟩
  have hB1 : Below w.heap.size w w1 := by rw [hw1]; exact ((Below.refl _ w).alloc (Nat.le_refl _) _).alloc (by simp) _
  have hc1 : Blk w1 b 28 (pCells cd) := by rw [hw1, hb]; exact (Blk.fresh w _ _).alloc _
  have hr1 : Blk w1 (b + 1) 34 #[.int .u8 (k2 : Int), .int .i64 f2.1, .int .i64 f2.2, .slice B m c', .int .i64 bk] := by rw [hw1, hb]; have := Blk.fresh (w.alloc (.cells (pCells cd) 28)) 34 #[.int .u8 (k2 : Int), .int .i64 f2.1, .int .i64 f2.2, .slice B m c', .int .i64 bk]; simpa using this
  unfold pCells at hw1
  rw [← hb, ← hw1]
  have H1 := Lib.hid (And.intro hB1 (And.intro hc1 hr1))
  clear hB1 hc1 hr1 hw1 hb
  by_cases hfew : n ≤ 60
  case neg =>
    have d1 : decide (n ≤ 60) = false := by simpa using hfew
    have HD := Lib.hid d1
    clear d1 hfew
    go_wp2_with fail
    refine (HFE.out w1).mono ?_
    rintro e w2 ⟨rfl, rfl⟩
    rw [HD.out]
    dsimp only
    go_wp2_with fail
    refine (alive_calls w2 (H.out.2.2.below H1.out.1)).mono ?_
    rintro e wy ⟨rfl, hby⟩
    have HY := Lib.hid (H1.out.1.trans (hby.mono H1.out.1.size))
    clear hby
    dsimp only
    go_wp2
    go_ret
    exact ⟨rfl, HY.out⟩
  have d1 : decide (n ≤ 60) = true := by simpa using hfew
  have HD := Lib.hid (And.intro d1 hfew)
  clear d1 hfew
  have hfc := fun w0 (hb : Below w.heap.size w w0) => Follow_calls A n c l cd s d w0 (H.out.1.below hb) (by have := HD.out.2; omega)
  have hcr := fun (B : Option Addr) (m c' : Nat) k f z hs w0 (hb : Below w.heap.size w w0) (hh : HopsAt w0 B m hs) => CheckRoute_calls A B n c m c' l cd s d k f z hs w0 (H.out.1.below hb) hh (by have := HD.out.2; omega)
  have hrc := fun w0 (hb : Below w.heap.size w w0) => rCheckRoute_calls A B n c m c' l cd s d k2 f2 bk hs2 w0 (H.out.1.below hb) (H.out.2.1.below hb) (by have := HD.out.2; omega)
  obtain ⟨⟨R, q⟩, hR⟩ : ∃ z, z = Pe.follow l cd s d := ⟨_, rfl⟩
  rw [← hR] at hfc hrc hcr
  dsimp only at hcr hrc
  have hco := fun w0 hb => hcr B m c' k2 f2 bk hs2 w0 hb (H.out.2.1.below hb)
  obtain ⟨Z, hZ⟩ : ∃ Z, Z = (decide (q = 0) && Pe.sameO R k2 f2 bk hs2) := ⟨_, rfl⟩
  rw [← hZ] at hco hrc
  unfold pCells at hfc hcr hrc hco
  have HC := Lib.hid (And.intro hfc (And.intro hcr (And.intro hco hrc)))
  clear hfc hcr hrc hco hR hZ
  have k0 : w1.cell? ⟨b, 0, none⟩ = some (.int .i64 cd.1) := H1.out.2.1.cell 0
  have k1 : w1.cell? ⟨b, 1, none⟩ = some (.int .i64 cd.2) := H1.out.2.1.cell 1
  go_wp2_with fail
  refine (HFE.out w1).mono ?_
  rintro e w2 ⟨rfl, rfl⟩
  rw [HD.out.1]
  dsimp only
  go_wp2_with fail
  refine (HC.out.1 w2 H1.out.1).mono ?_
  rintro e w3 ⟨⟨v, rfl, ho⟩, hb3⟩
  dsimp only at ho
  obtain ⟨nh, hnh⟩ : ∃ nh, nh = R.hops.length := ⟨_, rfl⟩
  rw [← hnh] at ho
  obtain ⟨A3, c3, rfl, hHA, _⟩ := own_hops ho hnh
  have H3 := Lib.hid (And.intro (H1.out.1.trans (hb3.mono H1.out.1.size)) (And.intro (H1.out.2.1.below hb3 H1.out.2.1.lt) (And.intro (H1.out.2.2.below hb3 H1.out.2.2.lt) hHA)))
  clear ho hb3 hHA hnh k0 k1
  unfold rCells
  dsimp only
  go_upto_region 4 with fail
  obtain ⟨g, hg⟩ : ∃ g, g = w3.heap.size := ⟨_, rfl⟩
  obtain ⟨w4, hw⟩ : ∃ w0, w0 = w3.alloc (.cells #[.int .u8 (R.kind : Int), .int .i64 R.fin.1, .int .i64 R.fin.2, .slice A3 nh c3, .int .i64 (R.back : Int)] 34) := ⟨_, rfl⟩
  have hbl : Below w3.heap.size w3 w4 := by rw [hw]; exact (Below.refl _ w3).alloc (Nat.le_refl _) _
  have hgb : Blk w4 g 34 #[.int .u8 (R.kind : Int), .int .i64 R.fin.1, .int .i64 R.fin.2, .slice A3 nh c3, .int .i64 (R.back : Int)] := by rw [hw, hg]; exact Blk.fresh _ _ _
  rw [← hg, ← hw]
  clear hg hw
  have H4 := Lib.hid (And.intro (H3.out.1.trans (hbl.mono H3.out.1.size)) (And.intro (H3.out.2.1.below hbl H3.out.2.1.lt) (And.intro (H3.out.2.2.1.below hbl H3.out.2.2.1.lt) (And.intro (H3.out.2.2.2.below hbl) hgb))))
  clear hbl hgb
  have k0 : w4.cell? ⟨b, 0, none⟩ = some (.int .i64 cd.1) := H4.out.2.1.cell 0
  have k1 : w4.cell? ⟨b, 1, none⟩ = some (.int .i64 cd.2) := H4.out.2.1.cell 1
  have a0 : w4.cell? ⟨g, 0, none⟩ = some (.int .u8 (R.kind : Int)) := H4.out.2.2.2.2.cell 0
  have a1 : w4.cell? ⟨g, 1, none⟩ = some (.int .i64 R.fin.1) := H4.out.2.2.2.2.cell 1
  have a2 : w4.cell? ⟨g, 2, none⟩ = some (.int .i64 R.fin.2) := H4.out.2.2.2.2.cell 2
  have a3 : w4.cell? ⟨g, 3, none⟩ = some (.slice A3 nh c3) := H4.out.2.2.2.2.cell 3
  have a4 : w4.cell? ⟨g, 4, none⟩ = some (.int .i64 (R.back : Int)) := H4.out.2.2.2.2.cell 4
  have hself := HC.out.2.1 A3 nh c3 R.kind R.fin (R.back : Int) R.hops w4 H4.out.1 H4.out.2.2.2.1
  rw [show (decide (q = 0) && Pe.sameO R R.kind R.fin (R.back : Int) R.hops) = (q == 0) by rw [Pe.sameO_yes rfl rfl rfl rfl, Bool.and_true, int_beq]] at hself
  have HSELF := Lib.hid hself
  clear hself
  go_cut [33] from 25 (fun s33 wx => s33 = .bool false ∧ Hid (Below w4.heap.size w4 wx))
  case first =>
    cases hq : (q == 0)
    all_goals
      have hs2' := HSELF.out
      rw [hq] at hs2'
      have HS2 := Lib.hid hs2'
      clear hs2'
      go_wp2_with fail
      refine HS2.out.mono ?_
      rintro e w5 ⟨rfl, hb5⟩
      have H5 := Lib.hid hb5
      clear hb5
      dsimp only
      go_wp2
      go_meet
      exact ⟨rfl, H5⟩
  case rest =>
  obtain ⟨rfl, HZ⟩ := hcut
  obtain ⟨w5, rfl⟩ : ∃ w5 : World, w5 = wc := ⟨_, rfl⟩
  have H5 := Lib.hid (And.intro (H4.out.1.trans (HZ.out.mono H4.out.1.size)) (And.intro (H4.out.2.1.below HZ.out H4.out.2.1.lt) (H4.out.2.2.1.below HZ.out H4.out.2.2.1.lt)))
  clear HZ k0 k1 a0 a1 a2 a3 a4
  apply_assumption
  go_upto_region 6 with fail
  refine wp_region_R (RL [(3, fun w' => Blk w' b 28 (pCells cd)), (6, fun w' => Blk w' (b + 1) 34 #[.int .u8 (k2 : Int), .int .i64 f2.1, .int .i64 f2.2, .slice B m c', .int .i64 bk]), (9, fun w' => Blk w' b 28 (pCells cd)), (12, fun w' => Blk w' (b + 1) 34 #[.int .u8 (k2 : Int), .int .i64 f2.1, .int .i64 f2.2, .slice B m c', .int .i64 bk])]) (by kernel_rfl) (RL_cons H5.out.2.1.drew (RL_cons H5.out.2.2.drew (RL_cons H5.out.2.1.drew (RL_cons H5.out.2.2.drew (RL_nil _))))) (fun hp => ?_)
  have HX := Lib.hid (And.intro H5.out.1.drew (And.intro H5.out.2.1.drew H5.out.2.2.drew))
  refine wpAnyR_step (i := 0) (o := ⟨some 34, _, _, _, _, _⟩) (by kernel_rfl) rfl (by rfl) (fun K hK => ?_) -- Op.call { callee := Callee.value (Operand.func 16), args := #[], argTypes := #[] }
  go_simp
  refine (alive_calls _ (H.out.2.2.below HX.out.1)).mono ?_
  rintro e w7 ⟨rfl, hb7⟩
  show K _ _
  have H7 := Lib.hid (And.intro (HX.out.1.trans (hb7.mono HX.out.1.size)) (And.intro (HX.out.2.1.below hb7 HX.out.2.1.lt) (HX.out.2.2.below hb7 HX.out.2.2.lt)))
  have hS3 := H7.out.2.1
  have hS6 := H7.out.2.2
  have hS9 := H7.out.2.1
  have hS12 := H7.out.2.2
  clear hb7
  refine hK _ _ (pend_on hS3 (pend_on hS6 (pend_on hS9 (pend_on hS12 pend_nil)))) (fun hq => ?_)
  clear hp hK K; have hp := hq; clear hq
  try simp only [Act.put, List.setIfInBounds_toArray, List.set_cons_zero, List.set_cons_succ]
  refine wpAnyR_take (i := 1) (oi := ⟨some 35, _, _, _, _, _⟩) (v := ?_) rfl (by kernel_rfl) (by kernel_rfl) (by kernel_rfl) (fun _ _ _ h => h) hp (.inl ⟨by rfl, fun w _ => ?_⟩) (fun hq => ?_)
  rotate_left
  · go_simp
    with_reducible rfl
  clear hp; have hp := hq; clear hq
  try simp only [Act.put, List.setIfInBounds_toArray, List.set_cons_zero, List.set_cons_succ]
  refine wpAnyR_take (i := 2) (oi := ⟨some 36, _, _, _, _, _⟩) (v := ?_) rfl (by kernel_rfl) (by kernel_rfl) (by kernel_rfl) (fun _ _ _ h => h) hp (.inl ⟨by rfl, fun w _ => ?_⟩) (fun hq => ?_)
  rotate_left
  · go_simp
    with_reducible rfl
  clear hp; have hp := hq; clear hq
  try simp only [Act.put, List.setIfInBounds_toArray, List.set_cons_zero, List.set_cons_succ]
  refine wpAnyR_take (i := 3) (oi := ⟨some 37, _, _, _, _, _⟩) (v := ?_) rfl (by kernel_rfl) (by kernel_rfl) (by kernel_rfl) (fun _ _ _ h => h) hp (.inl ⟨by rfl, fun w hR => ?_⟩) (fun hq => ?_)
  rotate_left
  · have hR := hR.1 rfl
    (try dsimp only at hR)
    have k0 : w.cell? ⟨b, 0, none⟩ = some (.int .i64 cd.1) := hR.cell 0
    have k1 : w.cell? ⟨b, 1, none⟩ = some (.int .i64 cd.2) := hR.cell 1
    clear hR
    go_simp
    with_reducible rfl
  clear hp; have hp := hq; clear hq
  try simp only [Act.put, List.setIfInBounds_toArray, List.set_cons_zero, List.set_cons_succ]
  refine wpAnyR_take (i := 4) (oi := ⟨some 38, _, _, _, _, _⟩) (v := ?_) rfl (by kernel_rfl) (by kernel_rfl) (by kernel_rfl) (fun _ _ _ h => h) hp (.inl ⟨by rfl, fun w _ => ?_⟩) (fun hq => ?_)
  rotate_left
  · go_simp
    with_reducible rfl
  clear hp; have hp := hq; clear hq
  try simp only [Act.put, List.setIfInBounds_toArray, List.set_cons_zero, List.set_cons_succ]
  refine wpAnyR_take (i := 5) (oi := ⟨some 39, _, _, _, _, _⟩) (v := ?_) rfl (by kernel_rfl) (by kernel_rfl) (by kernel_rfl) (fun _ _ _ h => h) hp (.inl ⟨by rfl, fun w _ => ?_⟩) (fun hq => ?_)
  rotate_left
  · go_simp
    with_reducible rfl
  clear hp; have hp := hq; clear hq
  try simp only [Act.put, List.setIfInBounds_toArray, List.set_cons_zero, List.set_cons_succ]
  refine wpAnyR_take (i := 6) (oi := ⟨some 40, _, _, _, _, _⟩) (v := ?_) rfl (by kernel_rfl) (by kernel_rfl) (by kernel_rfl) (fun _ _ _ h => h) hp (.inl ⟨by rfl, fun w hR => ?_⟩) (fun hq => ?_)
  rotate_left
  · have hR := hR.2.1 rfl
    (try dsimp only at hR)
    have b0 : w.cell? ⟨b + 1, 0, none⟩ = some (.int .u8 (k2 : Int)) := hR.cell 0
    have b1 : w.cell? ⟨b + 1, 1, none⟩ = some (.int .i64 f2.1) := hR.cell 1
    have b2 : w.cell? ⟨b + 1, 2, none⟩ = some (.int .i64 f2.2) := hR.cell 2
    have b3 : w.cell? ⟨b + 1, 3, none⟩ = some (.slice B m c') := hR.cell 3
    have b4 : w.cell? ⟨b + 1, 4, none⟩ = some (.int .i64 bk) := hR.cell 4
    clear hR
    go_simp
    with_reducible rfl
  clear hp; have hp := hq; clear hq
  try simp only [Act.put, List.setIfInBounds_toArray, List.set_cons_zero, List.set_cons_succ]
  refine wpAnyR_take (i := 8) (oi := ⟨some 42, _, _, _, _, _⟩) (v := ?_) rfl (by kernel_rfl) (by kernel_rfl) (by kernel_rfl) (fun _ _ _ h => h) hp (.inl ⟨by rfl, fun w _ => ?_⟩) (fun hq => ?_)
  rotate_left
  · go_simp
    with_reducible rfl
  clear hp; have hp := hq; clear hq
  try simp only [Act.put, List.setIfInBounds_toArray, List.set_cons_zero, List.set_cons_succ]
  refine wpAnyR_take (i := 9) (oi := ⟨some 43, _, _, _, _, _⟩) (v := ?_) rfl (by kernel_rfl) (by kernel_rfl) (by kernel_rfl) (fun _ _ _ h => h) hp (.inl ⟨by rfl, fun w hR => ?_⟩) (fun hq => ?_)
  rotate_left
  · have hR := hR.2.2.1 rfl
    (try dsimp only at hR)
    have k0 : w.cell? ⟨b, 0, none⟩ = some (.int .i64 cd.1) := hR.cell 0
    have k1 : w.cell? ⟨b, 1, none⟩ = some (.int .i64 cd.2) := hR.cell 1
    clear hR
    go_simp
    with_reducible rfl
  clear hp; have hp := hq; clear hq
  try simp only [Act.put, List.setIfInBounds_toArray, List.set_cons_zero, List.set_cons_succ]
  refine wpAnyR_take (i := 10) (oi := ⟨some 44, _, _, _, _, _⟩) (v := ?_) rfl (by kernel_rfl) (by kernel_rfl) (by kernel_rfl) (fun _ _ _ h => h) hp (.inl ⟨by rfl, fun w _ => ?_⟩) (fun hq => ?_)
  rotate_left
  · go_simp
    with_reducible rfl
  clear hp; have hp := hq; clear hq
  try simp only [Act.put, List.setIfInBounds_toArray, List.set_cons_zero, List.set_cons_succ]
  refine wpAnyR_take (i := 11) (oi := ⟨some 45, _, _, _, _, _⟩) (v := ?_) rfl (by kernel_rfl) (by kernel_rfl) (by kernel_rfl) (fun _ _ _ h => h) hp (.inl ⟨by rfl, fun w _ => ?_⟩) (fun hq => ?_)
  rotate_left
  · go_simp
    with_reducible rfl
  clear hp; have hp := hq; clear hq
  try simp only [Act.put, List.setIfInBounds_toArray, List.set_cons_zero, List.set_cons_succ]
  refine wpAnyR_take (i := 12) (oi := ⟨some 46, _, _, _, _, _⟩) (v := ?_) rfl (by kernel_rfl) (by kernel_rfl) (by kernel_rfl) (fun _ _ _ h => h) hp (.inl ⟨by rfl, fun w hR => ?_⟩) (fun hq => ?_)
  rotate_left
  · have hR := hR.2.2.2.1 rfl
    (try dsimp only at hR)
    have b0 : w.cell? ⟨b + 1, 0, none⟩ = some (.int .u8 (k2 : Int)) := hR.cell 0
    have b1 : w.cell? ⟨b + 1, 1, none⟩ = some (.int .i64 f2.1) := hR.cell 1
    have b2 : w.cell? ⟨b + 1, 2, none⟩ = some (.int .i64 f2.2) := hR.cell 2
    have b3 : w.cell? ⟨b + 1, 3, none⟩ = some (.slice B m c') := hR.cell 3
    have b4 : w.cell? ⟨b + 1, 4, none⟩ = some (.int .i64 bk) := hR.cell 4
    clear hR
    go_simp
    with_reducible rfl
  clear hp; have hp := hq; clear hq
  try simp only [Act.put, List.setIfInBounds_toArray, List.set_cons_zero, List.set_cons_succ]
  refine wpAnyR_step (i := 7) (o := ⟨some 41, _, _, _, _, _⟩) (by kernel_rfl) rfl (by rfl) (fun K hK => ?_) -- Op.call { callee := Callee.value (Operand.func 20), args := #[Operand.tmp 36, Operand.tmp 37, Operand.tmp 38, 
  go_simp
  refine (HC.out.2.2.1 w7 H7.out.1).mono ?_
  rintro e w8 ⟨rfl, hb8⟩
  show K _ _
  have H8 := Lib.hid (And.intro (H7.out.1.trans (hb8.mono H7.out.1.size)) (And.intro (H7.out.2.1.below hb8 H7.out.2.1.lt) (H7.out.2.2.below hb8 H7.out.2.2.lt)))
  have hS3 := H8.out.2.1
  have hS6 := H8.out.2.2
  have hS9 := H8.out.2.1
  have hS12 := H8.out.2.2
  clear hb8
  refine hK _ _ (pend_off (by kernel_rfl) (pend_off (by kernel_rfl) (pend_on hS9 (pend_on hS12 pend_nil)))) (fun hq => ?_)
  clear hp hK K; have hp := hq; clear hq
  try simp only [Act.put, List.setIfInBounds_toArray, List.set_cons_zero, List.set_cons_succ]
  refine wpAnyR_step (i := 13) (o := ⟨some 47, _, _, _, _, _⟩) (by kernel_rfl) rfl (by rfl) (fun K hK => ?_) -- Op.call { callee := Callee.value (Operand.func 21), args := #[Operand.tmp 42, Operand.tmp 43, Operand.tmp 44, 
  go_simp
  refine (HC.out.2.2.2 w8 H8.out.1).mono ?_
  rintro e w9 ⟨rfl, hb9⟩
  show K _ _
  have H9 := Lib.hid (And.intro (H8.out.1.trans (hb9.mono H8.out.1.size)) (And.intro (H8.out.2.1.below hb9 H8.out.2.1.lt) (H8.out.2.2.below hb9 H8.out.2.2.lt)))
  have hS3 := H9.out.2.1
  have hS6 := H9.out.2.2
  have hS9 := H9.out.2.1
  have hS12 := H9.out.2.2
  clear hb9
  refine hK _ _ (pend_off (by kernel_rfl) (pend_off (by kernel_rfl) (pend_off (by kernel_rfl) (pend_off (by kernel_rfl) pend_nil)))) (fun hq => ?_)
  clear hp hK K; have hp := hq; clear hq
  try simp only [Act.put, List.setIfInBounds_toArray, List.set_cons_zero, List.set_cons_succ]
  refine wpAnyR_take (i := 14) (oi := ⟨some 48, _, _, _, _, _⟩) (v := ?_) rfl (by kernel_rfl) (by kernel_rfl) (by kernel_rfl) (fun _ _ _ h => h) hp (.inl ⟨by rfl, fun w _ => ?_⟩) (fun hq => ?_)
  rotate_left
  · go_simp
    with_reducible rfl
  clear hp; have hp := hq; clear hq
  try simp only [Act.put, List.setIfInBounds_toArray, List.set_cons_zero, List.set_cons_succ]
  refine wpAnyR_take (i := 15) (oi := ⟨some 49, _, _, _, _, _⟩) (v := ?_) rfl (by kernel_rfl) (by kernel_rfl) (by kernel_rfl) (fun _ _ _ h => h) hp (.inl ⟨by rfl, fun w _ => ?_⟩) (fun hq => ?_)
  rotate_left
  · go_simp
    with_reducible rfl
  clear hp; have hp := hq; clear hq
  try simp only [Act.put, List.setIfInBounds_toArray, List.set_cons_zero, List.set_cons_succ]
  refine wpAnyR_take (i := 16) (oi := ⟨some 10, _, _, _, _, _⟩) (v := ?_) rfl (by kernel_rfl) (by kernel_rfl) (by kernel_rfl) (fun _ _ _ h => h) hp (.inl ⟨by rfl, fun w _ => ?_⟩) (fun hq => ?_)
  rotate_left
  · go_simp
    with_reducible rfl
  clear hp; have hp := hq; clear hq
  try simp only [Act.put, List.setIfInBounds_toArray, List.set_cons_zero, List.set_cons_succ]
  refine wpAnyR_done (by kernel_rfl) ?_ _
  clear hp
  go_wp2
  go_ret
  exact ⟨rfl, H9.out.1⟩

end Go.Proofs.YtnphlekailodkaaGreatDoor

