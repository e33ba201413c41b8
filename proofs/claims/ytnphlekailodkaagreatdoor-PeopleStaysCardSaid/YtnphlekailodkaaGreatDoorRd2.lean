/-
  Read of the directory.
-/
import Derived.Test.YtnphlekailodkaaGreatDoorEe
import Derived.Test.YtnphlekailodkaaGreatDoorRx
import Derived.Test.YtnphlekailodkaaGreatDoorRd1
import Derived.Test.YtnphlekailodkaaGreatDoorOr
namespace Go.Proofs.YtnphlekailodkaaGreatDoor
open Go.RowKit

/-- The memory of Read: what is left of the line, the result, all else. -/
structure RdA (w : World) (b : Nat) (l : List UInt8) (W : World) : Prop where
  ln : Blk W b 9 #[.string (bs l)]
  rs : Blk W (b + 1) 31 (eCells Pe.zero)
  bel : Below w.heap.size w W
section
variable {w : World} {b : Nat} {l l' : List UInt8} {W W' : World}
theorem RdA.below (h : RdA w b l W) (hb : Below W.heap.size W W') : RdA w b l W' := ⟨h.ln.below hb h.ln.lt, h.rs.below hb h.rs.lt, h.bel.trans (hb.mono h.bel.size)⟩
theorem RdA.cut (h : RdA w b l W) (hw : w.heap.size = b) (hn : Blk W' b 9 #[.string (bs l')]) (hc : Chg (fun i => i = b) W W') : RdA w b l' W' :=
  ⟨hn, hc.blk h.rs (by omega), h.bel.trans (hc.below (fun i hi => by omega) h.bel.size)⟩
theorem RdA.set (h : RdA w b l W) (hw : w.heap.size = b) {p : Addr} (hp : b + 1 < p.block) (u : Value) : RdA w b l (W.setCell p u) :=
  ⟨h.ln.far (by omega) u, h.rs.far (by omega) u, h.bel.setCell (by omega) u⟩
theorem RdA.fin (h : RdA w b l W) (hw : w.heap.size = b) (x : Pe.Ent) : Blk ((((((((((W.setCell ⟨b + 1, 0, none⟩ (.int .i64 x.day)).setCell ⟨b + 1, 1, none⟩ (.int .u8 (x.kind : Int))).setCell ⟨b + 1, 2, none⟩ (.int .i64 x.since)).setCell ⟨b + 1, 3, none⟩ (.int .i64 x.til)).setCell ⟨b + 1, 4, none⟩ (.int .i64 x.person)).setCell ⟨b + 1, 5, none⟩ (.int .i64 x.place)).setCell ⟨b + 1, 6, none⟩ (.int .i64 x.other)).setCell ⟨b + 1, 7, none⟩ (.int .i64 x.at_)).setCell ⟨b + 1, 8, none⟩ (.int .i64 x.order)).setCell ⟨b + 1, 9, none⟩ (.string (bs x.name))) (b + 1) 31 (eCells x) ∧
    Below w.heap.size w ((((((((((W.setCell ⟨b + 1, 0, none⟩ (.int .i64 x.day)).setCell ⟨b + 1, 1, none⟩ (.int .u8 (x.kind : Int))).setCell ⟨b + 1, 2, none⟩ (.int .i64 x.since)).setCell ⟨b + 1, 3, none⟩ (.int .i64 x.til)).setCell ⟨b + 1, 4, none⟩ (.int .i64 x.person)).setCell ⟨b + 1, 5, none⟩ (.int .i64 x.place)).setCell ⟨b + 1, 6, none⟩ (.int .i64 x.other)).setCell ⟨b + 1, 7, none⟩ (.int .i64 x.at_)).setCell ⟨b + 1, 8, none⟩ (.int .i64 x.order)).setCell ⟨b + 1, 9, none⟩ (.string (bs x.name))) := by
  obtain ⟨h1, h2⟩ := Blk.put10 (v0 := .int .i64 x.day) (v1 := .int .u8 (x.kind : Int)) (v2 := .int .i64 x.since) (v3 := .int .i64 x.til) (v4 := .int .i64 x.person) (v5 := .int .i64 x.place) (v6 := .int .i64 x.other) (v7 := .int .i64 x.at_) (v8 := .int .i64 x.order) (v9 := .string (bs x.name)) h.rs
  exact ⟨h1, h.bel.trans (h2.below (fun i hi => by omega) h.bel.size)⟩
end

theorem eCells_day (d : Int) : eCells { Pe.zero with day := d } = #[.int .i64 d, .int .u8 0, .int .i64 0, .int .i64 0, .int .i64 0, .int .i64 0, .int .i64 0, .int .i64 0, .int .i64 0, .string ⟨#[]⟩] := rfl
namespace Pe
/-- What Read returns behind the numbers of a line. -/
def readEnd (l : List UInt8) (K : Nat) : Option (Ent × List UInt8) → Ent × Int
  | none => (zero, 4)
  | some (x, r) => if formed (if K = 1 then { x with name := r } else x) = 0 ∧ line (if K = 1 then { x with name := r } else x) = l then ((if K = 1 then { x with name := r } else x), 0) else (zero, 4)
theorem readP_none {l : List UInt8} (h : num? (cut1 l).1 = none) : readP l = (zero, 4) := by
  unfold readP parse
  rw [h]
theorem readP_some {l : List UInt8} {d : Int} (h : num? (cut1 l).1 = some d) : readP l = readEnd l (kindOf (cut1 (cut1 l).2).1) (readNums (offs (kindOf (cut1 (cut1 l).2).1)) { zero with day := d, kind := kindOf (cut1 (cut1 l).2).1 } (cut1 (cut1 l).2).2) := by
  unfold readP parse
  rw [h]
  simp only
  cases readNums (offs (kindOf (cut1 (cut1 l).2).1)) { zero with day := d, kind := kindOf (cut1 (cut1 l).2).1 } (cut1 (cut1 l).2).2 with
  | none => rfl
  | some z => rfl
/-- The entry and what is left of the line, ahead of kind k. -/
def ReadSt (K k : Nat) (d : Int) (l1 : List UInt8) (x : Ent) (m : List UInt8) : Prop :=
  ((K = 0 ∨ k ≤ K) ∧ x = { zero with day := d } ∧ m = l1) ∨ (1 ≤ K ∧ K < k ∧ readNums (offs K) { zero with day := d, kind := K } l1 = some (x, m))
theorem ReadSt.fin {K : Nat} {d : Int} {l1 : List UInt8} {x : Ent} {m : List UInt8} (h : ReadSt K 8 d l1 x m) (hK : K ≤ 7) : readNums (offs K) { zero with day := d, kind := K } l1 = some (x, m) ∧ x.kind = K := by
  rcases h with ⟨h1, rfl, rfl⟩ | ⟨h1, h2, h3⟩
  · obtain rfl : K = 0 := by omega
    exact ⟨rfl, rfl⟩
  · exact ⟨h3, readNums_kind _ _ _ _ _ h3⟩
end Pe
/-- The memory of Read's loops. -/
structure RdB (w : World) (b g : Nat) (l : List UInt8) (x : Pe.Ent) (W : World) : Prop where
  a : RdA w b l W
  en : Blk W g 31 (eCells x)
section
variable {w : World} {b g : Nat} {l l' : List UInt8} {x : Pe.Ent} {W W' : World}
theorem RdB.below (h : RdB w b g l x W) (hb : Below W.heap.size W W') : RdB w b g l x W' := ⟨h.a.below hb, h.en.below hb h.en.lt⟩
theorem RdB.cut (h : RdB w b g l x W) (hw : w.heap.size = b) (hg : b + 1 < g) (hn : Blk W' b 9 #[.string (bs l')]) (hc : Chg (fun i => i = b) W W') : RdB w b g l' x W' :=
  ⟨h.a.cut hw hn hc, hc.blk h.en (by omega)⟩
theorem RdB.set (h : RdB w b g l x W) (hw : w.heap.size = b) (hg : b + 1 < g) (i : Nat) (u : Value) {y : Pe.Ent} (hy : (eCells x).setIfInBounds i u = eCells y) : RdB w b g l y (W.setCell ⟨g, i, none⟩ u) :=
  ⟨h.a.set hw (p := ⟨g, i, none⟩) hg u, by rw [← hy]; exact h.en.put i u⟩
end

set_option maxRecDepth 1000000 in
set_option maxHeartbeats 8000000 in
theorem Read_calls (l : List UInt8) (hl : l.length ≤ 140737488355328) (w : World) (hL : Laid w) :
    Calls Tryz.prog 83 #[.string (bs l)] w fun e w' => e = .returned (.tuple #[.agg (eCells (Pe.readP l).1), .int .i64 (Pe.readP l).2]) ∧ Below w.heap.size w w' := by
  obtain ⟨F, hF⟩ : ∃ F, F = Pe.readP l := ⟨_, rfl⟩
  rw [← hF]
  have H := Lib.hid (And.intro hF (And.intro hl hL))
  clear hF hl hL
  go_enter Tryz.func83, Tryz.ntmps83
  go_wp2_with fail
  obtain ⟨b, hb⟩ : ∃ b, b = w.heap.size := ⟨_, rfl⟩
  obtain ⟨w1, hw1⟩ : ∃ w1, w1 = (w.alloc (.cells #[.string (bs l)] 9)).alloc (.cells (eCells Pe.zero) 31) := ⟨_, rfl⟩
  have hA1 : RdA w b l w1 := by
    rw [hw1, hb]
    refine ⟨(Blk.fresh w _ _).alloc _, ?_, ((Below.refl _ w).alloc (Nat.le_refl _) _).alloc (by simp) _⟩
    have := Blk.fresh (w.alloc (.cells #[.string (bs l)] 9)) 31 (eCells Pe.zero)
    simpa using this
  rw [eCells_zero] at hw1
  rw [← hb, ← hw1]
  have H1 := Lib.hid (And.intro hA1 hb.symm)
  clear hA1 hb hw1
  refine (Read_1_calls b l w1 H1.out.1.ln (by have := H.out.2.1; omega)).mono ?_
  rintro e w2 ⟨rfl, hn2, hc2⟩
  have H2 := Lib.hid (H1.out.1.cut H1.out.2 hn2 hc2)
  clear hn2 hc2
  dsimp only
  go_wp2_with fail
  refine (Atoi_calls (Pe.cut1 l).1 w2 (by have := (Pe.cut1_le l).1; have := H.out.2.1; omega) (H.out.2.2.below H2.out.bel)).mono ?_
  rintro e w3 ⟨he, hb3⟩
  have H3 := Lib.hid (H2.out.below hb3)
  clear hb3
  cases hn : num? (Pe.cut1 l).1 with
  | none =>
    rw [hn] at he
    have HF3 := Lib.hid (show F = (Pe.zero, 4) by rw [H.out.1, Pe.readP_none hn])
    obtain ⟨n, t, p, rfl⟩ := he
    clear hn
    have r0 : w3.cell? ⟨b+1, 0, none⟩ = some (.int .i64 Pe.zero.day) := H3.out.rs.cell 0
    have r1 : w3.cell? ⟨b+1, 1, none⟩ = some (.int .u8 (Pe.zero.kind : Int)) := H3.out.rs.cell 1
    have r2 : w3.cell? ⟨b+1, 2, none⟩ = some (.int .i64 Pe.zero.since) := H3.out.rs.cell 2
    have r3 : w3.cell? ⟨b+1, 3, none⟩ = some (.int .i64 Pe.zero.til) := H3.out.rs.cell 3
    have r4 : w3.cell? ⟨b+1, 4, none⟩ = some (.int .i64 Pe.zero.person) := H3.out.rs.cell 4
    have r5 : w3.cell? ⟨b+1, 5, none⟩ = some (.int .i64 Pe.zero.place) := H3.out.rs.cell 5
    have r6 : w3.cell? ⟨b+1, 6, none⟩ = some (.int .i64 Pe.zero.other) := H3.out.rs.cell 6
    have r7 : w3.cell? ⟨b+1, 7, none⟩ = some (.int .i64 Pe.zero.at_) := H3.out.rs.cell 7
    have r8 : w3.cell? ⟨b+1, 8, none⟩ = some (.int .i64 Pe.zero.order) := H3.out.rs.cell 8
    have r9 : w3.cell? ⟨b+1, 9, none⟩ = some (.string (bs Pe.zero.name)) := H3.out.rs.cell 9
    have f0 := H3.out.rs.frozen 0
    have f1 := H3.out.rs.frozen 1
    have f2 := H3.out.rs.frozen 2
    have f3 := H3.out.rs.frozen 3
    have f4 := H3.out.rs.frozen 4
    have f5 := H3.out.rs.frozen 5
    have f6 := H3.out.rs.frozen 6
    have f7 := H3.out.rs.frozen 7
    have f8 := H3.out.rs.frozen 8
    have f9 := H3.out.rs.frozen 9
    have lb : b + 1 < w3.heap.size := H3.out.rs.lt
    dsimp only
    go_wp2
    obtain ⟨z1, z2⟩ := RdA.fin H3.out H1.out.2 Pe.zero
    refine bodyPost_ret (results_row2 (P := Tryz.prog) (fn := Tryz.f83) rfl _ _ (b + 1) (eCells Pe.zero) _ rfl z1 Tryz.underlying31 rfl infoEntryN) rfl ⟨?_, z2⟩
    rw [HF3.out]; rfl
  | some d =>
    rw [hn] at he
    obtain rfl := he
    have hFe := H.out.1.trans (Pe.readP_some hn)
    have HFE := Lib.hid hFe
    clear hFe hn
    dsimp only
    go_wp2_with fail
    refine (Read_1_calls b (Pe.cut1 l).2 w3 H3.out.ln (by have := (Pe.cut1_le l).2; have := H.out.2.1; omega)).mono ?_
    rintro e w4 ⟨rfl, hn4, hc4⟩
    have H4 := Lib.hid (H3.out.cut H1.out.2 hn4 hc4)
    clear hn4 hc4
    dsimp only
    go_upto_region 8 with fail
    obtain ⟨g, hg⟩ : ∃ g, g = w4.heap.size := ⟨_, rfl⟩
    obtain ⟨w5, hw5⟩ : ∃ w5, w5 = w4.alloc (.cells (eCells { Pe.zero with day := d }) 31) := ⟨_, rfl⟩
    obtain ⟨l1, hl1⟩ : ∃ l1, l1 = (Pe.cut1 (Pe.cut1 l).2).2 := ⟨_, rfl⟩
    obtain ⟨V, hV⟩ : ∃ V, V = (Pe.cut1 (Pe.cut1 l).2).1 := ⟨_, rfl⟩
    have hll : l1.length ≤ 140737488355328 := by have h1 := (Pe.cut1_le (Pe.cut1 l).2).2; have h2 := (Pe.cut1_le l).2; have := H.out.2.1; rw [hl1]; omega
    have hB5 : RdB w b g l1 { Pe.zero with day := d } w5 := by
      rw [hw5, hl1, hg]
      exact ⟨H4.out.below ((Below.refl _ w4).alloc (Nat.le_refl _) _), Blk.fresh _ _ _⟩
    have hgb : b + 1 < g := by rw [hg]; exact H4.out.rs.lt
    have hF5 : F = Pe.readEnd l (Pe.kindOf V) (Pe.readNums (Pe.offs (Pe.kindOf V)) { Pe.zero with day := d, kind := Pe.kindOf V } l1) := by rw [hl1, hV]; exact HFE.out
    have H5 := Lib.hid (And.intro hB5 (And.intro hgb (And.intro hll hF5)))
    rw [eCells_day] at hw5
    rw [← hV, ← hg, ← hw5]
    clear hw5 hl1 hV hg hll hgb hF5 hB5
    go_wp2_with fail
    go_loopg [10] 7 (fun q s10 wr => ∃ (k : Nat) (x : Pe.Ent) (m : List UInt8), s10 = .int .u8 (k : Int) ∧ k + q = 8 ∧ 1 ≤ k ∧ Hid (RdB w b g m x wr ∧ m.length ≤ 140737488355328 ∧ x.name = [] ∧ Pe.ReadSt (Pe.kindOf V) k d l1 x m))
    case atStart => exact ⟨1, _, l1, rfl, rfl, by omega, Lib.hid ⟨H5.out.1, H5.out.2.2.1, rfl, .inl ⟨by omega, rfl, rfl⟩⟩⟩
    case round =>
      obtain ⟨k, x, m, rfl, hk8, hk1, hR⟩ := hrel
      by_cases hgo : k ≤ 7
      case neg =>
        have hd1 : decide ((k : Int) ≤ 7) = false := by simp; omega
        have hk : k = 8 := by omega
        subst hk
        obtain ⟨hs1, hs2⟩ := hR.out.2.2.2.fin (Pe.kindOf_le V)
        have hF6 : F = Pe.readEnd l (Pe.kindOf V) (some (x, m)) := by rw [H5.out.2.2.2, hs1]
        have e1 : wr.cell? ⟨g, 1, none⟩ = some (.int .u8 (x.kind : Int)) := hR.out.1.en.cell 1
        have e9 : wr.cell? ⟨g, 9, none⟩ = some (.string (bs x.name)) := hR.out.1.en.cell 9
        have ef9 := hR.out.1.en.frozen 9
        have elt : g < wr.heap.size := hR.out.1.en.lt
        have hgo2 : ¬ ((8 : Nat) : Int) ≤ 7 := by omega
        have b0 : wr.cell? ⟨b, 0, none⟩ = some (.string (bs m)) := hR.out.1.a.ln.cell 0
        go_upto_region 21 with fail
        by_cases hk : x.kind = 1
        · have q1 : ((x.kind : Int) == 1) = true := by rw [hk]; rfl
          go_upto_region 23 with fail
          obtain ⟨wn, hwn⟩ : ∃ wn, wn = wr.setCell ⟨g, 9, none⟩ (.string (bs m)) := ⟨_, rfl⟩
          obtain ⟨y, hy⟩ : ∃ y : Pe.Ent, y = { x with name := m } := ⟨_, rfl⟩
          have hBn := hR.out.1.set H1.out.2 H5.out.2.1 9 (.string (bs m)) (y := y) (by rw [hy]; exact eCells_name x m)
          rw [← hwn] at hBn ⊢
          have HY := Lib.hid (show F = if Pe.formed y = 0 ∧ Pe.line y = l then (y, 0) else (Pe.zero, 4) by
            rw [hF6, Pe.readEnd, ← hs2, if_pos hk, ← hy])
          have hym : y.name.length ≤ 9223372036854775807 := by rw [hy]; have := hR.out.2.1; simp only; omega
          have HBN := Lib.hid hBn
          clear e1 e9 ef9 elt b0 hwn hBn hs1 hs2 hF6 hy hk q1
          have c0 : wn.cell? ⟨g, 0, none⟩ = some (.int .i64 y.day) := HBN.out.en.cell 0
          have c1 : wn.cell? ⟨g, 1, none⟩ = some (.int .u8 (y.kind : Int)) := HBN.out.en.cell 1
          have c2 : wn.cell? ⟨g, 2, none⟩ = some (.int .i64 y.since) := HBN.out.en.cell 2
          have c3 : wn.cell? ⟨g, 3, none⟩ = some (.int .i64 y.til) := HBN.out.en.cell 3
          have c4 : wn.cell? ⟨g, 4, none⟩ = some (.int .i64 y.person) := HBN.out.en.cell 4
          have c5 : wn.cell? ⟨g, 5, none⟩ = some (.int .i64 y.place) := HBN.out.en.cell 5
          have c6 : wn.cell? ⟨g, 6, none⟩ = some (.int .i64 y.other) := HBN.out.en.cell 6
          have c7 : wn.cell? ⟨g, 7, none⟩ = some (.int .i64 y.at_) := HBN.out.en.cell 7
          have c8 : wn.cell? ⟨g, 8, none⟩ = some (.int .i64 y.order) := HBN.out.en.cell 8
          have c9 : wn.cell? ⟨g, 9, none⟩ = some (.string (bs y.name)) := HBN.out.en.cell 9
          have hgb : b + 1 < g := H5.out.2.1
          have hwc := Write_calls y hym wn (H.out.2.2.below HBN.out.a.bel)
          by_cases hf : Pe.formed y = 0
          case neg =>
            have HF3 := Lib.hid (show F = (Pe.zero, 4) by rw [HY.out, if_neg (fun e => hf e.1)])
            rw [if_neg hf] at hwc
            obtain ⟨f, hff⟩ : ∃ f, f = Pe.formed y := ⟨_, rfl⟩
            rw [← hff] at hwc hf
            have d1 : (f != 0) = true := by simpa using hf
            have HWC := Lib.hid hwc
            clear hwc hff hf
            go_wp2_with fail
            refine HWC.out.mono ?_
            rintro e wz ⟨rfl, hbz⟩
            have HZ := Lib.hid (HBN.out.below hbz)
            clear hbz
            clear c0 c1 c2 c3 c4 c5 c6 c7 c8 c9
            have r0 : wz.cell? ⟨b+1, 0, none⟩ = some (.int .i64 Pe.zero.day) := HZ.out.a.rs.cell 0
            have r1 : wz.cell? ⟨b+1, 1, none⟩ = some (.int .u8 (Pe.zero.kind : Int)) := HZ.out.a.rs.cell 1
            have r2 : wz.cell? ⟨b+1, 2, none⟩ = some (.int .i64 Pe.zero.since) := HZ.out.a.rs.cell 2
            have r3 : wz.cell? ⟨b+1, 3, none⟩ = some (.int .i64 Pe.zero.til) := HZ.out.a.rs.cell 3
            have r4 : wz.cell? ⟨b+1, 4, none⟩ = some (.int .i64 Pe.zero.person) := HZ.out.a.rs.cell 4
            have r5 : wz.cell? ⟨b+1, 5, none⟩ = some (.int .i64 Pe.zero.place) := HZ.out.a.rs.cell 5
            have r6 : wz.cell? ⟨b+1, 6, none⟩ = some (.int .i64 Pe.zero.other) := HZ.out.a.rs.cell 6
            have r7 : wz.cell? ⟨b+1, 7, none⟩ = some (.int .i64 Pe.zero.at_) := HZ.out.a.rs.cell 7
            have r8 : wz.cell? ⟨b+1, 8, none⟩ = some (.int .i64 Pe.zero.order) := HZ.out.a.rs.cell 8
            have r9 : wz.cell? ⟨b+1, 9, none⟩ = some (.string (bs Pe.zero.name)) := HZ.out.a.rs.cell 9
            have f0 := HZ.out.a.rs.frozen 0
            have f1 := HZ.out.a.rs.frozen 1
            have f2 := HZ.out.a.rs.frozen 2
            have f3 := HZ.out.a.rs.frozen 3
            have f4 := HZ.out.a.rs.frozen 4
            have f5 := HZ.out.a.rs.frozen 5
            have f6 := HZ.out.a.rs.frozen 6
            have f7 := HZ.out.a.rs.frozen 7
            have f8 := HZ.out.a.rs.frozen 8
            have f9 := HZ.out.a.rs.frozen 9
            have lb : b + 1 < wz.heap.size := HZ.out.a.rs.lt
            dsimp only
            go_wp2
            obtain ⟨z1, z2⟩ := RdA.fin HZ.out.a H1.out.2 Pe.zero
            refine bodyPost_ret (results_row2 (P := Tryz.prog) (fn := Tryz.f83) rfl _ _ (b + 1) (eCells Pe.zero) _ rfl z1 Tryz.underlying31 rfl infoEntryN) rfl ⟨?_, z2⟩
            rw [HF3.out]; rfl
          rw [if_pos hf, hf] at hwc
          have HWC := Lib.hid hwc
          clear hwc
          by_cases hll : Pe.line y = l
          case neg =>
            have HF3 := Lib.hid (show F = (Pe.zero, 4) by rw [HY.out, if_neg (fun e => hll e.2)])
            have q3 : ((bs (Pe.line y)).toList == (bs l).toList) = false := by rw [bs_beq]; simpa using hll
            have q4 : ((bs (Pe.line y)).toList != (bs l).toList) = true := by rw [bne, q3]; rfl
            clear hf hll
            go_wp2_with fail
            refine HWC.out.mono ?_
            rintro e wz ⟨rfl, hbz⟩
            have HZ := Lib.hid (HBN.out.below hbz)
            clear hbz
            clear c0 c1 c2 c3 c4 c5 c6 c7 c8 c9
            have r0 : wz.cell? ⟨b+1, 0, none⟩ = some (.int .i64 Pe.zero.day) := HZ.out.a.rs.cell 0
            have r1 : wz.cell? ⟨b+1, 1, none⟩ = some (.int .u8 (Pe.zero.kind : Int)) := HZ.out.a.rs.cell 1
            have r2 : wz.cell? ⟨b+1, 2, none⟩ = some (.int .i64 Pe.zero.since) := HZ.out.a.rs.cell 2
            have r3 : wz.cell? ⟨b+1, 3, none⟩ = some (.int .i64 Pe.zero.til) := HZ.out.a.rs.cell 3
            have r4 : wz.cell? ⟨b+1, 4, none⟩ = some (.int .i64 Pe.zero.person) := HZ.out.a.rs.cell 4
            have r5 : wz.cell? ⟨b+1, 5, none⟩ = some (.int .i64 Pe.zero.place) := HZ.out.a.rs.cell 5
            have r6 : wz.cell? ⟨b+1, 6, none⟩ = some (.int .i64 Pe.zero.other) := HZ.out.a.rs.cell 6
            have r7 : wz.cell? ⟨b+1, 7, none⟩ = some (.int .i64 Pe.zero.at_) := HZ.out.a.rs.cell 7
            have r8 : wz.cell? ⟨b+1, 8, none⟩ = some (.int .i64 Pe.zero.order) := HZ.out.a.rs.cell 8
            have r9 : wz.cell? ⟨b+1, 9, none⟩ = some (.string (bs Pe.zero.name)) := HZ.out.a.rs.cell 9
            have f0 := HZ.out.a.rs.frozen 0
            have f1 := HZ.out.a.rs.frozen 1
            have f2 := HZ.out.a.rs.frozen 2
            have f3 := HZ.out.a.rs.frozen 3
            have f4 := HZ.out.a.rs.frozen 4
            have f5 := HZ.out.a.rs.frozen 5
            have f6 := HZ.out.a.rs.frozen 6
            have f7 := HZ.out.a.rs.frozen 7
            have f8 := HZ.out.a.rs.frozen 8
            have f9 := HZ.out.a.rs.frozen 9
            have lb : b + 1 < wz.heap.size := HZ.out.a.rs.lt
            dsimp only
            go_wp2
            obtain ⟨z1, z2⟩ := RdA.fin HZ.out.a H1.out.2 Pe.zero
            refine bodyPost_ret (results_row2 (P := Tryz.prog) (fn := Tryz.f83) rfl _ _ (b + 1) (eCells Pe.zero) _ rfl z1 Tryz.underlying31 rfl infoEntryN) rfl ⟨?_, z2⟩
            rw [HF3.out]; rfl
          have HF3 := Lib.hid (show F = (y, 0) by rw [HY.out, if_pos ⟨hf, hll⟩])
          have q3 : ((bs (Pe.line y)).toList == (bs l).toList) = true := by rw [bs_beq]; simpa using hll
          have q4 : ((bs (Pe.line y)).toList != (bs l).toList) = false := by rw [bne, q3]; rfl
          clear hf hll
          go_wp2_with fail
          refine HWC.out.mono ?_
          rintro e wz ⟨rfl, hbz⟩
          have HZ := Lib.hid (HBN.out.below hbz)
          clear hbz
          clear c0 c1 c2 c3 c4 c5 c6 c7 c8 c9
          have c0 : wz.cell? ⟨g, 0, none⟩ = some (.int .i64 y.day) := HZ.out.en.cell 0
          have c1 : wz.cell? ⟨g, 1, none⟩ = some (.int .u8 (y.kind : Int)) := HZ.out.en.cell 1
          have c2 : wz.cell? ⟨g, 2, none⟩ = some (.int .i64 y.since) := HZ.out.en.cell 2
          have c3 : wz.cell? ⟨g, 3, none⟩ = some (.int .i64 y.til) := HZ.out.en.cell 3
          have c4 : wz.cell? ⟨g, 4, none⟩ = some (.int .i64 y.person) := HZ.out.en.cell 4
          have c5 : wz.cell? ⟨g, 5, none⟩ = some (.int .i64 y.place) := HZ.out.en.cell 5
          have c6 : wz.cell? ⟨g, 6, none⟩ = some (.int .i64 y.other) := HZ.out.en.cell 6
          have c7 : wz.cell? ⟨g, 7, none⟩ = some (.int .i64 y.at_) := HZ.out.en.cell 7
          have c8 : wz.cell? ⟨g, 8, none⟩ = some (.int .i64 y.order) := HZ.out.en.cell 8
          have c9 : wz.cell? ⟨g, 9, none⟩ = some (.string (bs y.name)) := HZ.out.en.cell 9
          have r0 : wz.cell? ⟨b+1, 0, none⟩ = some (.int .i64 Pe.zero.day) := HZ.out.a.rs.cell 0
          have r1 : wz.cell? ⟨b+1, 1, none⟩ = some (.int .u8 (Pe.zero.kind : Int)) := HZ.out.a.rs.cell 1
          have r2 : wz.cell? ⟨b+1, 2, none⟩ = some (.int .i64 Pe.zero.since) := HZ.out.a.rs.cell 2
          have r3 : wz.cell? ⟨b+1, 3, none⟩ = some (.int .i64 Pe.zero.til) := HZ.out.a.rs.cell 3
          have r4 : wz.cell? ⟨b+1, 4, none⟩ = some (.int .i64 Pe.zero.person) := HZ.out.a.rs.cell 4
          have r5 : wz.cell? ⟨b+1, 5, none⟩ = some (.int .i64 Pe.zero.place) := HZ.out.a.rs.cell 5
          have r6 : wz.cell? ⟨b+1, 6, none⟩ = some (.int .i64 Pe.zero.other) := HZ.out.a.rs.cell 6
          have r7 : wz.cell? ⟨b+1, 7, none⟩ = some (.int .i64 Pe.zero.at_) := HZ.out.a.rs.cell 7
          have r8 : wz.cell? ⟨b+1, 8, none⟩ = some (.int .i64 Pe.zero.order) := HZ.out.a.rs.cell 8
          have r9 : wz.cell? ⟨b+1, 9, none⟩ = some (.string (bs Pe.zero.name)) := HZ.out.a.rs.cell 9
          have f0 := HZ.out.a.rs.frozen 0
          have f1 := HZ.out.a.rs.frozen 1
          have f2 := HZ.out.a.rs.frozen 2
          have f3 := HZ.out.a.rs.frozen 3
          have f4 := HZ.out.a.rs.frozen 4
          have f5 := HZ.out.a.rs.frozen 5
          have f6 := HZ.out.a.rs.frozen 6
          have f7 := HZ.out.a.rs.frozen 7
          have f8 := HZ.out.a.rs.frozen 8
          have f9 := HZ.out.a.rs.frozen 9
          have lb : b + 1 < wz.heap.size := HZ.out.a.rs.lt
          dsimp only
          go_wp2
          obtain ⟨z1, z2⟩ := RdA.fin HZ.out.a H1.out.2 y
          refine bodyPost_ret (results_row2 (P := Tryz.prog) (fn := Tryz.f83) rfl _ _ (b + 1) (eCells y) _ rfl z1 Tryz.underlying31 rfl infoEntryN) rfl ⟨?_, z2⟩
          rw [HF3.out]; rfl
        · have q1 : ((x.kind : Int) == 1) = false := by simp; omega
          go_upto_region 23 with fail
          have HY := Lib.hid (show F = if Pe.formed x = 0 ∧ Pe.line x = l then (x, 0) else (Pe.zero, 4) by
            rw [hF6, Pe.readEnd, ← hs2, if_neg hk])
          have hym : x.name.length ≤ 9223372036854775807 := by rw [hR.out.2.2.1]; simp
          have HBN := Lib.hid hR.out.1
          clear e1 e9 ef9 elt b0 hs1 hs2 hF6 hk q1
          have c0 : wr.cell? ⟨g, 0, none⟩ = some (.int .i64 x.day) := HBN.out.en.cell 0
          have c1 : wr.cell? ⟨g, 1, none⟩ = some (.int .u8 (x.kind : Int)) := HBN.out.en.cell 1
          have c2 : wr.cell? ⟨g, 2, none⟩ = some (.int .i64 x.since) := HBN.out.en.cell 2
          have c3 : wr.cell? ⟨g, 3, none⟩ = some (.int .i64 x.til) := HBN.out.en.cell 3
          have c4 : wr.cell? ⟨g, 4, none⟩ = some (.int .i64 x.person) := HBN.out.en.cell 4
          have c5 : wr.cell? ⟨g, 5, none⟩ = some (.int .i64 x.place) := HBN.out.en.cell 5
          have c6 : wr.cell? ⟨g, 6, none⟩ = some (.int .i64 x.other) := HBN.out.en.cell 6
          have c7 : wr.cell? ⟨g, 7, none⟩ = some (.int .i64 x.at_) := HBN.out.en.cell 7
          have c8 : wr.cell? ⟨g, 8, none⟩ = some (.int .i64 x.order) := HBN.out.en.cell 8
          have c9 : wr.cell? ⟨g, 9, none⟩ = some (.string (bs x.name)) := HBN.out.en.cell 9
          have hgb : b + 1 < g := H5.out.2.1
          have hwc := Write_calls x hym wr (H.out.2.2.below HBN.out.a.bel)
          by_cases hf : Pe.formed x = 0
          case neg =>
            have HF3 := Lib.hid (show F = (Pe.zero, 4) by rw [HY.out, if_neg (fun e => hf e.1)])
            rw [if_neg hf] at hwc
            obtain ⟨f, hff⟩ : ∃ f, f = Pe.formed x := ⟨_, rfl⟩
            rw [← hff] at hwc hf
            have d1 : (f != 0) = true := by simpa using hf
            have HWC := Lib.hid hwc
            clear hwc hff hf
            go_wp2_with fail
            refine HWC.out.mono ?_
            rintro e wz ⟨rfl, hbz⟩
            have HZ := Lib.hid (HBN.out.below hbz)
            clear hbz
            clear c0 c1 c2 c3 c4 c5 c6 c7 c8 c9
            have r0 : wz.cell? ⟨b+1, 0, none⟩ = some (.int .i64 Pe.zero.day) := HZ.out.a.rs.cell 0
            have r1 : wz.cell? ⟨b+1, 1, none⟩ = some (.int .u8 (Pe.zero.kind : Int)) := HZ.out.a.rs.cell 1
            have r2 : wz.cell? ⟨b+1, 2, none⟩ = some (.int .i64 Pe.zero.since) := HZ.out.a.rs.cell 2
            have r3 : wz.cell? ⟨b+1, 3, none⟩ = some (.int .i64 Pe.zero.til) := HZ.out.a.rs.cell 3
            have r4 : wz.cell? ⟨b+1, 4, none⟩ = some (.int .i64 Pe.zero.person) := HZ.out.a.rs.cell 4
            have r5 : wz.cell? ⟨b+1, 5, none⟩ = some (.int .i64 Pe.zero.place) := HZ.out.a.rs.cell 5
            have r6 : wz.cell? ⟨b+1, 6, none⟩ = some (.int .i64 Pe.zero.other) := HZ.out.a.rs.cell 6
            have r7 : wz.cell? ⟨b+1, 7, none⟩ = some (.int .i64 Pe.zero.at_) := HZ.out.a.rs.cell 7
            have r8 : wz.cell? ⟨b+1, 8, none⟩ = some (.int .i64 Pe.zero.order) := HZ.out.a.rs.cell 8
            have r9 : wz.cell? ⟨b+1, 9, none⟩ = some (.string (bs Pe.zero.name)) := HZ.out.a.rs.cell 9
            have f0 := HZ.out.a.rs.frozen 0
            have f1 := HZ.out.a.rs.frozen 1
            have f2 := HZ.out.a.rs.frozen 2
            have f3 := HZ.out.a.rs.frozen 3
            have f4 := HZ.out.a.rs.frozen 4
            have f5 := HZ.out.a.rs.frozen 5
            have f6 := HZ.out.a.rs.frozen 6
            have f7 := HZ.out.a.rs.frozen 7
            have f8 := HZ.out.a.rs.frozen 8
            have f9 := HZ.out.a.rs.frozen 9
            have lb : b + 1 < wz.heap.size := HZ.out.a.rs.lt
            dsimp only
            go_wp2
            obtain ⟨z1, z2⟩ := RdA.fin HZ.out.a H1.out.2 Pe.zero
            refine bodyPost_ret (results_row2 (P := Tryz.prog) (fn := Tryz.f83) rfl _ _ (b + 1) (eCells Pe.zero) _ rfl z1 Tryz.underlying31 rfl infoEntryN) rfl ⟨?_, z2⟩
            rw [HF3.out]; rfl
          rw [if_pos hf, hf] at hwc
          have HWC := Lib.hid hwc
          clear hwc
          by_cases hll : Pe.line x = l
          case neg =>
            have HF3 := Lib.hid (show F = (Pe.zero, 4) by rw [HY.out, if_neg (fun e => hll e.2)])
            have q3 : ((bs (Pe.line x)).toList == (bs l).toList) = false := by rw [bs_beq]; simpa using hll
            have q4 : ((bs (Pe.line x)).toList != (bs l).toList) = true := by rw [bne, q3]; rfl
            clear hf hll
            go_wp2_with fail
            refine HWC.out.mono ?_
            rintro e wz ⟨rfl, hbz⟩
            have HZ := Lib.hid (HBN.out.below hbz)
            clear hbz
            clear c0 c1 c2 c3 c4 c5 c6 c7 c8 c9
            have r0 : wz.cell? ⟨b+1, 0, none⟩ = some (.int .i64 Pe.zero.day) := HZ.out.a.rs.cell 0
            have r1 : wz.cell? ⟨b+1, 1, none⟩ = some (.int .u8 (Pe.zero.kind : Int)) := HZ.out.a.rs.cell 1
            have r2 : wz.cell? ⟨b+1, 2, none⟩ = some (.int .i64 Pe.zero.since) := HZ.out.a.rs.cell 2
            have r3 : wz.cell? ⟨b+1, 3, none⟩ = some (.int .i64 Pe.zero.til) := HZ.out.a.rs.cell 3
            have r4 : wz.cell? ⟨b+1, 4, none⟩ = some (.int .i64 Pe.zero.person) := HZ.out.a.rs.cell 4
            have r5 : wz.cell? ⟨b+1, 5, none⟩ = some (.int .i64 Pe.zero.place) := HZ.out.a.rs.cell 5
            have r6 : wz.cell? ⟨b+1, 6, none⟩ = some (.int .i64 Pe.zero.other) := HZ.out.a.rs.cell 6
            have r7 : wz.cell? ⟨b+1, 7, none⟩ = some (.int .i64 Pe.zero.at_) := HZ.out.a.rs.cell 7
            have r8 : wz.cell? ⟨b+1, 8, none⟩ = some (.int .i64 Pe.zero.order) := HZ.out.a.rs.cell 8
            have r9 : wz.cell? ⟨b+1, 9, none⟩ = some (.string (bs Pe.zero.name)) := HZ.out.a.rs.cell 9
            have f0 := HZ.out.a.rs.frozen 0
            have f1 := HZ.out.a.rs.frozen 1
            have f2 := HZ.out.a.rs.frozen 2
            have f3 := HZ.out.a.rs.frozen 3
            have f4 := HZ.out.a.rs.frozen 4
            have f5 := HZ.out.a.rs.frozen 5
            have f6 := HZ.out.a.rs.frozen 6
            have f7 := HZ.out.a.rs.frozen 7
            have f8 := HZ.out.a.rs.frozen 8
            have f9 := HZ.out.a.rs.frozen 9
            have lb : b + 1 < wz.heap.size := HZ.out.a.rs.lt
            dsimp only
            go_wp2
            obtain ⟨z1, z2⟩ := RdA.fin HZ.out.a H1.out.2 Pe.zero
            refine bodyPost_ret (results_row2 (P := Tryz.prog) (fn := Tryz.f83) rfl _ _ (b + 1) (eCells Pe.zero) _ rfl z1 Tryz.underlying31 rfl infoEntryN) rfl ⟨?_, z2⟩
            rw [HF3.out]; rfl
          have HF3 := Lib.hid (show F = (x, 0) by rw [HY.out, if_pos ⟨hf, hll⟩])
          have q3 : ((bs (Pe.line x)).toList == (bs l).toList) = true := by rw [bs_beq]; simpa using hll
          have q4 : ((bs (Pe.line x)).toList != (bs l).toList) = false := by rw [bne, q3]; rfl
          clear hf hll
          go_wp2_with fail
          refine HWC.out.mono ?_
          rintro e wz ⟨rfl, hbz⟩
          have HZ := Lib.hid (HBN.out.below hbz)
          clear hbz
          clear c0 c1 c2 c3 c4 c5 c6 c7 c8 c9
          have c0 : wz.cell? ⟨g, 0, none⟩ = some (.int .i64 x.day) := HZ.out.en.cell 0
          have c1 : wz.cell? ⟨g, 1, none⟩ = some (.int .u8 (x.kind : Int)) := HZ.out.en.cell 1
          have c2 : wz.cell? ⟨g, 2, none⟩ = some (.int .i64 x.since) := HZ.out.en.cell 2
          have c3 : wz.cell? ⟨g, 3, none⟩ = some (.int .i64 x.til) := HZ.out.en.cell 3
          have c4 : wz.cell? ⟨g, 4, none⟩ = some (.int .i64 x.person) := HZ.out.en.cell 4
          have c5 : wz.cell? ⟨g, 5, none⟩ = some (.int .i64 x.place) := HZ.out.en.cell 5
          have c6 : wz.cell? ⟨g, 6, none⟩ = some (.int .i64 x.other) := HZ.out.en.cell 6
          have c7 : wz.cell? ⟨g, 7, none⟩ = some (.int .i64 x.at_) := HZ.out.en.cell 7
          have c8 : wz.cell? ⟨g, 8, none⟩ = some (.int .i64 x.order) := HZ.out.en.cell 8
          have c9 : wz.cell? ⟨g, 9, none⟩ = some (.string (bs x.name)) := HZ.out.en.cell 9
          have r0 : wz.cell? ⟨b+1, 0, none⟩ = some (.int .i64 Pe.zero.day) := HZ.out.a.rs.cell 0
          have r1 : wz.cell? ⟨b+1, 1, none⟩ = some (.int .u8 (Pe.zero.kind : Int)) := HZ.out.a.rs.cell 1
          have r2 : wz.cell? ⟨b+1, 2, none⟩ = some (.int .i64 Pe.zero.since) := HZ.out.a.rs.cell 2
          have r3 : wz.cell? ⟨b+1, 3, none⟩ = some (.int .i64 Pe.zero.til) := HZ.out.a.rs.cell 3
          have r4 : wz.cell? ⟨b+1, 4, none⟩ = some (.int .i64 Pe.zero.person) := HZ.out.a.rs.cell 4
          have r5 : wz.cell? ⟨b+1, 5, none⟩ = some (.int .i64 Pe.zero.place) := HZ.out.a.rs.cell 5
          have r6 : wz.cell? ⟨b+1, 6, none⟩ = some (.int .i64 Pe.zero.other) := HZ.out.a.rs.cell 6
          have r7 : wz.cell? ⟨b+1, 7, none⟩ = some (.int .i64 Pe.zero.at_) := HZ.out.a.rs.cell 7
          have r8 : wz.cell? ⟨b+1, 8, none⟩ = some (.int .i64 Pe.zero.order) := HZ.out.a.rs.cell 8
          have r9 : wz.cell? ⟨b+1, 9, none⟩ = some (.string (bs Pe.zero.name)) := HZ.out.a.rs.cell 9
          have f0 := HZ.out.a.rs.frozen 0
          have f1 := HZ.out.a.rs.frozen 1
          have f2 := HZ.out.a.rs.frozen 2
          have f3 := HZ.out.a.rs.frozen 3
          have f4 := HZ.out.a.rs.frozen 4
          have f5 := HZ.out.a.rs.frozen 5
          have f6 := HZ.out.a.rs.frozen 6
          have f7 := HZ.out.a.rs.frozen 7
          have f8 := HZ.out.a.rs.frozen 8
          have f9 := HZ.out.a.rs.frozen 9
          have lb : b + 1 < wz.heap.size := HZ.out.a.rs.lt
          dsimp only
          go_wp2
          obtain ⟨z1, z2⟩ := RdA.fin HZ.out.a H1.out.2 x
          refine bodyPost_ret (results_row2 (P := Tryz.prog) (fn := Tryz.f83) rfl _ _ (b + 1) (eCells x) _ rfl z1 Tryz.underlying31 rfl infoEntryN) rfl ⟨?_, z2⟩
          rw [HF3.out]; rfl
      have hd1 : decide ((k : Int) ≤ 7) = true := by simp; omega
      have hwr : IntKind.u8.wrap ((k : Int) + 1) = ((k + 1 : Nat) : Int) := by rw [IntKind.wrap_u8]; omega
      go_wp2_with fail
      refine (verbs_calls wr).mono ?_
      rintro e w6 ⟨mb, rfl, hmb, hM6, hB6⟩
      have hl6 := run_lookup_verb hM6 k hk1 hgo
      unfold vVal at hl6
      have H6 := Lib.hid (hR.out.1.below hB6)
      clear hmb hM6 hB6
      dsimp only
      go_upto_region 12 with fail
      obtain ⟨vb, hvb⟩ : ∃ vb, vb = w6.heap.size := ⟨_, rfl⟩
      obtain ⟨w7, hw7⟩ : ∃ w7, w7 = w6.alloc (.cells #[.string (bs (Pe.word k)), .func (.func (verbFn k)) #[] #[]] 135) := ⟨_, rfl⟩
      have hV7 := Blk.fresh w6 135 #[.string (bs (Pe.word k)), .func (.func (verbFn k)) #[] #[]]
      have hB7 := H6.out.below ((Below.refl _ w6).alloc (Nat.le_refl _) (.cells #[.string (bs (Pe.word k)), .func (.func (verbFn k)) #[] #[]] 135))
      rw [← hw7] at hB7 hV7
      rw [← hvb] at hV7
      rw [← hvb, ← hw7]
      have hgv : g < vb := by rw [hvb]; exact H6.out.en.lt
      have H7 := Lib.hid (And.intro hB7 (And.intro hV7 hgv))
      have v0 : w7.cell? ⟨vb, 0, none⟩ = some (.string (bs (Pe.word k))) := hV7.cell 0
      clear hB7 hV7 hw7 hvb hl6
      by_cases hw : Pe.word k = V
      case neg =>
        have q1 : ((bs (Pe.word k)).toList == (bs V).toList) = false := by rw [bs_beq]; simpa using hw
        have HW := Lib.hid hw
        clear hw
        go_wp2
        go_roundg (gk - 1)
        case measure => omega
        case rel =>
          refine ⟨k + 1, x, m, rfl, by omega, by omega, Lib.hid ⟨H7.out.1, hR.out.2.1, hR.out.2.2.1, ?_⟩⟩
          have hne : Pe.kindOf V ≠ k := fun e => HW.out ((Pe.kindOf_iff hk1 hgo).1 e).symm
          rcases hR.out.2.2.2 with ⟨h1, h2, h3⟩ | ⟨h1, h2, h3⟩
          · exact .inl ⟨by omega, h2, h3⟩
          · exact .inr ⟨h1, by omega, h3⟩
      subst hw
      have hKk : Pe.kindOf (Pe.word k) = k := (Pe.kindOf_iff hk1 hgo).2 rfl
      have hst : x = { Pe.zero with day := d } ∧ m = l1 := by
        rcases hR.out.2.2.2 with ⟨h1, h2, h3⟩ | ⟨h1, h2, h3⟩
        · exact ⟨h2, h3⟩
        · omega
      have HST := Lib.hid (And.intro hst hKk)
      clear hst hKk
      have q1 : ((bs (Pe.word k)).toList == (bs (Pe.word k)).toList) = true := by simp
      have e1 : w7.cell? ⟨g, 1, none⟩ = some (.int .u8 (x.kind : Int)) := H7.out.1.en.cell 1
      have ef1 := H7.out.1.en.frozen 1
      have elt : g < w7.heap.size := H7.out.1.en.lt
      go_upto_region 14 with fail
      obtain ⟨w8, hw8⟩ : ∃ w8, w8 = w7.setCell ⟨g, 1, none⟩ (.int .u8 (k : Int)) := ⟨_, rfl⟩
      have hB8 := H7.out.1.set H1.out.2 H5.out.2.1 1 (.int .u8 (k : Int)) (eCells_kind x k)
      have hV8 := H7.out.2.1.far (p := ⟨g, 1, none⟩) (by have := H7.out.2.2; simp; omega) (.int .u8 (k : Int))
      rw [← hw8] at hB8 hV8 ⊢
      have v1 : w8.cell? ⟨vb, 1, none⟩ = some (.func (.func (verbFn k)) #[] #[]) := hV8.cell 1
      have H8 := Lib.hid hB8
      clear v0 e1 ef1 elt hw8 hB8 hV8
      have hfc := verb_calls g k w8 hk1 hgo
      obtain ⟨G, hG⟩ : ∃ G, G = verbFn k := ⟨_, rfl⟩
      have hen := verb_enters k hk1 hgo
      rw [← hG] at v1 hfc hen ⊢
      have HFC := Lib.hid hfc
      clear hfc hG
      obtain ⟨n, hn⟩ : ∃ n, n = (Pe.offs k).length := ⟨_, rfl⟩
      have hn7 : n ≤ 7 := by rw [hn]; unfold Pe.offs; split <;> decide
      go_wp2_with fail
      refine HFC.out.mono ?_
      rintro e w9 ⟨rfl, hP9, hB9⟩
      rw [← hn]
      obtain ⟨pb, hpb⟩ : ∃ pb, pb = w8.heap.size := ⟨_, rfl⟩
      rw [← hpb] at hP9 ⊢
      have hgp : g < pb := by rw [hpb]; exact H8.out.en.lt
      have H9 := Lib.hid (And.intro (H8.out.below hB9) (And.intro hP9 (And.intro hgp hn)))
      clear hP9 hB9 v1 hen hpb hgp hn
      dsimp only
      go_wp2_with fail
      go_loopg [48] n (fun q s48 wr => ∃ (i : Nat) (y : Pe.Ent) (p : List UInt8), s48 = .int .i64 (i : Int) ∧ i + q = n ∧ Hid (RdB w b g p y wr ∧ Blk wr pb 140 (fptrs g k) ∧ p.length ≤ 140737488355328 ∧ y.name = [] ∧ Pe.readNums (Pe.offs k) { Pe.zero with day := d, kind := k } l1 = Pe.readNums ((Pe.offs k).drop i) y p))
      case atStart => exact ⟨0, { x with kind := k }, m, by go_num, by omega, Lib.hid ⟨H9.out.1, H9.out.2.1, hR.out.2.1, hR.out.2.2.1, by rw [HST.out.1.1, HST.out.1.2]; rfl⟩⟩
      case round =>
        obtain ⟨i, y, p, rfl, hi, hY⟩ := hrel
        by_cases hgi : i < n
        case neg =>
          have hd2 : decide ((i : Int) < (n : Int)) = false := by simp; omega
          go_wp2
          go_roundg (7 - k)
          case measure => omega
          case rel =>
            refine ⟨k + 1, y, p, rfl, by omega, by omega, Lib.hid ⟨hY.out.1, hY.out.2.2.1, hY.out.2.2.2.1, .inr ⟨?_, ?_, ?_⟩⟩⟩
            · rw [HST.out.2]; omega
            · rw [HST.out.2]; omega
            · rw [HST.out.2, hY.out.2.2.2.2, List.drop_eq_nil_of_le (by have := H9.out.2.2.2; omega)]; rfl
        have hd2 : decide ((i : Int) < (n : Int)) = true := by simp; omega
        obtain ⟨o, ho⟩ : ∃ o, (Pe.offs k)[i]? = some o := ⟨_, List.getElem?_eq_getElem (by have := H9.out.2.2.2; omega)⟩
        have hom : o ∈ Pe.offs k := List.mem_of_getElem? ho
        have hdr : (Pe.offs k).drop i = o :: (Pe.offs k).drop (i + 1) := by
          obtain ⟨h1, h2⟩ := List.getElem?_eq_some_iff.1 ho
          rw [List.drop_eq_getElem_cons h1, h2]
        have g0 : wr.cell? ⟨pb, i, none⟩ = some (.pointer (some ⟨g, o, none⟩)) := by
          rw [hY.out.2.1.cell i]
          simp [fptrs, ho]
        have HX := Lib.hid (And.intro ho (And.intro hom hdr))
        clear ho hom hdr
        go_wp2_with fail
        refine (Read_1_calls b p wr hY.out.1.a.ln (by have := hY.out.2.2.1; omega)).mono ?_
        rintro e wa ⟨rfl, hna, hca⟩
        have HA := Lib.hid (And.intro (hY.out.1.cut H1.out.2 H5.out.2.1 hna hca) (hca.blk hY.out.2.1 (by have := H9.out.2.2.1; have := H5.out.2.1; omega)))
        clear hna hca g0
        dsimp only
        go_wp2_with fail
        refine (Atoi_calls (Pe.cut1 p).1 wa (by have := (Pe.cut1_le p).1; have := hY.out.2.2.1; omega) (H.out.2.2.below HA.out.1.a.bel)).mono ?_
        rintro e wd ⟨he, hbd⟩
        have HD := Lib.hid (And.intro (HA.out.1.below hbd) (HA.out.2.below hbd HA.out.2.lt))
        clear hbd
        have eo : wd.cell? ⟨g, o, none⟩ = some (.int .i64 (y.get o)) := by
          rw [HD.out.1.en.cell o]
          exact eCells_get y k o HX.out.2.1
        have eof := HD.out.1.en.frozen o
        have elt : g < wd.heap.size := HD.out.1.en.lt
        have hgb : b + 1 < g := H5.out.2.1
        cases hnu : num? (Pe.cut1 p).1 with
        | none =>
          rw [hnu] at he
          have HF3 := Lib.hid (show F = (Pe.zero, 4) by rw [H5.out.2.2.2, HST.out.2, hY.out.2.2.2.2, HX.out.2.2, Pe.readNums, hnu]; rfl)
          obtain ⟨nn, tp, pp, rfl⟩ := he
          clear hnu
          have r0 : wd.cell? ⟨b+1, 0, none⟩ = some (.int .i64 Pe.zero.day) := HD.out.1.a.rs.cell 0
          have r1 : wd.cell? ⟨b+1, 1, none⟩ = some (.int .u8 (Pe.zero.kind : Int)) := HD.out.1.a.rs.cell 1
          have r2 : wd.cell? ⟨b+1, 2, none⟩ = some (.int .i64 Pe.zero.since) := HD.out.1.a.rs.cell 2
          have r3 : wd.cell? ⟨b+1, 3, none⟩ = some (.int .i64 Pe.zero.til) := HD.out.1.a.rs.cell 3
          have r4 : wd.cell? ⟨b+1, 4, none⟩ = some (.int .i64 Pe.zero.person) := HD.out.1.a.rs.cell 4
          have r5 : wd.cell? ⟨b+1, 5, none⟩ = some (.int .i64 Pe.zero.place) := HD.out.1.a.rs.cell 5
          have r6 : wd.cell? ⟨b+1, 6, none⟩ = some (.int .i64 Pe.zero.other) := HD.out.1.a.rs.cell 6
          have r7 : wd.cell? ⟨b+1, 7, none⟩ = some (.int .i64 Pe.zero.at_) := HD.out.1.a.rs.cell 7
          have r8 : wd.cell? ⟨b+1, 8, none⟩ = some (.int .i64 Pe.zero.order) := HD.out.1.a.rs.cell 8
          have r9 : wd.cell? ⟨b+1, 9, none⟩ = some (.string (bs Pe.zero.name)) := HD.out.1.a.rs.cell 9
          have f0 := HD.out.1.a.rs.frozen 0
          have f1 := HD.out.1.a.rs.frozen 1
          have f2 := HD.out.1.a.rs.frozen 2
          have f3 := HD.out.1.a.rs.frozen 3
          have f4 := HD.out.1.a.rs.frozen 4
          have f5 := HD.out.1.a.rs.frozen 5
          have f6 := HD.out.1.a.rs.frozen 6
          have f7 := HD.out.1.a.rs.frozen 7
          have f8 := HD.out.1.a.rs.frozen 8
          have f9 := HD.out.1.a.rs.frozen 9
          have lb : b + 1 < wd.heap.size := HD.out.1.a.rs.lt
          dsimp only
          go_wp2
          obtain ⟨z1, z2⟩ := RdA.fin (HD.out.1.a.set H1.out.2 (p := ⟨g, o, none⟩) hgb (.int .i64 nn)) H1.out.2 Pe.zero
          refine bodyPost_ret (results_row2 (P := Tryz.prog) (fn := Tryz.f83) rfl _ _ (b + 1) (eCells Pe.zero) _ rfl z1 Tryz.underlying31 rfl infoEntryN) rfl ⟨?_, z2⟩
          rw [HF3.out]; rfl
        | some v =>
          rw [hnu] at he
          obtain rfl := he
          have HNU := Lib.hid hnu
          clear hnu
          dsimp only
          go_wp2
          go_roundg (gk - 1)
          case measure => omega
          case rel =>
            refine ⟨i + 1, y.set o v, (Pe.cut1 p).2, by go_num, by omega, Lib.hid ⟨HD.out.1.set H1.out.2 hgb o (.int .i64 v) (eCells_set y k v o HX.out.2.1), HD.out.2.far (by have := H9.out.2.2.1; simp; omega) _, ?_, ?_, ?_⟩⟩
            · have h1 := (Pe.cut1_le p).2; have h2 := hY.out.2.2.1; omega
            · rw [Pe.set_name]; exact hY.out.2.2.2.1
            · rw [hY.out.2.2.2.2, HX.out.2.2, Pe.readNums, HNU.out]

end Go.Proofs.YtnphlekailodkaaGreatDoor
