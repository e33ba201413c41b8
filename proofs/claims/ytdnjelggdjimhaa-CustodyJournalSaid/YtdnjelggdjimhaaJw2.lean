/-
  The walk of the journal's record.
-/
import Derived.Test.YtdnjelggdjimhaaJw1
import Derived.Deep.AppendLies
import Derived.Lib.SlFresh
import Derived.OwnWalk
namespace Go.Proofs.Ytdnjelggdjimhaa
open Go.RowKit

theorem wpList_want {P : Program} {ops : Array Oper} {Q : Exit → Act → World → Prop} {a : Act} {w : World} {rest : List Oper} {o : Oper} (hw : Region.wanted o (yielded ops a.tmps) = true)
    (h : ∀ K : Act → World → Prop, (∀ a w, wpList P ops Q rest a w → K a w) → o.wp P a w K Q) : wpList P ops Q (o :: rest) a w :=
  wpList_step fun K hK => by simp only [hw, if_true]; exact h K hK
/-- A guarded load of many cells, its guard met. -/
theorem wpList_load_want {P : Program} {w : World} {ops : Array Oper} {rest : List Oper} {op : Oper} {a : Act} {Q : Exit → Act → World → Prop} (hw : Region.wanted op (yielded ops a.tmps) = true) (ty : TypeId) (x : Operand) (ho : op.op = .load ty x)
    (b o : Nat) (hx : a.eval x = .pointer (some ⟨b, o, none⟩)) (cs : List Value) (d : TypeDesc) (hc : w.rangeAt b o cs) (hu : P.underlying ty = some d) (hd : d.isRow = true) (hi : (P.info? ty).map (·.size) = some cs.length)
    (h : wpList P ops Q rest (a.put op.dst (.agg cs.toArray)) w) : wpList P ops Q (op :: rest) a w :=
  wpList_want hw fun _ hK => wp_load_mid ty x ho b o hx cs d hc hu hd hi (hK _ _ h)

theorem sliceSec (w : World) (q m : Nat) (hm : (m : Int) ≤ 59) : (Instr.sliceAt 75 (.pointer (some ⟨q, 0, none⟩)) (some (.int .i64 4)) (some (.int .i64 (4 + (m : Int)))) none).run Try.prog w = .ok (.slice (some ⟨q, 4, none⟩) m 60) w := by
  have ht : Try.prog.underlying 75 = some (.array (Try.prog.arrayLen 75) (Try.prog.elem 75)) := by kernel_rfl
  have hal : Try.prog.arrayLen 75 = 64 := by kernel_rfl
  have hel : (sizeOf (Try.prog.elem 75)).run Try.prog w = .ok 1 w := by kernel_rfl
  rw [run_sliceAt_array_lh w 75 ⟨q, 0, none⟩ ht .i64 .i64 4 (4 + (m : Int)) (by omega) (by omega) (by rw [hal]; omega), hel, hal, Result.andThen_ok]
  unfold slicedAt
  rw [show (4 + (m : Int)).toNat = 4 + m from by omega, show (4 : Int).toNat = 4 from rfl, if_neg (by decide), Addr.add_mid]
  simp
theorem Try.infoU8 : (Try.prog.info? 5).map (fun i => (i.zero, i.size, i.bytes)) = some (some (.int .u8 0), 1, 1) := by kernel_rfl
theorem size_u8z : (Value.int .u8 0).cells.size = 1 := rfl

namespace Dk
def dataOf (x : Sec) : List UInt8 := (x.drop 4).take (min (lft x) 59)
def recGo (d : D) (size : Nat) : Nat → Nat → Sec × Bool → List UInt8 → Option (List UInt8 × Nat)
  | 0, _, _, _ => none
  | f + 1, next, x, b =>
    if x.2 = true ∧ lft x.1 + b.length = size then
      if (b ++ dataOf x.1).length = size then some (b ++ dataOf x.1, next) else recGo d size f (next + 1) (loadOf d (next : Int) 2) (b ++ dataOf x.1)
    else none
/-- The record that begins at a sector, and the sector behind it. -/
def rec (d : D) (at_ : Nat) : Option (List UInt8 × Nat) := recGo d (lft (loadOf d (at_ : Int) 1).1) (lft (loadOf d (at_ : Int) 1).1 + 1) (at_ + 1) (loadOf d (at_ : Int) 1) []
theorem loadOf_64 {d : D} (h : Ok d) (at_ : Int) (kind : Nat) : (loadOf d at_ kind).1.length = 64 := by
  unfold loadOf
  split
  · exact length_zsec
  · exact getD_64 h.now64 _
theorem dataOf_len (x : Sec) (hx : x.length = 64) : (dataOf x).length = min (lft x) 59 := by
  simp [dataOf, hx]
theorem lft_lt (x : List UInt8) : lft x < 16777216 := by
  unfold lft
  have h1 := UInt8.toNat_lt (x.getD 1 0)
  have h2 := UInt8.toNat_lt (x.getD 2 0)
  have h3 := UInt8.toNat_lt (x.getD 3 0)
  omega
end Dk

/-- What record returns. -/
def recVal : Option (List UInt8 × Nat) → Value
  | none => .tuple #[.string ⟨#[]⟩, .int .i64 0, .bool false]
  | some (s, n) => .tuple #[.string (bs s), .int .i64 (n : Int), .bool true]

structure RecRel (w wr : World) (b7 : Nat) (d : Dk.D) (size : Nat) (RES : Option (List UInt8 × Nat)) (gk next : Nat) (x : Dk.Sec) (ok : Bool) (vb : Value) (b : List UInt8) (top : Nat) : Prop where
  blk : Blk wr b7 75 (bvs x).toArray
  x64 : x.length = 64
  own : wr.ownsRow w.heap.size 5 1 vb b.length (bvs b)
  go_ : Dk.recGo d size gk next (x, ok) b = RES
  le : b.length ≤ size
  meas : size - b.length < gk
  next : next + gk ≤ top
  chg : Chg (fun _ => False) w wr
  apart : ∀ k, vb.ownBlock = some k → k ≠ b7
  high : w.heap.size ≤ b7
  zero : b.length < size ∨ (b = [] ∧ vb = .slice none 0 0)

set_option maxRecDepth 100000 in
set_option maxHeartbeats 1000000 in
theorem record_calls {base g jb : Nat} {w : World} {d : Dk.D} {vd vn vw : Value} {e r : Int} (at_ : Nat) (hat : at_ ≤ 1000000) (hJ : JBlk w jb g e r) (h : DiskAt w base g d vd vn vw) :
    Calls Try.prog 37 #[.pointer (some ⟨jb, 0, none⟩), .int .i64 (at_ : Int)] w fun e w' => e = .returned (recVal (Dk.rec d at_)) ∧ Chg (fun _ => False) w w' := by
  have H := Lib.hid h
  have HJ := Lib.hid hJ
  clear h hJ
  go_enter Try.func37, Try.ntmps37
  go_wp2_with fail
  refine (load_calls (at_ : Int) 1 (by omega) HJ.out H.out).mono ?_
  rintro e1 w1 ⟨rfl, hc1⟩
  obtain ⟨y, hy⟩ : ∃ y, y = Dk.loadOf d (at_ : Int) 1 := ⟨_, rfl⟩
  have hy64 : y.1.length = 64 := by rw [hy]; exact Dk.loadOf_64 H.out.ok _ _
  obtain ⟨RES, hRES⟩ : ∃ RES, RES = Dk.rec d at_ := ⟨_, rfl⟩
  have hgo : Dk.recGo d (lft y.1) (lft y.1 + 1) (at_ + 1) y [] = RES := by rw [hRES, hy]; rfl
  rw [← hy]
  have HRES := Lib.hid hRES
  clear hRES hy
  obtain ⟨x, ok⟩ := y
  obtain ⟨X, hX⟩ : ∃ X, X = bvs x := ⟨_, rfl⟩
  have hXl : X.length = 64 := by rw [hX, length_bvs]; exact hy64
  have hX1 : ∀ v ∈ X, v.oneCell' = true := by rw [hX]; exact one_bvs _
  have hi : (Try.prog.info? 75).map (·.size) = some X.length := by rw [Try.infoS, hXl]
  have hth : (w1.alloc (.cells (zeros 64).toArray 75)).there w1.heap.size 0 X.length := (Blk.fresh w1 75 _).there_ 0 _ (by simp [zeros, hXl])
  simp only at hgo ⊢
  rw [← hX]
  have HX := Lib.hid hX
  have HI := Lib.hid hi
  have HTH := Lib.hid hth
  have HGO := Lib.hid hgo
  have HXL := Lib.hid hXl
  have HX1 := Lib.hid hX1
  have HC1 := Lib.hid hc1
  have HY := Lib.hid hy64
  clear hX hi hth hgo hXl hX1 hc1 hy64
  go_wp2_with (first
    | (with_reducible refine wpList_allocS (o := ⟨some 7, _, _, _, _, _⟩) rfl rfl ?_)
    | ((with_reducible refine wpList_store_at (op := ⟨none, _, _, _, _, _⟩) rfl 75 (.tmp 7) (.tmp 14) rfl w1.heap.size 0 X rfl rfl HTH.out HI.out HX1.out ?_); intro w2 hw2; have hr2 : w2.rangeAt w1.heap.size 0 X := by
        rw [hw2.out]
        have := (Blk.fresh w1 75 (zeros 64).toArray).setCells (o := 0) (vs := X) (by simp [zeros, HXL.out])
        refine this.range 0 X (fun j v hv => ?_)
        rw [show (splice (zeros 64).toArray.toList 0 X) = X from by simp only [splice]; rw [List.take_zero, List.nil_append, List.drop_eq_nil_of_le (by simp [zeros, HXL.out]), List.append_nil]]
        simpa using hv)
    | (with_reducible refine wpList_load_mid (op := ⟨some 16, _, _, _, _, _⟩) rfl _ _ rfl w1.heap.size 0 rfl X _ hr2 Try.underlying75 rfl HI.out ?_))
  have hB2 : Blk w2 w1.heap.size 75 X.toArray := by
    rw [hw2.out]
    have := (Blk.fresh w1 75 (zeros 64).toArray).setCells (o := 0) (vs := X) (by simp [zeros, HXL.out])
    rw [show (splice (zeros 64).toArray.toList 0 X) = X from by simp only [splice]; rw [List.take_zero, List.nil_append, List.drop_eq_nil_of_le (by simp [zeros, HXL.out]), List.append_nil]] at this
    exact this
  have hC2 : Chg (fun _ => False) w w2 := by rw [hw2.out]; exact (HC1.out.alloc _).setCells (.inr HC1.out.size) _ _
  have HB2 := Lib.hid hB2
  have HC2 := Lib.hid hC2
  have h17 : w.heap.size ≤ w1.heap.size := HC1.out.size
  clear hr2 hB2 hC2 hw2
  rw [HX.out] at HB2 ⊢
  clear HX HI HTH HXL HX1
  clear X
  refine (left_calls x HY.out w2).mono ?_
  rintro e w3 ⟨rfl, hc3⟩
  obtain ⟨size, hsize⟩ : ∃ size, size = lft x := ⟨_, rfl⟩
  have hlt : size < 16777216 := by rw [hsize]; exact Dk.lft_lt x
  rw [← hsize] at HGO ⊢
  have R0 : RecRel w w3 w1.heap.size d size RES (size + 1) (at_ + 1) x ok (.slice none 0 0) [] (at_ + size + 2) :=
    ⟨hc3.blk HB2.out (fun h => h), HY.out, World.ownsRow_nil _ _ _ _, HGO.out, Nat.zero_le _, by simp, by omega, HC2.out.trans hc3 (fun _ h => h.elim), (fun k hk => by cases hk), h17, .inr ⟨rfl, rfl⟩⟩
  have HR0 := Lib.hid R0
  clear R0 hc3 HGO HY HB2 HC2 hsize
  go_wp2_with fail
  go_loopg [5, 6, 9] (size + 1) (fun q s5 s6 s9 wr => ∃ (next : Nat) (x : Dk.Sec) (ok : Bool) (A : Option Addr) (c : Nat) (b : List UInt8), s5 = .int .i64 (next : Int) ∧ s6 = .bool ok ∧ s9 = .slice A b.length c ∧ Hid (RecRel w wr w1.heap.size d size RES q next x ok (.slice A b.length c) b (at_ + size + 2)))
  case atStart => exact ⟨at_ + 1, x, ok, none, 0, [], by go_num, rfl, rfl, HR0⟩
  case round =>
    obtain ⟨next, x, ok, A, c, b, rfl, rfl, rfl, hR⟩ := hrel
    obtain ⟨f, rfl⟩ : ∃ f, gk = f + 1 := ⟨gk - 1, by have := hR.out.meas; omega⟩
    have hgo := hR.out.go_
    unfold Dk.recGo at hgo
    cases ok
    · have HG := Lib.hid hgo
      clear hgo
      go_wp2
      go_ret3
      refine ⟨?_, hR.out.chg⟩
      rw [← HRES.out, ← HG.out]
      rfl
    obtain ⟨X, hX⟩ : ∃ X, X = bvs x := ⟨_, rfl⟩
    have hXl : X.length = 64 := by rw [hX, length_bvs]; exact hR.out.x64
    have hi : (Try.prog.info? 75).map (·.size) = some X.length := by rw [Try.infoS, hXl]
    have hBx := hR.out.blk
    rw [← hX] at hBx
    have hrx : wr.rangeAt w1.heap.size 0 X := hBx.range 0 X (fun j v hv => by simpa using hv)
    have HX := Lib.hid hX
    have HI := Lib.hid hi
    have HG := Lib.hid hgo
    have HBX := Lib.hid hBx
    have HRX := Lib.hid hrx
    have HXL := Lib.hid hXl
    have hble := hR.out.le
    clear hX hi hgo hBx hrx hXl
    go_wp2_with (first
      | (refine wpList_load_want (op := ⟨some 22, _, _, _, _, _⟩) (by rfl) _ _ rfl w1.heap.size 0 rfl X _ HRX.out Try.underlying75 rfl HI.out ?_)
      | fail)
    rw [HX.out]
    refine (left_calls x hR.out.x64 wr).mono ?_
    rintro e w4 ⟨rfl, hc4⟩
    rw [← HX.out]
    obtain ⟨L, hL⟩ : ∃ L, L = lft x := ⟨_, rfl⟩
    rw [← hL] at HG ⊢
    have HL := Lib.hid hL
    have HC4 := Lib.hid hc4
    clear hL hc4
    by_cases heq : L + b.length = size
    case neg =>
      have hd : ((L : Int) == (size : Int) - (b.length : Int)) = false := by simp; omega
      have HG' := Lib.hid (show none = RES from by have := HG.out; rwa [if_neg (fun h => heq h.2)] at this)
      clear heq HG
      go_wp2
      go_ret3
      refine ⟨?_, hR.out.chg.trans HC4.out (fun _ h => h.elim)⟩
      rw [← HRES.out, ← HG'.out]
      rfl
    have hd : ((L : Int) == (size : Int) - (b.length : Int)) = true := by simp; omega
    have HG' := Lib.hid (show (if (b ++ Dk.dataOf x).length = size then some (b ++ Dk.dataOf x, next) else Dk.recGo d size f (next + 1) (Dk.loadOf d (next : Int) 2) (b ++ Dk.dataOf x)) = RES from by have := HG.out; rwa [if_pos ⟨trivial, heq⟩] at this)
    have HEQ := Lib.hid heq
    clear heq HG
    have hr4 : w4.rangeAt w1.heap.size 0 X := (HC4.out.blk HBX.out (fun h => h)).range 0 X (fun j v hv => by simpa using hv)
    have HR4 := Lib.hid hr4
    clear hr4
    go_wp2_with (first
      | (with_reducible refine wpList_load_mid (op := ⟨some 33, _, _, _, _, _⟩) rfl _ _ rfl w1.heap.size 0 rfl X _ HR4.out Try.underlying75 rfl HI.out ?_)
      | fail)
    rw [HX.out]
    refine (left_calls x hR.out.x64 w4).mono ?_
    rintro e w5 ⟨rfl, hc5⟩
    rw [← HX.out, ← HL.out]
    have HC5 := Lib.hid (HC4.out.trans hc5 (fun _ h => h.elim))
    clear hc5
    by_cases h0 : L = 0
    case pos =>
      subst h0
      have hz := hR.out.zero.resolve_left (by have := HEQ.out; omega)
      obtain ⟨rfl, hv⟩ := hz
      obtain ⟨rfl, _, rfl⟩ : A = none ∧ ([] : List UInt8).length = 0 ∧ c = 0 := by injection hv with h1 h2 h3; exact ⟨h1, h2, h3⟩
      clear hv
      have hsz0 : size = 0 := by have := HEQ.out; simpa using this.symm
      subst hsz0
      have hsl : (Instr.sliceAt 75 (.pointer (some ⟨w1.heap.size, 0, none⟩)) (some (.int .i64 4)) (some (.int .i64 4)) none).run Try.prog w5 = .ok (.slice (some ⟨w1.heap.size, 4, none⟩) 0 60) w5 := sliceSec w5 w1.heap.size 0 (by omega)
      have hcv : (convert 22 9 (.slice none 0 0)).run Try.prog w5 = .ok (.string ⟨#[]⟩) w5 := run_convert_bytes_nil w5 22 5 Try.underlying22 Try.underlying5 _ _ 9 Try.underlying9
      have hdat : Dk.dataOf x = [] := by unfold Dk.dataOf; rw [← HL.out]; simp
      have HG2 := Lib.hid (show some ([], next) = RES from by have := HG'.out; rw [hdat] at this; simpa using this)
      clear hdat
      have hmn0 : min (0 : Int) 59 = 0 := by decide
      go_wp2
      go_ret3
      refine ⟨?_, hR.out.chg.trans HC5.out (fun _ h => h.elim)⟩
      rw [← HRES.out, ← HG2.out]
      rfl
    obtain ⟨m, hm⟩ : ∃ m : Nat, m = min L 59 := ⟨_, rfl⟩
    have HMM := Lib.hid hm
    have hmn : min (L : Int) 59 = (m : Int) := by omega
    have hm59 : (m : Int) ≤ 59 := by omega
    have hm0 : (0 : Int) < (m : Int) := by omega
    clear hm
    have hsl := sliceSec w5 w1.heap.size m hm59
    have hO5 := HC5.out.own hR.out.own (fun _ _ h => h)
    have hB5 := HC5.out.blk HBX.out (fun h => h)
    have hll : ((X.drop 4).take m).length = m * 1 := by rw [List.length_take, List.length_drop, HXL.out]; omega
    have hnw : ∀ j u, ((X.drop 4).take m)[j]? = some u → w5.cell? ((⟨w1.heap.size, 4, none⟩ : Addr).add j) = some u := fun j u hu => by
      rw [Addr.add_mid, hB5.cell]
      rw [List.getElem?_take] at hu
      split at hu
      · simpa using hu
      · cases hu
    have hone : ∀ u ∈ (X.drop 4).take m, u.oneCell' = true := fun u hu => by
      have : u ∈ bvs x := by rw [← HX.out]; exact List.mem_of_mem_drop (List.mem_of_mem_take hu)
      exact one_bvs _ u this
    obtain ⟨i0, hi0, hz0, hz1, hz2⟩ := info_parts Try.infoU8
    have hbm : b.length + m ≤ maxLen := by have := HEQ.out; simp only [maxLen]; omega
    have hbm2 : (b.length + m) * 1 ≤ 140737488355328 := by have := HEQ.out; omega
    have hw5 : w.heap.size ≤ w5.heap.size := Nat.le_trans hR.out.chg.size HC5.out.size
    have hm0' : 0 < m := by omega
    have HA := Lib.hid (And.intro hO5 (And.intro hll (And.intro hnw (And.intro hone (And.intro hbm (And.intro hbm2 (And.intro hw5 hm0')))))))
    have HI0 := Lib.hid (And.intro hi0 (And.intro hz0 (And.intro hz1 hz2)))
    have HB5 := Lib.hid hB5
    clear hO5 hll hnw hone hbm hbm2 hw5 hm0' hi0 hz0 hz1 hz2 hB5
    have hcat : bvs b ++ (X.drop 4).take m = bvs (b ++ Dk.dataOf x) := by
      rw [HX.out]
      have := HMM.out
      rw [HL.out] at this
      simp [bvs, Dk.dataOf, this]
    have hdl : (b ++ Dk.dataOf x).length = b.length + m := by
      rw [List.length_append, Dk.dataOf_len x hR.out.x64, HMM.out, HL.out]
    have HCAT := Lib.hid (And.intro hcat hdl)
    clear hcat hdl
    by_cases hfin : b.length + m = size
    · have hd2 : ((b.length : Int) + (m : Int) == (size : Int)) = true := by simp; omega
      have HF := Lib.hid hfin
      clear hfin
      obtain ⟨S, hS⟩ : ∃ S, S = bs (b ++ Dk.dataOf x) := ⟨_, rfl⟩
      have HS := Lib.hid hS
      clear hS
      go_wp2_with (first
        | ((with_reducible refine wpList_append_lies (o := ⟨some 38, _, _, _, _, _⟩) _ rfl (.tmp 32) (.tmp 37) 22 rfl w.heap.size 5 i0 (.int .u8 0) 1 1 Try.underlying22 HI0.out.1 HI0.out.2.1 HI0.out.2.2.1 HI0.out.2.2.2 size_u8z Nat.one_pos (.slice A b.length c) b.length (bvs b) rfl HA.out.1 ⟨w1.heap.size, 4, none⟩ m 60 ((X.drop 4).take m) rfl HA.out.2.1 HA.out.2.2.1 HA.out.2.2.2.1 HA.out.2.2.2.2.2.2.2 HA.out.2.2.2.2.1 HA.out.2.2.2.2.2.1 HA.out.2.2.2.2.2.2.1 w5.heap.size rfl ?_); intro g' cap w6 hown hgrow hat6 hlt6; have hcv : (convert 22 9 (.slice (some ⟨g', 0, none⟩) (b.length + m) cap)).run Try.prog w6 = .ok (.string S) w6 := by
            rw [HS.out]
            refine run_str_at HCAT.out.2.symm (.inr ⟨_, rfl, fun j v hv => ?_⟩)
            rw [HCAT.out.1] at hown
            have := own_range hown 0 (bvs (b ++ Dk.dataOf x)) (fun j v hv => by simpa using hv) j v hv
            rw [Addr.add_mid]
            exact this)
        | fail)
      go_ret3
      have C6 : Chg (fun _ => False) w w6 := (hR.out.chg.trans HC5.out (fun _ h => h.elim)).trans (Chg.of_grownBy (fp := fun i => (Value.slice A b.length c).ownBlock = some i) hgrow (fun k hk => .inl hk)) (fun i hi => .inr ((hR.out.own.lt i hi).1))
      refine ⟨?_, C6⟩
      have HG3 := HG'.out
      rw [if_pos (by rw [HCAT.out.2]; exact HF.out)] at HG3
      rw [← HRES.out, ← HG3, HS.out]
      rfl
    · have hd2 : ((b.length : Int) + (m : Int) == (size : Int)) = false := by simp; omega
      have HF := Lib.hid hfin
      clear hfin
      have hnx : (next : Int) + 1 ≤ 9223372036854775807 := by have := hR.out.next; omega
      go_wp2_with (first
        | ((with_reducible refine wpList_append_lies (o := ⟨some 38, _, _, _, _, _⟩) _ rfl (.tmp 32) (.tmp 37) 22 rfl w.heap.size 5 i0 (.int .u8 0) 1 1 Try.underlying22 HI0.out.1 HI0.out.2.1 HI0.out.2.2.1 HI0.out.2.2.2 size_u8z Nat.one_pos (.slice A b.length c) b.length (bvs b) rfl HA.out.1 ⟨w1.heap.size, 4, none⟩ m 60 ((X.drop 4).take m) rfl HA.out.2.1 HA.out.2.2.1 HA.out.2.2.2.1 HA.out.2.2.2.2.2.2.2 HA.out.2.2.2.2.1 HA.out.2.2.2.2.2.1 HA.out.2.2.2.2.2.2.1 w5.heap.size rfl ?_); intro g' cap w6 hown hgrow hat6 hlt6)
        | fail)
      have C56 : Chg (fun i => (Value.slice A b.length c).ownBlock = some i) w5 w6 := Chg.of_grownBy hgrow (fun k hk => .inl hk)
      have C6 : Chg (fun _ => False) w w6 := (hR.out.chg.trans HC5.out (fun _ h => h.elim)).trans C56 (fun i hi => .inr ((hR.out.own.lt i hi).1))
      refine (load_calls (next : Int) 2 (by omega) (C6.blk HJ.out (fun h => h)) (H.out.new_ C6)).mono ?_
      rintro e1 w7 ⟨rfl, hc7⟩
      have hB6 : Blk w6 w1.heap.size 75 X.toArray := C56.blk HB5.out (fun e => hR.out.apart _ e rfl)
      have hB7 := hc7.blk hB6 (fun h => h)
      have hO7 := hc7.own hown (fun _ _ h => h)
      have hg7 : g' ≠ w1.heap.size := by
        rcases hat6 with h | h
        · exact hR.out.apart _ h
        · have := HB5.out.lt; omega
      obtain ⟨y, hy⟩ : ∃ y, y = Dk.loadOf d (next : Int) 2 := ⟨_, rfl⟩
      have hy64 : y.1.length = 64 := by rw [hy]; exact Dk.loadOf_64 H.out.ok _ _
      rw [← hy]
      obtain ⟨Y, hY⟩ : ∃ Y, Y = bvs y.1 := ⟨_, rfl⟩
      have hYl : Y.length = 64 := by rw [hY, length_bvs]; exact hy64
      have hY1 : ∀ v ∈ Y, v.oneCell' = true := by rw [hY]; exact one_bvs _
      have hiY : (Try.prog.info? 75).map (·.size) = some Y.length := by rw [Try.infoS, hYl]
      have hthY : w7.there w1.heap.size 0 Y.length := hB7.there_ 0 _ (by simp [hYl, HXL.out])
      rw [← hY]
      obtain ⟨y1, y2⟩ := y
      simp only at hY ⊢
      have HYY := Lib.hid (And.intro hY (And.intro hy (And.intro hYl (And.intro hB7 (And.intro hO7 (And.intro (C6.trans hc7 (fun _ h => h.elim)) hy64))))))
      have HTH := Lib.hid (And.intro hthY (And.intro hiY hY1))
      clear hB6 hB7 hO7 hy hY hYl hY1 hiY hthY hc7 C6 C56 hgrow hown hy64
      go_wp2_with (first
        | ((with_reducible refine wpList_store_at (op := ⟨none, _, _, _, _, _⟩) rfl 75 (.tmp 7) (.tmp 50) rfl w1.heap.size 0 Y rfl rfl HTH.out.1 HTH.out.2.1 HTH.out.2.2 ?_); intro w8 hw8)
        | fail)
      go_roundg f
      case measure => omega
      case rel =>
        have hm' := HMM.out
        have hE := HEQ.out
        have hF := HF.out
        obtain ⟨hY, hy, hYl, hB7, hO7, hC7, hy64⟩ := HYY.out
        have C8 : Chg (· = w1.heap.size) w7 w8 := by rw [hw8.out]; exact (Chg.refl (· = w1.heap.size) w7).setCells (.inl rfl) _ _
        refine ⟨next + 1, y1, y2, some ⟨g', 0, none⟩, cap, b ++ Dk.dataOf x, by go_num, rfl, by rw [HCAT.out.2], Lib.hid ⟨?_, hy64, ?_, ?_, ?_, ?_, ?_, ?_, ?_, h17, ?_⟩⟩
        · rw [hw8.out, ← hY]
          have := hB7.setCells (o := 0) (vs := Y) (by simp [hYl, HXL.out])
          rw [show (splice X.toArray.toList 0 Y) = Y from by simp only [splice]; rw [List.take_zero, List.nil_append, List.drop_eq_nil_of_le (by simp [hYl, HXL.out]), List.append_nil]] at this
          exact this
        · rw [HCAT.out.2, ← HCAT.out.1]
          exact C8.own hO7 (fun k hk e => hg7 (by have : g' = k := by simpa [Value.ownBlock] using hk
                                                  rw [this]; exact e))
        · have := HG'.out
          rw [if_neg (by rw [HCAT.out.2]; exact hF), ← hy] at this
          exact this
        · rw [HCAT.out.2]; omega
        · rw [HCAT.out.2]; have := hR.out.meas; omega
        · have := hR.out.next; omega
        · exact hC7.trans C8 (fun i hi => .inr (by rw [hi]; exact h17))
        · intro k hk e
          exact hg7 (by have : g' = k := by simpa [Value.ownBlock] using hk
                        rw [this]; exact e)
        · rw [HCAT.out.2]; left; omega

end Go.Proofs.Ytdnjelggdjimhaa
