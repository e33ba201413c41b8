/-
  Sectors compared; the walk of the journal's clear.
-/
import Derived.Test.YtdnjelggdjimhaaJw2
import Derived.DeepKeys
namespace Go.Proofs.Ytdnjelggdjimhaa
open Go.RowKit

theorem eqItems_bytes (w : World) (xs ys : List UInt8) : ∀ is : List Nat, (∀ i ∈ is, i < xs.length ∧ i < ys.length) →
    (Op.eqItems 9999 5 1 (bvs xs).toArray (bvs ys).toArray is).run Try.prog w = .ok (is.all fun i => xs.getD i 0 == ys.getD i 0) w
  | [], _ => by simp [Op.eqItems]
  | i :: is, h => by
    obtain ⟨h1, h2⟩ := h i (by simp)
    have p1 := run_part_plain (P := Try.prog) (w := w) (e := 5) (by kernel_rfl) (xs := (bvs xs).toArray) (off := i * 1) (v := .int .u8 ((xs.getD i 0).toNat : Int)) (by simp [bvs, bv, h1])
    have p2 := run_part_plain (P := Try.prog) (w := w) (e := 5) (by kernel_rfl) (xs := (bvs ys).toArray) (off := i * 1) (v := .int .u8 ((ys.getD i 0).toNat : Int)) (by simp [bvs, bv, h2])
    have p3 := run_equalIn_int (P := Try.prog) w 9998 5 .u8 .u8 ((xs.getD i 0).toNat : Int) ((ys.getD i 0).toNat : Int) Try.underlying5
    have ih := eqItems_bytes w xs ys is (fun j hj => h j (by simp [hj]))
    have hb : ((((xs.getD i 0).toNat : Int)) == ((ys.getD i 0).toNat : Int)) = (xs.getD i 0 == ys.getD i 0) := by
      by_cases hx : xs.getD i 0 = ys.getD i 0
      · rw [hx]; exact (beq_self_eq_true _).trans (beq_self_eq_true _).symm
      · have : ¬ ((xs.getD i 0).toNat : Int) = ((ys.getD i 0).toNat : Int) := fun e => hx (UInt8.toNat_inj.1 (by omega))
        rw [beq_eq_false_iff_ne.2 this, beq_eq_false_iff_ne.2 hx]
    rw [hb] at p3
    simp only [Op.eqItems, Sem.run_bind, p1, p2, p3, Result.andThen_ok, List.all_cons]
    cases xs.getD i 0 == ys.getD i 0
    · simp
    · simpa using ih

theorem all_eq (xs ys : List UInt8) (h1 : xs.length = 64) (h2 : ys.length = 64) : ((List.range 64).all fun i => xs.getD i 0 == ys.getD i 0) = decide (xs = ys) := by
  by_cases h : xs = ys
  · subst h; simp
  · rw [decide_eq_false h, List.all_eq_false]
    apply Classical.byContradiction
    intro hn
    apply h
    apply List.ext_getElem (by omega)
    intro i hi1 hi2
    have := fun e => hn ⟨i, by simp; omega, e⟩
    simp [List.getD_eq_getElem?_getD, hi1, hi2] at this
    exact this

theorem eql_sec (w : World) (xs ys : List UInt8) (h1 : xs.length = 64) (h2 : ys.length = 64) :
    (Op.equalIn 10000 75 (.agg (bvs xs).toArray) (.agg (bvs ys).toArray)).run Try.prog w = .ok (decide (xs = ys)) w := by
  obtain ⟨i, hi, _, hz, _⟩ := info_parts Try.infoU8
  have := run_equalIn_array (P := Try.prog) w 9999 (bvs xs).toArray (bvs ys).toArray Try.underlying75 hi
  rw [show Try.prog.cellsOf 5 = 1 from by kernel_rfl, eqItems_bytes w xs ys _ (fun i hi => by simp at hi; omega), all_eq xs ys h1 h2] at this
  exact this

namespace Dk
/-- What clear does from sector i on, f sectors being left; and its error. -/
def clr (d : D) (i : Nat) : Nat → D × Int
  | 0 => (flush d, flushErr d)
  | f + 1 => if d.now.getD i zsec = zsec then clr d (i + 1) f else if writeErr d (i : Int) 0 = 0 then clr (write d (i : Int) []) (i + 1) f else (write d (i : Int) [], writeErr d (i : Int) 0)
theorem write_len (d : D) (s : Int) (l : List UInt8) : (write d s l).now.length = d.now.length := by
  unfold write
  split
  · rfl
  · split
    · rfl
    · split
      · rfl
      · split
        · simp [wrote, spent_now]
        · rw [spent_now]
end Dk

theorem Upd.trans {base g : Nat} {vd vn vw vd1 vn1 vw1 : Value} {w w1 w2 : World} {d2 : Dk.D} (hc : Chg (fpD g vd vn vw) w w1) (hk : ∀ k, fpD g vd1 vn1 vw1 k → fpD g vd vn vw k ∨ w.heap.size ≤ k) (hu : Upd base g vd1 vn1 vw1 w1 d2 w2) : Upd base g vd vn vw w d2 w2 := by
  obtain ⟨vd2, vn2, vw2, hD, hc2, hk2⟩ := hu
  refine ⟨vd2, vn2, vw2, hD, hc.trans hc2 hk, fun k h => ?_⟩
  rcases hk2 k h with h | h
  · exact hk k h
  · exact .inr (Nat.le_trans hc.size h)

theorem JBlk.apart {w : World} {jb g base : Nat} {e r : Int} {d : Dk.D} {vd vn vw : Value} (hJ : JBlk w jb g e r) (hD : DiskAt w base g d vd vn vw) : ¬ fpD g vd vn vw jb := by
  rintro (h | h | h | h)
  · exact Blk.apart hJ hD.blk (by decide) h
  · exact own_ne_blk hD.dur hJ (by decide) jb h rfl
  · exact own_ne_blk hD.now hJ (by decide) jb h rfl
  · exact own_ne_blk hD.wr hJ (by decide) jb h rfl

/-- Where clear stands. -/
structure ClrRel (w wr : World) (base g jb : Nat) (d : Dk.D) (vd vn vw : Value) (e r : Int) (n : Nat) (RES : Dk.D × Int) (f i : Nat) : Prop where
  mid : ∃ dd vd1 vn1 vw1, DiskAt wr base g dd vd1 vn1 vw1 ∧ Chg (fpD g vd vn vw) w wr ∧ (∀ k, fpD g vd1 vn1 vw1 k → fpD g vd vn vw k ∨ w.heap.size ≤ k) ∧ dd.now.length = n ∧ Dk.clr dd i f = RES ∧ dd.wr.length ≤ d.wr.length + i
  jb : JBlk wr jb g e r

set_option maxRecDepth 100000 in
set_option maxHeartbeats 1000000 in
theorem clear_calls {base g jb : Nat} {w : World} {d : Dk.D} {vd vn vw : Value} (e : Nat) (r : Int) (hJ : JBlk w jb g (e : Int) r) (h : DiskAt w base g d vd vn vw) (hwr : d.wr.length ≤ 1000000) (he : e ≤ d.now.length) :
    Calls Try.prog 38 #[.pointer (some ⟨jb, 0, none⟩)] w fun e' w' => e' = .returned (.int .i64 (Dk.clr d e (d.now.length - e)).2) ∧ Upd base g vd vn vw w (Dk.clr d e (d.now.length - e)).1 w' ∧ JBlk w' jb g (e : Int) r := by
  have hj1 : w.cell? ⟨jb, 1, none⟩ = some (.int .i64 (e : Int)) := hJ.cell 1
  obtain ⟨n, hn⟩ : ∃ n, n = d.now.length := ⟨_, rfl⟩
  have hn6 : n ≤ 65536 := by rw [hn]; exact h.ok.many.2
  obtain ⟨RES, hRES⟩ : ∃ RES, RES = Dk.clr d e (d.now.length - e) := ⟨_, rfl⟩
  rw [← hRES]
  rw [← hn] at hRES he
  have HR0 := Lib.hid (show ClrRel w w base g jb d vd vn vw (e : Int) r n RES (n - e) e from ⟨⟨d, vd, vn, vw, h, Chg.refl _ _, fun k hk => .inl hk, hn.symm, hRES.symm, by omega⟩, hJ⟩)
  have HW := Lib.hid hwr
  clear hRES hn h hJ hwr
  go_enter Try.func38, Try.ntmps38
  go_wp2_with fail
  go_loopg [3] (n - e) (fun q s3 wr => ∃ i : Nat, s3 = .int .i64 (i : Int) ∧ i + q = n ∧ Hid (ClrRel w wr base g jb d vd vn vw (e : Int) r n RES q i))
  case atStart => exact ⟨e, rfl, by omega, HR0⟩
  case round =>
    obtain ⟨i, rfl, hi, hR⟩ := hrel
    obtain ⟨dd, vd1, vn1, vw1, hD, hc, hk, hnl, hcl, hdw⟩ := hR.out.mid
    have hj0 : wr.cell? ⟨jb, 0, none⟩ = some (.pointer (some ⟨g, 0, none⟩)) := hR.out.jb.cell 0
    obtain ⟨gn, cn, rfl, hgn, hgn', hcn, hcnm⟩ := own_form hD.now (by have := hD.ok.many; omega)
    have hg1 : wr.cell? ⟨g, 1, none⟩ = some (.slice (some ⟨gn, 0, none⟩) n cn) := by rw [← hnl]; exact hD.blk.cell 1
    have HD := Lib.hid hD
    have HC := Lib.hid (And.intro hc (And.intro hk (And.intro hnl (And.intro hcl hdw))))
    have HJ := Lib.hid hR.out.jb
    clear hD hc hk hnl hcl hdw hj1
    cases gk with
    | zero =>
      obtain rfl : i = n := by omega
      go_wp2_with fail
      refine (flush_upd HD.out).mono ?_
      rintro e1 w1 ⟨rfl, hU⟩
      have HU := Lib.hid hU
      clear hU
      go_wp2
      go_ret
      obtain ⟨hc, hk, hnl, hcl, hdw⟩ := HC.out
      rw [← hcl]
      refine ⟨rfl, Upd.trans hc hk HU.out, ?_⟩
      obtain ⟨_, _, _, _, hcu, _⟩ := HU.out
      exact hcu.blk HJ.out (JBlk.apart HJ.out HD.out)
    | succ f =>
      have hin : i < n := by omega
      obtain ⟨x, hx⟩ : ∃ x, x = dd.now.getD i Dk.zsec := ⟨_, rfl⟩
      have hx64 : x.length = 64 := by rw [hx]; exact Dk.getD_64 HD.out.ok.now64 _
      obtain ⟨X, hX⟩ : ∃ X, X = bvs x := ⟨_, rfl⟩
      obtain ⟨Z, hZ⟩ : ∃ Z, Z = zeros 64 := ⟨_, rfl⟩
      have hXl : X.length = 64 := by rw [hX, length_bvs]; exact hx64
      have hiX : (Try.prog.info? 75).map (·.size) = some X.length := by rw [Try.infoS, hXl]
      have hrg : wr.rangeAt gn (i * 64) X := own_range HD.out.now _ _ (fun j v hv => secs_get (k := i) (s := dd.now.getD i Dk.zsec) HD.out.ok.now64 (by have := HC.out.2.2.1; simp [List.getD_eq_getElem?_getD, this, hin]) j v (by rw [← hx, ← hX]; exact hv))
      have heq : (Op.equalIn 10000 75 (.agg X.toArray) (.agg Z.toArray)).run Try.prog wr = .ok (decide (x = Dk.zsec)) wr := by
        rw [hX, hZ, zeros_bvs]; exact eql_sec wr x Dk.zsec hx64 Dk.length_zsec
      have hbz : ∀ {ops : Array Oper} {rest : List Oper} {o : Oper} {a : Act} {w : World} {Q : Exit → Act → World → Prop}, o.guard = none → o.op = .build 75 #[] →
        wpList Try.prog ops Q rest (a.put o.dst (.agg Z.toArray)) w → wpList Try.prog ops Q (o :: rest) a w := by rw [hZ]; exact fun h1 h2 h3 => wpList_buildS0 h1 h2 h3
      have hcl := HC.out.2.2.2.1
      unfold Dk.clr at hcl
      rw [← hx] at hcl
      have HX := Lib.hid (And.intro hX hx)
      have HRG := Lib.hid hrg
      have HIX := Lib.hid hiX
      clear hX hZ hXl hiX hrg hx hx64
      by_cases hz : x = Dk.zsec
      · rw [if_pos hz] at hcl
        have hdz : decide (x = Dk.zsec) = true := decide_eq_true hz
        have HCL := Lib.hid hcl
        clear hcl hz
        go_wp2_with (first
          | (with_reducible refine wpList_load_mid (op := ⟨some 30, _, _, _, _, _⟩) rfl _ _ rfl gn (i * 64) rfl X _ HRG.out Try.underlying75 rfl HIX.out ?_)
          | (with_reducible refine hbz (o := ⟨some 31, _, _, _, _, _⟩) rfl rfl ?_)
          | fail)
        go_roundg f
        case measure => omega
        case rel =>
          obtain ⟨hc, hk, hnl, _, hdw⟩ := HC.out
          exact ⟨i + 1, by go_num, by omega, Lib.hid ⟨⟨dd, _, _, _, HD.out, hc, hk, hnl, HCL.out, by omega⟩, HJ.out⟩⟩
      · rw [if_neg hz] at hcl
        have hdz : decide (x = Dk.zsec) = false := decide_eq_false hz
        have HCL := Lib.hid hcl
        clear hcl hz
        go_wp2_with (first
          | (with_reducible refine wpList_load_mid (op := ⟨some 30, _, _, _, _, _⟩) rfl _ _ rfl gn (i * 64) rfl X _ HRG.out Try.underlying75 rfl HIX.out ?_)
          | (with_reducible refine hbz (o := ⟨some 31, _, _, _, _, _⟩) rfl rfl ?_)
          | fail)
        obtain ⟨E, hE⟩ : ∃ E, E = Dk.writeErr dd (i : Int) 0 := ⟨_, rfl⟩
        refine (write_upd (i : Int) none 0 0 [] HD.out rfl (.inl rfl) (fun h => absurd rfl h) (by have := HC.out.2.2.2.2; have := HW.out; simp only [maxLen]; omega)).mono ?_
        rw [show Dk.writeErr dd (i : Int) ([] : List UInt8).length = E from hE.symm]
        rintro e1 w1 ⟨rfl, hU⟩
        have hU' := hU
        obtain ⟨vd2, vn2, vw2, hD2, hc2, hk2⟩ := hU'
        have hJ2 := hc2.blk HJ.out (JBlk.apart HJ.out HD.out)
        have HU := Lib.hid (And.intro hU (And.intro hD2 (And.intro hc2 (And.intro hk2 hJ2))))
        have HE := Lib.hid hE
        clear hU hD2 hc2 hk2 hJ2
        by_cases h0 : E = 0
        · have hd0 : (E == 0) = true := by simp [h0]
          clear hE
          subst h0
          have HCL2 := Lib.hid (show Dk.clr (Dk.write dd (i : Int) []) (i + 1) f = RES from by have := HCL.out; rwa [if_pos HE.out.symm] at this)
          go_wp2
          go_roundg f
          case measure => omega
          case rel =>
            obtain ⟨hc, hk, hnl, _, hdw⟩ := HC.out
            obtain ⟨_, hD2, hc2, hk2, hJ2⟩ := HU.out
            refine ⟨i + 1, by go_num, by omega, Lib.hid ⟨⟨Dk.write dd (i : Int) [], vd2, vn2, vw2, hD2, hc.trans hc2 hk, fun k h => ?_, by rw [Dk.write_len]; exact hnl, HCL2.out, by have := Dk.write_wr dd (i : Int) []; omega⟩, hJ2⟩⟩
            rcases hk2 k h with h | h
            · exact hk k h
            · exact .inr (Nat.le_trans hc.size h)
        · have hd0 : (E == 0) = false := by simpa using h0
          have HCL2 := Lib.hid (show (Dk.write dd (i : Int) [], E) = RES from by have := HCL.out; rwa [if_neg (by rw [← HE.out]; exact h0), ← HE.out] at this)
          clear hE
          go_wp2
          go_ret
          obtain ⟨hc, hk, hnl, _, hdw⟩ := HC.out
          rw [← HCL2.out]
          exact ⟨rfl, Upd.trans hc hk HU.out.1, HU.out.2.2.2.2⟩

end Go.Proofs.Ytdnjelggdjimhaa
