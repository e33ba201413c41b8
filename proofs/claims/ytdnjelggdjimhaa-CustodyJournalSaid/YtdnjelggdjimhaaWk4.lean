/-
  Flush in every case, and Crash.
-/
import Derived.Test.YtdnjelggdjimhaaWk3
import Derived.Deep.AppendSrc
import Derived.Deep.DeepCutAuto
namespace Go.Proofs.Ytdnjelggdjimhaa
open Go.RowKit

set_option maxHeartbeats 1000000 in
theorem flush_none (g base : Nat) (w : World) (d : Dk.D) (vd vn : Value) (h : DiskAt w base g d vd vn (.slice none 0 0)) (hd : d.down = false) (hsp : Dk.spends d = true) :
    Calls Try.prog 11 #[.pointer (some ⟨g, 0, none⟩)] w fun e w' => e = .returned (.int .i64 0) ∧ DiskAt w' base g (Dk.flushed (Dk.spent d)) vd vn (.slice none 0 0) ∧ Chg (fun k => k = g ∨ vd.ownBlock = some k) w w' := by
  have hB := h.blk
  have hw : d.wr = [] := by
    rcases h.wr.2 with ⟨_, h0⟩ | ⟨_, _, _, h0, _⟩
    · exact List.eq_nil_of_length_eq_zero h0
    · cases h0
  have hc3 : w.cell? ⟨g, 3, none⟩ = some (.bool false) := by rw [← hd]; exact hB.cell 3
  have H := Lib.hid h
  have HW := Lib.hid hw
  clear h hB hd hw
  go_enter Try.func11, Try.ntmps11
  go_wp2_with (first | (go_at_call 29; refine (up_calls g _ false (by assumption)).mono ?_; rintro e w' ⟨rfl, rfl⟩) | fail)
  refine (spend_calls g _ d _ _ _ H.out.blk H.out.ok.left).mono ?_
  rw [hsp]
  rintro e w1 ⟨rfl, hb1, hch1⟩
  have hc2 : w1.cell? ⟨g, 2, none⟩ = some (.slice none 0 0) := hb1.cell 2
  have hf2 : w1.frozen? ⟨g, 2, none⟩ = false := hb1.frozen 2
  have HB := Lib.hid hb1
  have HC := Lib.hid hch1
  clear hb1 hch1
  go_wp2_with fail
  refine wp_loop_rounds 1 ?_
  rw [rounds_succ]
  go_wp2
  go_ret
  have hb := HB.out.put 2 (.slice none 0 0)
  have hc := (Chg.refl (· = g) w1).setCell (p := ⟨g, 2, none⟩) (.inl rfl) (.slice none 0 0)
  have hcc := HC.out.trans hc (fun i hi => .inl hi)
  refine ⟨rfl, ⟨?_, H.out.low, ?_, ?_, World.ownsRow_nil _ _ _ _, H.out.two, Dk.flushed_ok (Dk.spent_ok H.out.ok)⟩, hcc.mono (fun i _ hi => .inl hi)⟩
  · exact hb
  · rw [show (Dk.flushed (Dk.spent d)).dur = d.dur from by simp [Dk.flushed, Dk.spent_dur, Dk.spent_wr, HW.out, Dk.putAll]]
    exact hcc.own H.out.dur (fun k hk e => own_ne_blk H.out.dur H.out.blk (by decide) k hk e)
  · rw [show (Dk.flushed (Dk.spent d)).now = d.now from Dk.spent_now d]
    exact hcc.own H.out.now (fun k hk e => own_ne_blk H.out.now H.out.blk (by decide) k hk e)

set_option maxHeartbeats 400000 in
theorem flush_down (g : Nat) (w : World) (hc3 : w.cell? ⟨g, 3, none⟩ = some (.bool true)) :
    Calls Try.prog 11 #[.pointer (some ⟨g, 0, none⟩)] w fun e w' => e = .returned (.int .i64 70) ∧ w = w' := by
  go_enter Try.func11, Try.ntmps11
  go_wp2_with (go_at_call 29; refine (up_calls g _ true (by assumption)).mono ?_; rintro e w' ⟨rfl, rfl⟩)
  go_ret
  exact ⟨rfl, rfl⟩

set_option maxHeartbeats 400000 in
theorem flush_fail (g : Nat) (w : World) (d : Dk.D) (vd vn vw : Value) (h : DBlk w g d vd vn vw) (hl : d.left ≤ 9223372036854775807) (hd : d.down = false) (hsp : Dk.spends d = false) :
    Calls Try.prog 11 #[.pointer (some ⟨g, 0, none⟩)] w fun e w' => e = .returned (.int .i64 70) ∧ DBlk w' g (Dk.spent d) vd vn vw ∧ Chg (· = g) w w' := by
  have hc3 : w.cell? ⟨g, 3, none⟩ = some (.bool false) := by rw [← hd]; exact h.cell 3
  have H := Lib.hid h
  clear h hd
  go_enter Try.func11, Try.ntmps11
  go_wp2_with (first | (go_at_call 29; refine (up_calls g _ false (by assumption)).mono ?_; rintro e w' ⟨rfl, rfl⟩) | fail)
  refine (spend_calls g _ d _ _ _ H.out hl).mono ?_
  rw [hsp]
  rintro e w1 ⟨rfl, hb1, hch1⟩
  have H1 := Lib.hid hb1
  have C1 := Lib.hid hch1
  clear hb1 hch1
  go_wp2
  go_ret
  exact ⟨rfl, H1.out, C1.out⟩

/-- What Flush leaves. -/
def Flushes (g base : Nat) (d : Dk.D) (vd vn vw : Value) (w w' : World) : Prop := ∃ vw', DiskAt w' base g d vd vn vw' ∧ Chg (fun k => k = g ∨ vd.ownBlock = some k) w w' ∧ (vw' = vw ∨ vw' = .slice none 0 0)

theorem flush_any (g base : Nat) (w : World) (d : Dk.D) (vd vn vw : Value) (h : DiskAt w base g d vd vn vw) :
    Calls Try.prog 11 #[.pointer (some ⟨g, 0, none⟩)] w fun e w' => e = .returned (.int .i64 (Dk.flushErr d)) ∧ Flushes g base (Dk.flush d) vd vn vw w w' := by
  have hc3 : w.cell? ⟨g, 3, none⟩ = some (.bool d.down) := h.blk.cell 3
  cases hdn : d.down
  case true =>
    rw [hdn] at hc3
    refine (flush_down g w hc3).mono ?_
    rintro e w' ⟨rfl, rfl⟩
    rw [show Dk.flush d = d from by simp [Dk.flush, hdn]]
    exact ⟨by simp [Dk.flushErr, hdn], vw, h, Chg.refl _ _, .inl rfl⟩
  cases hsp : Dk.spends d
  case false =>
    refine (flush_fail g w d vd vn vw h.blk h.ok.left hdn hsp).mono ?_
    rintro e w' ⟨rfl, hb, hc⟩
    rw [show Dk.flush d = Dk.spent d from by simp [Dk.flush, hdn, hsp]]
    exact ⟨by simp [Dk.flushErr, hdn, hsp], vw, h.of_blk hb hc (Dk.spent_dur d) (Dk.spent_now d) (Dk.spent_wr d) (Dk.spent_ok h.ok), hc.mono (fun i _ hi => .inl hi), .inl rfl⟩
  have e1 : Dk.flush d = Dk.flushed (Dk.spent d) := by simp [Dk.flush, hdn, hsp]
  have e2 : Dk.flushErr d = 0 := by simp [Dk.flushErr, hdn, hsp]
  rw [e1, e2]
  rcases h.wr.2 with ⟨rfl, _⟩ | ⟨gw, cw, _, rfl, _⟩
  · exact (flush_none g base w d vd vn h hdn hsp).mono fun e w' hh => ⟨hh.1, _, hh.2.1, hh.2.2, .inr rfl⟩
  · exact (flush_some g base w d vd vn gw cw h hdn hsp).mono fun e w' hh => ⟨hh.1, _, hh.2.1, hh.2.2, .inr rfl⟩


theorem size_zerosS : (Value.agg (zeros 64).toArray).cells.size = 64 := by rfl
/-- The list of how many bytes a crash keeps, where it lies: not in the durable sectors' block. -/
def KeepAt (w : World) (vd : Value) (A : Option Addr) (keep : List Int) : Prop := keep = [] ∨ ∃ ad, A = some ad ∧ vd.ownBlock ≠ some ad.block ∧ ∀ j, j < keep.length → w.cell? (ad.add j) = some (.int .i64 (keep.getD j 0))

structure CrashRel (w0 w1 : World) (base g : Nat) (d : Dk.D) (vd vn vw : Value) (l : List Dk.Sec) : Prop where
  blk : DBlk w1 g d vd vn vw
  dur : w1.ownsRow base 75 64 vd d.dur.length (secs l)
  wr : w1.ownsRow base 77 65 vw d.wr.length (wrs d.wr)
  chg : Chg (fun k => vd.ownBlock = some k) w0 w1

theorem bvs_take (l : List UInt8) (m : Nat) : (bvs l).take m = bvs (l.take m) := by simp [bvs]
theorem secs_torn (x : Dk.Sec) (hx : x.length = 64) (m : Nat) (hm : m ≤ 64) : ∀ (l : List Dk.Sec) (k : Nat), (∀ s ∈ l, s.length = 64) → k < l.length →
    splice (secs l) (k * 64) ((bvs x).take m) = secs (l.set k (x.take m ++ (l.getD k Dk.zsec).drop m))
  | [], k, _, hk => by simp at hk
  | s :: r, 0, h, _ => by
    have e : ∀ y, secs (y :: r) = bvs y ++ secs r := fun _ => rfl
    have hs : (bvs s).length = 64 := by rw [length_bvs]; exact h s (by simp)
    have hb : ∀ a b, bvs (a ++ b) = bvs a ++ bvs b := fun a b => by simp [bvs]
    have hd : bvs (s.drop m) = (bvs s).drop m := by simp [bvs]
    have hl : ((bvs x).take m).length = m := by rw [List.length_take, length_bvs]; omega
    rw [List.set_cons_zero, e, e, show (s :: r).getD 0 Dk.zsec = s from rfl, hb, ← bvs_take, hd]
    simp only [splice, Nat.zero_mul, List.take_zero, List.nil_append, Nat.zero_add, hl]
    rw [List.drop_append_of_le_length (by omega), List.append_assoc]
  | s :: r, k + 1, h, hk => by
    have e : ∀ y r', secs (y :: r') = bvs y ++ secs r' := fun _ _ => rfl
    have hs : (bvs s).length = 64 := by rw [length_bvs]; exact h s (by simp)
    have ih := secs_torn x hx m hm r k (fun y hy => h y (by simp [hy])) (by simpa using hk)
    rw [List.set_cons_succ, e, e, show (s :: r).getD (k + 1) Dk.zsec = r.getD k Dk.zsec from by simp, ← ih]
    simp only [splice]
    rw [show (k + 1) * 64 = 64 + k * 64 from by omega, List.take_append, List.drop_append, hs, List.take_of_length_le (l := bvs s) (by omega), List.drop_of_length_le (l := bvs s) (by omega), List.append_assoc, List.nil_append,
      show 64 + k * 64 - 64 = k * 64 from by omega, show ∀ q, 64 + k * 64 + q - 64 = k * 64 + q from fun q => by omega]
theorem tornFrom_same (keep : List Int) (d : Dk.D) (k : Nat) : (Dk.tornFrom keep 0 d.dur (d.wr.take k)).length = d.dur.length := Dk.length_tornFrom _ _ _ _

theorem CrashRel.next {w0 w1 w2 w3 : World} {base g gd cd : Nat} {d : Dk.D} {vn vw : Value} {keep : List Int} {k : Nat} {p : Nat × Dk.Sec} (hR : CrashRel w0 w1 base g d (.slice (some ⟨gd, 0, none⟩) d.dur.length cd) vn vw (Dk.tornFrom keep 0 d.dur (d.wr.take k)))
    (hok : Dk.Ok d) (hp : d.wr[k]? = some p) (h12 : Chg (fun _ => False) w1 w2) (h3 : w3 = w2.setCells gd (p.1 * 64) ((bvs p.2).take (Dk.keptOf keep k))) :
    CrashRel w0 w3 base g d (.slice (some ⟨gd, 0, none⟩) d.dur.length cd) vn vw (Dk.tornFrom keep 0 d.dur (d.wr.take (k + 1))) := by
  have hpm := hok.wr64 p (List.mem_of_getElem? hp)
  have h64 : ∀ s ∈ Dk.tornFrom keep 0 d.dur (d.wr.take k), s.length = 64 := Dk.tornFrom_64 _ _ _ _ hok.dur64 (fun q hq => (hok.wr64 q (List.mem_of_mem_take hq)).2)
  have C : Chg (· = gd) w1 w3 := by rw [h3]; exact (h12.mono (fp' := (· = gd)) (fun _ _ h => h.elim)).setCells (.inl rfl) _ _
  subst h3
  refine ⟨C.blk hR.blk (fun e => own_ne_blk hR.dur hR.blk (by decide) gd rfl e.symm), ?_, C.own hR.wr (fun k hk e => own_ne_own hR.wr hR.dur (by decide) k gd hk rfl e), ?_⟩
  · rw [Dk.tornFrom_take _ _ _ _ _ hp]
    unfold Dk.torn1
    rw [← secs_torn _ hpm.2 _ (Dk.keptOf_le _ _) _ _ h64 (by rw [tornFrom_same, hok.same]; exact hpm.1)]
    exact own_setCells (h12.own hR.dur (fun _ _ h => h)) _ _ (by
      have h1 := Dk.keptOf_le keep k
      rw [List.length_take, length_bvs, hpm.2, hok.same]; have := hpm.1; omega)
  · exact hR.chg.trans C (fun i hi => .inl (by rw [hi]; rfl))

set_option maxRecDepth 100000 in
set_option maxHeartbeats 1000000 in
theorem crash_some (g base : Nat) (w : World) (d : Dk.D) (vd vn : Value) (gw cw : Nat) (A : Option Addr) (n c : Nat) (keep : List Int) (h : DiskAt w base g d vd vn (.slice (some ⟨gw, 0, none⟩) d.wr.length cw))
    (hn : n = keep.length) (hk : KeepAt w vd A keep) :
    Calls Try.prog 12 #[.pointer (some ⟨g, 0, none⟩), .slice A n c] w fun e w' => e = .returned (.tuple #[]) ∧
      ∃ vn' k, vn'.ownBlock = some k ∧ w.heap.size ≤ k ∧ DiskAt w' base g (Dk.crash d keep) vd vn' (.slice none 0 0) ∧ Chg (fun k => k = g ∨ vd.ownBlock = some k) w w' := by
  have hB := h.blk
  obtain ⟨gd, cd, rfl, hgd, hgd', hcd, hcdm⟩ := own_form h.dur (by have := h.ok.many; have := h.ok.same; omega)
  have hmax : d.wr.length ≤ 9223372036854775807 := by
    obtain ⟨_, _, _, h1, h2⟩ := own_shape h.wr
    simp only [maxLen] at h2; omega
  have hcw : d.wr.length ≤ cw := by
    obtain ⟨_, _, _, h1, _⟩ := own_parts h.wr
    omega
  have hc2 : w.cell? ⟨g, 2, none⟩ = some (.slice (some ⟨gw, 0, none⟩) d.wr.length cw) := hB.cell 2
  have R0 : CrashRel w w base g d (.slice (some ⟨gd, 0, none⟩) d.dur.length cd) vn (.slice (some ⟨gw, 0, none⟩) d.wr.length cw) (Dk.tornFrom keep 0 d.dur (d.wr.take 0)) := ⟨hB, h.dur, h.wr, Chg.refl _ _⟩
  have R := Lib.hid R0
  have H := Lib.hid h
  have HN := Lib.hid hn
  have HK := Lib.hid hk
  clear h hB R0 hn hk
  go_enter Try.func12, Try.ntmps12
  go_wp2_with fail
  go_loopg [14] d.wr.length (fun m i wr => ∃ k : Nat, k ≤ d.wr.length ∧ m + k = d.wr.length ∧ i = .int .i64 k ∧ Hid (CrashRel w wr base g d (.slice (some ⟨gd, 0, none⟩) d.dur.length cd) vn (.slice (some ⟨gw, 0, none⟩) d.wr.length cw) (Dk.tornFrom keep 0 d.dur (d.wr.take k))))
  case atStart => exact ⟨0, Nat.zero_le _, rfl, rfl, R⟩
  case round =>
    obtain ⟨k, hk, hgk, rfl, hR⟩ := hrel
    by_cases hlt : k < d.wr.length
    · have hGK := Lib.hid hgk
      clear hgk hc2
      obtain ⟨p, hp⟩ : ∃ p, d.wr[k]? = some p := ⟨_, List.getElem?_eq_getElem hlt⟩
      have hpm := H.out.ok.wr64 p (List.mem_of_getElem? hp)
      have hw64 : ∀ p ∈ d.wr, p.2.length = 64 := fun q hq => (H.out.ok.wr64 q hq).2
      obtain ⟨X, hX⟩ : ∃ X, X = bvs p.2 := ⟨_, rfl⟩
      have hr : wr.rangeAt gw (k * 65) (.int .i64 (p.1 : Int) :: X) := own_range hR.out.wr _ _ (fun j v hv => wrs_get hw64 hp j v (by rw [← hX]; exact hv))
      have hXl : X.length = 64 := by rw [hX, length_bvs]; exact hpm.2
      have hX1 : ∀ v ∈ X, v.oneCell' = true := by rw [hX]; exact one_bvs _
      have hP1 : ∀ v ∈ (.int .i64 (p.1 : Int) :: X), v.oneCell' = true := by
        intro v hv
        rcases List.mem_cons.1 hv with rfl | hv
        · rfl
        · exact hX1 v hv
      have HIP : Hid ((Try.prog.info? 77).map (·.size) = some (Value.int .i64 (p.1 : Int) :: X).length) := Lib.hid (by rw [Try.sizeP, List.length_cons, hXl])
      have hth : (wr.alloc (.cells zerosP.toArray 77)).there wr.heap.size 0 (Value.int .i64 (p.1 : Int) :: X).length := (Blk.fresh wr 77 _).there_ 0 _ (by simp [zerosP, zeros, hXl])
      have hat : (p.1 : Int) < (d.dur.length : Int) := by rw [H.out.ok.same]; exact Int.ofNat_lt.2 hpm.1
      have HX := Lib.hid hX
      have HXL := Lib.hid hXl
      have HP := Lib.hid hp
      clear hX hXl hp hw64
      obtain ⟨m, hm⟩ : ∃ m, m = Dk.keptOf keep k := ⟨_, rfl⟩
      have hm64 : (m : Int) ≤ 64 := by rw [hm]; exact Int.ofNat_le.2 (Dk.keptOf_le _ _)
      have hCX : Hid (∀ w2, w2 = (wr.alloc (.cells zerosP.toArray 77)).setCells wr.heap.size 0 (.int .i64 (p.1 : Int) :: X) → k < n → ∃ ad, A = some ad ∧ w2.cell? (ad.add k) = some (.int .i64 (keep.getD k 0))) := Lib.hid fun w2 hw2 hkl => by
        have hne : keep ≠ [] := fun e => by have := HN.out; rw [e] at this; simp at this; omega
        obtain ⟨ad, rfl, hadb, hcell⟩ := HK.out.resolve_left hne
        have hcx : w.cell? (ad.add k) = some (.int .i64 (keep.getD k 0)) := hcell k (by rw [← HN.out]; exact hkl)
        have hbl : (ad.add k).block = ad.block := by unfold Addr.add; split <;> rfl
        have C2 : Chg (fun i => gd = i) w w2 := by
          rw [hw2]
          exact ((hR.out.chg.mono (fp' := fun i => gd = i) (fun i _ hi => by simpa [Value.ownBlock] using hi)).alloc _).setCells (.inr hR.out.chg.size) _ _
        refine ⟨ad, rfl, ?_⟩
        rw [C2.cell (World.block_lt_of_cell? w _ hcx) (by rw [hbl]; intro e; exact hadb (by rw [← e]; rfl))]
        exact hcx
      have HM := Lib.hid hm
      clear hm
      go_upto_if 22 with (first
          | (with_reducible refine wpList_load_mid (op := ⟨some 18, _, _, _, _, _⟩) rfl _ _ rfl gw (k * 65) rfl (.int .i64 (p.1 : Int) :: X) _ hr Try.underlying77 rfl HIP.out ?_)
          | (with_reducible refine wpList_allocP (o := ⟨some 5, _, _, _, _, _⟩) rfl rfl ?_)
          | ((with_reducible refine wpList_store_at (op := ⟨none, _, _, _, _, _⟩) rfl 77 (.tmp 5) (.tmp 18) rfl wr.heap.size 0 (.int .i64 (p.1 : Int) :: X) rfl rfl hth HIP.out hP1 ?_); intro w2 hw2))
      go_cut [6] (fun s6 wx => s6 = .int .i64 (m : Int) ∧ wx = w2)
      case first =>
        by_cases hkl : k < n
        · obtain ⟨ad, rfl, hcx⟩ := hCX.out w2 hw2.out hkl
          have hmv := HM.out
          unfold Dk.keptOf at hmv
          obtain ⟨x, hx⟩ : ∃ x, x = keep.getD k 0 := ⟨_, rfl⟩
          rw [← hx] at hcx hmv
          have HMV := Lib.hid hmv
          clear hx hmv
          go_wp2
          all_goals (go_meet; exact ⟨by have := HMV.out; congr 1; omega, rfl⟩)
        · have hmv : m = 0 := by
            rw [HM.out]
            unfold Dk.keptOf
            rw [List.getD_eq_getElem?_getD, List.getElem?_eq_none (by rw [← HN.out]; omega)]
            rfl
          subst hmv
          go_wp2
          go_meet
          exact ⟨rfl, rfl⟩
      case rest =>
        obtain ⟨rfl, rfl⟩ := hcut
        have C2 : Chg (fun _ => False) wr wc := by rw [hw2.out]; exact ((Chg.refl (fun _ => False) wr).alloc _).setCells (.inr (Nat.le_refl _)) _ _
        have HBX : Blk wc wr.heap.size 77 (.int .i64 (p.1 : Int) :: X).toArray := by
          rw [hw2.out]
          have := (Blk.fresh wr 77 zerosP.toArray).setCells (o := 0) (vs := .int .i64 (p.1 : Int) :: X) (by simp [zerosP, zeros, HXL.out])
          rw [show (splice zerosP.toArray.toList 0 (.int .i64 (p.1 : Int) :: X)) = .int .i64 (p.1 : Int) :: X from by simp only [splice]; rw [List.take_zero, List.nil_append, List.drop_eq_nil_of_le (by simp [zerosP, zeros, HXL.out]), List.append_nil]] at this
          exact this
        have hc0 : wc.cell? ⟨g, 0, none⟩ = some (.slice (some ⟨gd, 0, none⟩) d.dur.length cd) := (C2.blk hR.out.blk (fun h => h)).cell 0
        have hcx : wc.cell? ⟨wr.heap.size, 0, none⟩ = some (.int .i64 (p.1 : Int)) := by rw [HBX.cell]; rfl
        have hm0 : (0 : Int) ≤ (m : Int) := Int.natCast_nonneg _
        have hlen : (X.take m).length = m := by rw [List.length_take, HXL.out]; omega
        have hmin : (X.take m).length = Nat.min m m := by rw [hlen]; exact (Nat.min_self _).symm
        have htd : wc.drew.there gd (p.1 * 64) (X.take m).length := by
          have := own_there (C2.own hR.out.dur (fun _ _ h => h)) (p.1 * 64) (X.take m).length (by rw [hlen]; omega)
          simpa using this
        have hsrc : SrcAt wc.drew (some ⟨wr.heap.size, 1, none⟩) (X.take m) := .inr ⟨_, rfl, fun j v hv => by
          rw [Addr.add_mid, World.cell?_drew, HBX.cell, show 1 + j = j + 1 from by omega]
          rw [List.getElem?_take] at hv
          split at hv
          · simpa using hv
          · cases hv⟩
        have h1t : ∀ v ∈ X.take m, v.oneCell' = true := fun v hv => hX1 v (List.mem_of_mem_take hv)
        have HMIN := Lib.hid hmin
        clear hlen hmin hw2
        go_wp2_with fail
        refine wp_region_R (RL [(3, fun w' => w'.cell? ⟨g, 0, none⟩ = some (.slice (some ⟨gd, 0, none⟩) d.dur.length cd)), (5, fun w' => w'.cell? ⟨wr.heap.size, 0, none⟩ = some (.int .i64 (p.1 : Int)))]) (by kernel_rfl) (RL_cons hc0 (RL_cons hcx (RL_nil _))) (fun hp => ?_)
        refine wpAnyR_take (i := 0) (oi := ⟨some 29, _, _, _, _, _⟩) (v := ?_) rfl (by kernel_rfl) (by kernel_rfl) (by kernel_rfl) (fun _ _ _ h => h) hp (.inl ⟨by rfl, fun w _ => ?_⟩) (fun hq => ?_)
        rotate_left
        · go_simp
          with_reducible rfl
        clear hp; have hp := hq; clear hq
        try simp only [Act.put, List.setIfInBounds_toArray, List.set_cons_zero, List.set_cons_succ]
        refine wpAnyR_take (i := 1) (oi := ⟨some 30, _, _, _, _, _⟩) (v := ?_) rfl (by kernel_rfl) (by kernel_rfl) (by kernel_rfl) (fun _ _ _ h => h) hp (.inl ⟨by rfl, fun w _ => ?_⟩) (fun hq => ?_)
        rotate_left
        · go_simp
          with_reducible rfl
        clear hp; have hp := hq; clear hq
        try simp only [Act.put, List.setIfInBounds_toArray, List.set_cons_zero, List.set_cons_succ]
        refine wpAnyR_take (i := 2) (oi := ⟨some 31, _, _, _, _, _⟩) (v := ?_) rfl (by kernel_rfl) (by kernel_rfl) (by kernel_rfl) (fun _ _ _ h => h) hp (.inl ⟨by rfl, fun w _ => ?_⟩) (fun hq => ?_)
        rotate_left
        · go_simp
          with_reducible rfl
        clear hp; have hp := hq; clear hq
        try simp only [Act.put, List.setIfInBounds_toArray, List.set_cons_zero, List.set_cons_succ]
        refine wpAnyR_take (i := 3) (oi := ⟨some 32, _, _, _, _, _⟩) (v := ?_) rfl (by kernel_rfl) (by kernel_rfl) (by kernel_rfl) (fun _ _ _ h => h) hp (.inl ⟨by rfl, fun w hR => ?_⟩) (fun hq => ?_)
        rotate_left
        · have hR := hR.1 rfl
          (try dsimp only at hR)
          go_simp
          with_reducible rfl
        clear hp; have hp := hq; clear hq
        try simp only [Act.put, List.setIfInBounds_toArray, List.set_cons_zero, List.set_cons_succ]
        refine wpAnyR_take (i := 4) (oi := ⟨some 33, _, _, _, _, _⟩) (v := ?_) rfl (by kernel_rfl) (by kernel_rfl) (by kernel_rfl) (fun _ _ _ h => h) hp (.inl ⟨by rfl, fun w _ => ?_⟩) (fun hq => ?_)
        rotate_left
        · go_simp
          with_reducible rfl
        clear hp; have hp := hq; clear hq
        try simp only [Act.put, List.setIfInBounds_toArray, List.set_cons_zero, List.set_cons_succ]
        refine wpAnyR_take (i := 5) (oi := ⟨some 34, _, _, _, _, _⟩) (v := ?_) rfl (by kernel_rfl) (by kernel_rfl) (by kernel_rfl) (fun _ _ _ h => h) hp (.inl ⟨by rfl, fun w hR => ?_⟩) (fun hq => ?_)
        rotate_left
        · have hR := hR.2.1 rfl
          (try dsimp only at hR)
          go_simp
          with_reducible rfl
        clear hp; have hp := hq; clear hq
        try simp only [Act.put, List.setIfInBounds_toArray, List.set_cons_zero, List.set_cons_succ]
        refine wpAnyR_take (i := 6) (oi := ⟨some 35, _, _, _, _, _⟩) (v := ?_) rfl (by kernel_rfl) (by kernel_rfl) (by kernel_rfl) (fun _ _ _ h => h) hp (.inl ⟨by rfl, fun w _ => ?_⟩) (fun hq => ?_)
        rotate_left
        · go_simp
          with_reducible rfl
        clear hp; have hp := hq; clear hq
        try simp only [Act.put, List.setIfInBounds_toArray, List.set_cons_zero, List.set_cons_succ]
        refine wpAnyR_take (i := 7) (oi := ⟨some 36, _, _, _, _, _⟩) (v := ?_) rfl (by kernel_rfl) (by kernel_rfl) (by kernel_rfl) (fun _ _ _ h => h) hp (.inl ⟨by rfl, fun w _ => ?_⟩) (fun hq => ?_)
        rotate_left
        · go_simp
          with_reducible rfl
        clear hp; have hp := hq; clear hq
        try simp only [Act.put, List.setIfInBounds_toArray, List.set_cons_zero, List.set_cons_succ]
        refine wpAnyR_take (i := 8) (oi := ⟨some 37, _, _, _, _, _⟩) (v := ?_) rfl (by kernel_rfl) (by kernel_rfl) (by kernel_rfl) (fun _ _ _ h => h) hp (.inl ⟨by rfl, fun w _ => ?_⟩) (fun hq => ?_)
        rotate_left
        · go_simp
          with_reducible rfl
        clear hp; have hp := hq; clear hq
        try simp only [Act.put, List.setIfInBounds_toArray, List.set_cons_zero, List.set_cons_succ]
        refine wpAnyR_take (i := 9) (oi := ⟨some 38, _, _, _, _, _⟩) (v := ?_) rfl (by kernel_rfl) (by kernel_rfl) (by kernel_rfl) (fun _ _ _ h => h) hp (.inl ⟨by rfl, fun w _ => ?_⟩) (fun hq => ?_)
        rotate_left
        · go_simp
          with_reducible rfl
        clear hp; have hp := hq; clear hq
        try simp only [Act.put, List.setIfInBounds_toArray, List.set_cons_zero, List.set_cons_succ]
        refine wpAnyR_take (i := 10) (oi := ⟨some 39, _, _, _, _, _⟩) (v := ?_) rfl (by kernel_rfl) (by kernel_rfl) (by kernel_rfl) (fun _ _ _ h => h) hp (.inl ⟨by rfl, fun w _ => ?_⟩) (fun hq => ?_)
        rotate_left
        · go_simp
          with_reducible rfl
        clear hp; have hp := hq; clear hq
        try simp only [Act.put, List.setIfInBounds_toArray, List.set_cons_zero, List.set_cons_succ]
        refine wpAnyR_take (i := 11) (oi := ⟨some 40, _, _, _, _, _⟩) (v := ?_) rfl (by kernel_rfl) (by kernel_rfl) (by kernel_rfl) (fun _ _ _ h => h) hp (.inl ⟨by rfl, fun w _ => ?_⟩) (fun hq => ?_)
        rotate_left
        · go_simp
          with_reducible rfl
        clear hp; have hp := hq; clear hq
        try simp only [Act.put, List.setIfInBounds_toArray, List.set_cons_zero, List.set_cons_succ]
        refine wpAnyR_step (i := 12) (o := ⟨some 41, _, _, _, _, _⟩) (by kernel_rfl) rfl (by rfl) (fun K hK => ?_) -- Op.call { callee := Callee.builtin Builtin.copy, args := #[Operand.tmp 37, Operand.tmp 40], argTypes := #[22, 
        refine wp_copy_at _ _ 22 22 (by rfl) 5 Try.underlying22 Try.infob gd (p.1 * 64) m 64 (some ⟨wr.heap.size, 1, none⟩) m 64 (by rfl) (by rfl) (X.take m) HMIN.out hsrc htd h1t ?_
        intro w3 hw3
        have C3 : Chg (· = gd) wc w3 := by rw [hw3.out]; exact (Chg.refl (· = gd) wc).drew.setCells (.inl rfl) _ _
        have hgg : g ≠ gd := fun e => own_ne_blk H.out.dur H.out.blk (by decide) gd rfl e.symm
        have hgx : wr.heap.size ≠ gd := fun e => by have := hR.out.chg.size; omega
        have hS3 : w3.cell? ⟨g, 0, none⟩ = some (.slice (some ⟨gd, 0, none⟩) d.dur.length cd) := (C3.cell (World.block_lt_of_cell? wc _ hc0) hgg).trans hc0
        have hS5 : w3.cell? ⟨wr.heap.size, 0, none⟩ = some (.int .i64 (p.1 : Int)) := (C3.cell (World.block_lt_of_cell? wc _ hcx) hgx).trans hcx
        refine hK _ _ (pend_on hS3 (pend_on hS5 pend_nil)) (fun hq => ?_)
        clear hp hK K; have hp := hq; clear hq
        try simp only [Act.put, List.setIfInBounds_toArray, List.set_cons_zero, List.set_cons_succ]
        refine wpAnyR_done (by kernel_rfl) ?_ _
        clear hp
        go_wp2
        have hgk' := hGK.out
        go_roundg (gk - 1)
        case measure => omega
        case rel => exact ⟨k + 1, by omega, by omega, by go_num, Lib.hid (hR.out.next H.out.ok HP.out (C2.drew) (by rw [hw3.out, HX.out, HM.out]))⟩
    · obtain rfl : k = d.wr.length := by omega
      have hR' := hR.out
      rw [List.take_length] at hR'
      obtain ⟨L, hL⟩ : ∃ L, L = Dk.tornFrom keep 0 d.dur d.wr := ⟨_, rfl⟩
      rw [← hL] at hR'
      have hLl : L.length = d.dur.length := by rw [hL]; exact Dk.length_tornFrom _ _ _ _
      have hL64 : ∀ s ∈ L, s.length = 64 := by rw [hL]; exact Dk.tornFrom_64 _ _ _ _ H.out.ok.dur64 (fun q hq => (H.out.ok.wr64 q hq).2)
      obtain ⟨i0, hi0, hz0, hz1, hz2⟩ := info_parts (P := Try.prog) (e := 75) (z := .agg (zeros 64).toArray) (size := 64) (bytes := 64) (by kernel_rfl)
      have hown0 := World.ownsRow_made (base := base) (e := 75) (size := 64) wr #[] 0 (by have := H.out.blk.lt; have := H.out.low; have := hR'.chg.size; omega) (Nat.zero_le _) rfl
      have hown1 := hR'.dur.alloc (.cells #[] 75)
      have hlen : (secs L).length = d.dur.length * 64 := by rw [length_secs L hL64, hLl]
      have hnews := hown1.cells (g := gd) rfl
      have hmany := H.out.ok.many
      have hsame := H.out.ok.same
      have h63 : 0 + d.dur.length ≤ maxLen := by simp only [maxLen]; omega
      have hby : (0 + d.dur.length) * 64 ≤ 140737488355328 := by omega
      have hba : base ≤ (wr.alloc (.cells #[] 75)).heap.size := by have := H.out.blk.lt; have := H.out.low; have := hR'.chg.size; simp; omega
      have hpos : 0 < d.dur.length := by omega
      have hHH : (wr.alloc (.cells #[] 75)).heap.size = wr.heap.size + 1 := by simp
      have hb := hR'.blk
      have hc0 : (wr.alloc (.cells #[] 75)).cell? ⟨g, 0, none⟩ = some (.slice (some ⟨gd, 0, none⟩) d.dur.length cd) := (Blk.alloc hb _).cell 0
      have HB := Lib.hid hb
      have HR := Lib.hid hR'
      have HHH := Lib.hid hHH
      have HLL := Lib.hid hLl
      have HLE := Lib.hid hL
      have HLN := Lib.hid hlen
      have HNW := Lib.hid hnews
      have HSM := Lib.hid hsame
      have HI0 := Lib.hid (And.intro hi0 (And.intro hz0 (And.intro hz1 hz2)))
      clear hb hR' hHH hLl hL hlen hnews hsame hi0 hz0 hz1 hz2 hgk hR
      go_wp2_with ((with_reducible refine wpList_append_lies (o := ⟨some 49, _, _, _, _, _⟩) _ rfl (.tmp 44) (.tmp 48) 70 rfl base 75 i0 _ 64 64 Try.underlying70 HI0.out.1 HI0.out.2.1 HI0.out.2.2.1 HI0.out.2.2.2 size_zerosS (by omega) (.slice (some ⟨wr.heap.size, 0, none⟩) 0 0) 0 [] rfl hown0 ⟨gd, 0, none⟩ d.dur.length cd (secs L) rfl HLN.out HNW.out (one_secs L) hpos h63 hby hba (wr.heap.size + 1) HHH.out ?_); intro gn cn w3 hown hgrow hat hlt; have C3 : Chg (fun _ => False) wr w3 := ((Chg.refl (fun _ => False) wr).alloc (.cells #[] 75)).trans (Chg.of_grownBy (fp := fun i => i = wr.heap.size) hgrow (fun k hk => .inl (by cases hk; rfl))) (fun i hi => .inr (by omega)); have hb3 := C3.blk HB.out (fun h => h); have hc1 := hb3.cell 1; have hf1 := hb3.frozen 1; have hc2' := hb3.cell 2; have hf2 := hb3.frozen 2; have hc3 := hb3.cell 3; have hf3 := hb3.frozen 3; have hc4 := hb3.cell 4; have hf4 := hb3.frozen 4; have HB3 := Lib.hid hb3; clear hb3)
      go_end0
      have hbl := (((HB3.out.put 1 (.slice (some ⟨gn, 0, none⟩) d.dur.length cn)).put 2 (.slice none 0 0)).put 3 (.bool false)).put 4 (.bool false)
      have c4 := ((((Chg.refl (· = g) w3).setCell (p := ⟨g, 1, none⟩) (.inl rfl) (.slice (some ⟨gn, 0, none⟩) d.dur.length cn)).setCell (p := ⟨g, 2, none⟩) (.inl rfl) (.slice none 0 0)).setCell (p := ⟨g, 3, none⟩) (.inl rfl) (.bool false)).setCell (p := ⟨g, 4, none⟩) (.inl rfl) (.bool false)
      have hng : gn = wr.heap.size ∨ gn = wr.heap.size + 1 := by
        rcases hat with h | h
        · left; simpa [Value.ownBlock] using h.symm
        · exact .inr h
      have hsz := HR.out.chg.size
      have hgl := H.out.blk.lt
      refine ⟨rfl, .slice (some ⟨gn, 0, none⟩) d.dur.length cn, gn, rfl, by omega, ⟨hbl, H.out.low, ?_, ?_, World.ownsRow_nil _ _ _ _, ?_, Dk.crash_ok H.out.ok keep⟩, ?_⟩
      · rw [show (Dk.crash d keep).dur = L from HLE.out.symm, HLL.out]
        exact c4.own (C3.own HR.out.dur (fun _ _ h => h)) (fun k hk e => own_ne_blk H.out.dur H.out.blk (by decide) k hk e)
      · rw [show (Dk.crash d keep).now = L from HLE.out.symm, HLL.out]
        have := c4.own hown (fun k hk e => absurd (show gn = k from by simpa [Value.ownBlock] using hk) (by omega))
        simpa using this
      · intro e
        have : gd = gn := by simpa [Value.ownBlock] using e
        omega
      · exact ((HR.out.chg.mono (fp' := fun k => k = g ∨ (Value.slice (some ⟨gd, 0, none⟩) d.dur.length cd).ownBlock = some k) (fun i _ hi => .inr hi)).trans C3 (fun _ h => h.elim)).trans c4 (fun i hi => .inl (.inl hi))

set_option maxRecDepth 100000 in
set_option maxHeartbeats 1000000 in
theorem crash_none (g base : Nat) (w : World) (d : Dk.D) (vd vn : Value) (v : Value) (keep : List Int) (h : DiskAt w base g d vd vn (.slice none 0 0)) :
    Calls Try.prog 12 #[.pointer (some ⟨g, 0, none⟩), v] w fun e w' => e = .returned (.tuple #[]) ∧
      ∃ vn' k, vn'.ownBlock = some k ∧ w.heap.size ≤ k ∧ DiskAt w' base g (Dk.crash d keep) vd vn' (.slice none 0 0) ∧ Chg (fun k => k = g ∨ vd.ownBlock = some k) w w' := by
  have hB := h.blk
  obtain ⟨gd, cd, rfl, hgd, hgd', hcd, hcdm⟩ := own_form h.dur (by have := h.ok.many; have := h.ok.same; omega)
  have hw : d.wr = [] := by
    rcases h.wr.2 with ⟨_, h0⟩ | ⟨_, _, _, h0, _⟩
    · exact List.eq_nil_of_length_eq_zero h0
    · cases h0
  have hc2 : w.cell? ⟨g, 2, none⟩ = some (.slice none 0 0) := hB.cell 2
  have e1 : (Dk.crash d keep).dur = d.dur := by simp [Dk.crash, hw, Dk.tornFrom]
  have e2 : (Dk.crash d keep).now = d.dur := by simp [Dk.crash, hw, Dk.tornFrom]
  obtain ⟨i0, hi0, hz0, hz1, hz2⟩ := info_parts (P := Try.prog) (e := 75) (z := .agg (zeros 64).toArray) (size := 64) (bytes := 64) (by kernel_rfl)
  have hown0 := World.ownsRow_made (base := base) (e := 75) (size := 64) w #[] 0 (by have := h.blk.lt; have := h.low; omega) (Nat.zero_le _) rfl
  have hown1 := h.dur.alloc (.cells #[] 75)
  have hlen : (secs d.dur).length = d.dur.length * 64 := length_secs _ h.ok.dur64
  have hnews := hown1.cells (g := gd) rfl
  have hmany := h.ok.many
  have hsame := h.ok.same
  have h63 : 0 + d.dur.length ≤ maxLen := by simp only [maxLen]; omega
  have hby : (0 + d.dur.length) * 64 ≤ 140737488355328 := by omega
  have hba : base ≤ (w.alloc (.cells #[] 75)).heap.size := by have := h.blk.lt; have := h.low; simp; omega
  have hpos : 0 < d.dur.length := by omega
  have hHH : (w.alloc (.cells #[] 75)).heap.size = w.heap.size + 1 := by simp
  have hc0 : (w.alloc (.cells #[] 75)).cell? ⟨g, 0, none⟩ = some (.slice (some ⟨gd, 0, none⟩) d.dur.length cd) := (Blk.alloc hB _).cell 0
  have H := Lib.hid h
  have HB := Lib.hid hB
  have HHH := Lib.hid hHH
  have HLN := Lib.hid hlen
  have HNW := Lib.hid hnews
  have HSM := Lib.hid hsame
  have HE := Lib.hid (And.intro e1 e2)
  have HI0 := Lib.hid (And.intro hi0 (And.intro hz0 (And.intro hz1 hz2)))
  clear hB hHH hlen hnews hsame hi0 hz0 hz1 hz2 h hw e1 e2
  go_enter Try.func12, Try.ntmps12
  go_wp2_with fail
  refine wp_loop_rounds 1 ?_
  rw [rounds_succ]
  go_wp2_with ((with_reducible refine wpList_append_lies (o := ⟨some 49, _, _, _, _, _⟩) _ rfl (.tmp 44) (.tmp 48) 70 rfl base 75 i0 _ 64 64 Try.underlying70 HI0.out.1 HI0.out.2.1 HI0.out.2.2.1 HI0.out.2.2.2 size_zerosS (by omega) (.slice (some ⟨w.heap.size, 0, none⟩) 0 0) 0 [] rfl hown0 ⟨gd, 0, none⟩ d.dur.length cd (secs d.dur) rfl HLN.out HNW.out (one_secs d.dur) hpos h63 hby hba (w.heap.size + 1) HHH.out ?_); intro gn cn w3 hown hgrow hat hlt; have C3 : Chg (fun _ => False) w w3 := ((Chg.refl (fun _ => False) w).alloc (.cells #[] 75)).trans (Chg.of_grownBy (fp := fun i => i = w.heap.size) hgrow (fun k hk => .inl (by cases hk; rfl))) (fun i hi => .inr (by omega)); have hb3 := C3.blk HB.out (fun h => h); have hc1 := hb3.cell 1; have hf1 := hb3.frozen 1; have hc2' := hb3.cell 2; have hf2 := hb3.frozen 2; have hc3 := hb3.cell 3; have hf3 := hb3.frozen 3; have hc4 := hb3.cell 4; have hf4 := hb3.frozen 4; have HB3 := Lib.hid hb3; clear hb3)
  go_end0
  have hbl := (((HB3.out.put 1 (.slice (some ⟨gn, 0, none⟩) d.dur.length cn)).put 2 (.slice none 0 0)).put 3 (.bool false)).put 4 (.bool false)
  have c4 := ((((Chg.refl (· = g) w3).setCell (p := ⟨g, 1, none⟩) (.inl rfl) (.slice (some ⟨gn, 0, none⟩) d.dur.length cn)).setCell (p := ⟨g, 2, none⟩) (.inl rfl) (.slice none 0 0)).setCell (p := ⟨g, 3, none⟩) (.inl rfl) (.bool false)).setCell (p := ⟨g, 4, none⟩) (.inl rfl) (.bool false)
  have hng : gn = w.heap.size ∨ gn = w.heap.size + 1 := by
    rcases hat with h | h
    · left; simpa [Value.ownBlock] using h.symm
    · exact .inr h
  have hgl := H.out.blk.lt
  refine ⟨rfl, .slice (some ⟨gn, 0, none⟩) d.dur.length cn, gn, rfl, by omega, ⟨hbl, H.out.low, ?_, ?_, World.ownsRow_nil _ _ _ _, ?_, Dk.crash_ok H.out.ok keep⟩, ?_⟩
  · rw [HE.out.1]
    exact c4.own (C3.own H.out.dur (fun _ _ h => h)) (fun k hk e => own_ne_blk H.out.dur H.out.blk (by decide) k hk e)
  · rw [HE.out.2]
    have := c4.own hown (fun k hk e => absurd (show gn = k from by simpa [Value.ownBlock] using hk) (by omega))
    simpa using this
  · intro e
    have : gd = gn := by simpa [Value.ownBlock] using e
    omega
  · exact (C3.mono (fp' := fun k => k = g ∨ (Value.slice (some ⟨gd, 0, none⟩) d.dur.length cd).ownBlock = some k) (fun _ _ h => h.elim)).trans c4 (fun i hi => .inl (.inl hi))

theorem crash_any (g base : Nat) (w : World) (d : Dk.D) (vd vn vw : Value) (A : Option Addr) (n c : Nat) (keep : List Int) (h : DiskAt w base g d vd vn vw)
    (hn : n = keep.length) (hk : KeepAt w vd A keep) :
    Calls Try.prog 12 #[.pointer (some ⟨g, 0, none⟩), .slice A n c] w fun e w' => e = .returned (.tuple #[]) ∧
      ∃ vn' k, vn'.ownBlock = some k ∧ w.heap.size ≤ k ∧ DiskAt w' base g (Dk.crash d keep) vd vn' (.slice none 0 0) ∧ Chg (fun k => k = g ∨ vd.ownBlock = some k) w w' := by
  rcases h.wr.2 with ⟨rfl, _⟩ | ⟨gw, cw, _, rfl, _⟩
  · exact crash_none g base w d vd vn _ keep h
  · exact crash_some g base w d vd vn gw cw A n c keep h hn hk

end Go.Proofs.Ytdnjelggdjimhaa
