/-
  The walks of the journal's left and load.
-/
import Derived.Test.YtdnjelggdjimhaaSp4
import Derived.Laws.BitsAllLaws
namespace Go.Proofs.Ytdnjelggdjimhaa
open Go.RowKit

/-- How many bytes of a record are left from a sector on. -/
def lft (x : List UInt8) : Nat := (x.getD 1 0).toNat + 256 * (x.getD 2 0).toNat + 65536 * (x.getD 3 0).toNat

theorem or_mul' (a b i m : Nat) (hm : m = 2 ^ i) (h : a < m) : a ||| (b * m) = a + b * m := by
  subst hm
  rw [Nat.or_comm, ← Nat.shiftLeft_eq, ← Nat.shiftLeft_add_eq_or_of_lt h, Nat.add_comm]
theorem i64_or_nat (a b : Nat) (ha : a < 1099511627776) (hb : b < 1099511627776) : bits .or .i64 (a : Int) (b : Int) = ((a ||| b : Nat) : Int) := by
  have hx : a ||| b < 2 ^ 40 := Nat.or_lt_two_pow (by omega) (by omega)
  show IntKind.i64.wrap ((BitVec.ofInt 64 (a : Int) ||| BitVec.ofInt 64 (b : Int)).toNat : Int) = _
  rw [BitVec.toNat_or, ofInt_u64 a (by omega), ofInt_u64 b (by omega), IntKind.wrap_i64]
  omega
theorem lft_bits (a b c : Nat) (ha : a < 256) (hb : b < 256) (hc : c < 256) :
    bits BinOp.or IntKind.i64 (bits BinOp.or IntKind.i64 (a : Int) ((b : Int) * 256)) ((c : Int) * 65536) = ((a + 256 * b + 65536 * c : Nat) : Int) := by
  have e2 : (b : Int) * 256 = ((b * 256 : Nat) : Int) := by omega
  have e3 : (c : Int) * 65536 = ((c * 65536 : Nat) : Int) := by omega
  rw [e2, e3, i64_or_nat a (b * 256) (by omega) (by omega), or_mul' a b 8 256 (by decide) (by omega), i64_or_nat _ (c * 65536) (by omega) (by omega), or_mul' _ c 16 65536 (by decide) (by omega)]
  omega

set_option maxHeartbeats 1000000 in
theorem left_calls (x : List UInt8) (h : x.length = 64) (w : World) :
    Calls Try.prog 46 #[.agg (bvs x).toArray] w fun e w' => e = .returned (.int .i64 (lft x : Int)) ∧ Chg (fun _ => False) w w' := by
  obtain ⟨X, hX⟩ : ∃ X, X = bvs x := ⟨_, rfl⟩
  have hl : X.length = 64 := by rw [hX, length_bvs]; exact h
  have hB := Blk.fresh w 75 X.toArray
  obtain ⟨a, ha, hal⟩ : ∃ a : Nat, a = (x.getD 1 0).toNat ∧ a < 256 := ⟨_, rfl, UInt8.toNat_lt _⟩
  obtain ⟨b, hb, hbl⟩ : ∃ b : Nat, b = (x.getD 2 0).toNat ∧ b < 256 := ⟨_, rfl, UInt8.toNat_lt _⟩
  obtain ⟨c, hc, hcl⟩ : ∃ c : Nat, c = (x.getD 3 0).toNat ∧ c < 256 := ⟨_, rfl, UInt8.toNat_lt _⟩
  have h1 : (w.alloc (.cells X.toArray 75)).cell? ⟨w.heap.size, 1, none⟩ = some (.int .u8 (a : Int)) := by
    rw [hB.cell, hX, ha]; simp [bvs, bv, h]
  have h2 : (w.alloc (.cells X.toArray 75)).cell? ⟨w.heap.size, 2, none⟩ = some (.int .u8 (b : Int)) := by
    rw [hB.cell, hX, hb]; simp [bvs, bv, h]
  have h3 : (w.alloc (.cells X.toArray 75)).cell? ⟨w.heap.size, 3, none⟩ = some (.int .u8 (c : Int)) := by
    rw [hB.cell, hX, hc]; simp [bvs, bv, h]
  have HL := Lib.hid (show lft x = a + 256 * b + 65536 * c from by unfold lft; rw [ha, hb, hc])
  rw [← hX]
  clear hX hB ha hb hc
  go_enter Try.func46, Try.ntmps46
  go_wp2
  go_ret
  refine ⟨?_, (Chg.refl _ w).alloc _⟩
  show Ending.returned (.int .i64 (bits BinOp.or IntKind.i64 (bits BinOp.or IntKind.i64 (a : Int) ((b : Int) * 256)) ((c : Int) * 65536))) = _
  rw [HL.out, lft_bits a b c hal hbl hcl]

theorem buildS0 (w : World) : (Instr.build 75 #[]).run Try.prog w = .ok (.agg (zeros 64).toArray) w := by kernel_rfl
theorem wpList_buildS0 {ops : Array Oper} {rest : List Oper} {o : Oper} {a : Act} {w : World} {Q : Exit → Act → World → Prop} (hgd : o.guard = none) (ho : o.op = .build 75 #[])
    (h : wpList Try.prog ops Q rest (a.put o.dst (.agg (zeros 64).toArray)) w) : wpList Try.prog ops Q (o :: rest) a w := by
  refine wpList_plain hgd fun K hK => ?_
  unfold Oper.wp execOp
  simp only [ho, List.map_toArray, List.map_nil]
  simp only [buildS0, Sem.run_bind, Result.andThen_ok]
  exact hK _ _ h

theorem zeros_bvs : zeros 64 = bvs Dk.zsec := by simp [zeros, bvs, bv, Dk.zsec]
theorem one_zeros : ∀ v ∈ zeros 64, v.oneCell' = true := by rw [zeros_bvs]; exact one_bvs _
theorem Try.infoZ : (Try.prog.info? 75).map (·.size) = some (zeros 64).length := by rw [Try.infoS]; rfl

/-- What load returns. -/
def Dk.loadOf (d : Dk.D) (at_ : Int) (kind : Nat) : Dk.Sec × Bool :=
  if Dk.readErr d at_ ≠ 0 then (Dk.zsec, false) else (d.now.getD at_.toNat Dk.zsec, (d.now.getD at_.toNat Dk.zsec).getD 0 0 == UInt8.ofNat kind && (d.now.getD at_.toNat Dk.zsec).getD 63 0 == 1)

set_option maxRecDepth 100000 in
theorem results_load (w : World) (b : Nat) (X : List Value) (tmps : Array Value) (v : Value) (hB : Blk w b 75 X.toArray) (hX : X.length = 64) (h6 : tmps.getD 6 undef = .pointer (some ⟨b, 0, none⟩)) (h7 : tmps.getD 7 undef = v) :
    (results Try.f45 tmps).run Try.prog w = .ok (.tuple #[.agg X.toArray, v]) w := by
  have hl : (loadVar 75 ⟨b, 0, none⟩).run Try.prog w = .ok (.agg X.toArray) w := run_loadVar_row _ _ 75 75 X.toArray (0, 0) _ hB Try.underlying75 rfl (by rw [Try.infoS]; simp [hX])
  unfold results
  rw [show Try.f45.results = #[.cell 6 75, .tmp 7] from rfl]
  have ha : (asAddr (tmps.getD 6 undef)).run Try.prog w = .ok ⟨b, 0, none⟩ w := by rw [h6]; rfl
  simp only [List.mapM_toArray, List.mapM_cons, List.mapM_nil, Sem.run_bind, Sem.run_map, Sem.run_pure, Result.andThen, ha, hl, h7, bind_pure_comp, map_bind, bind_assoc]
  rfl

def JBlk (w : World) (b g : Nat) (e r : Int) : Prop := Blk w b 84 #[.pointer (some ⟨g, 0, none⟩), .int .i64 e, .int .i64 r]

set_option maxRecDepth 100000 in
set_option maxHeartbeats 1000000 in
theorem load_calls {base g b : Nat} {w : World} {d : Dk.D} {vd vn vw : Value} {e r : Int} (at_ : Int) (kind : Nat) (hk : kind < 256) (hJ : JBlk w b g e r) (h : DiskAt w base g d vd vn vw) :
    Calls Try.prog 45 #[.pointer (some ⟨b, 0, none⟩), .int .i64 at_, .int .u8 (kind : Int)] w fun e w' => e = .returned (.tuple #[.agg (bvs (Dk.loadOf d at_ kind).1).toArray, .bool (Dk.loadOf d at_ kind).2]) ∧ Chg (fun _ => False) w w' := by
  have hj0 : w.cell? ⟨b, 0, none⟩ = some (.pointer (some ⟨g, 0, none⟩)) := hJ.cell 0
  have hjl := World.block_lt_of_cell? w _ hj0
  have H := Lib.hid h
  clear h hJ
  go_enter Try.func45, Try.ntmps45
  go_wp2_with (first | (with_reducible refine wpList_allocS (o := ⟨some 6, _, _, _, _, _⟩) rfl rfl ?_) | fail)
  refine (read_any g base _ d vd vn vw at_ (H.out.new_ ((Chg.refl _ w).alloc _))).mono ?_
  rintro e1 w2 ⟨hc2, hres⟩
  obtain ⟨Z, hZ⟩ : ∃ Z, Z = zeros 64 := ⟨_, rfl⟩
  have hZl : Z.length = 64 := by rw [hZ]; rfl
  have hZ1 : ∀ v ∈ Z, v.oneCell' = true := by rw [hZ]; exact one_zeros
  have HB6 := hc2.blk (Blk.fresh w 75 (zeros 64).toArray) (fun h => h)
  have hbz : ∀ {ops : Array Oper} {rest : List Oper} {o : Oper} {a : Act} {w : World} {Q : Exit → Act → World → Prop}, o.guard = none → o.op = .build 75 #[] →
    wpList Try.prog ops Q rest (a.put o.dst (.agg Z.toArray)) w → wpList Try.prog ops Q (o :: rest) a w := by rw [hZ]; exact fun h1 h2 h3 => wpList_buildS0 h1 h2 h3
  have HC := Lib.hid (((Chg.refl (fun _ => False) w).alloc _).trans hc2 (fun _ h => h.elim))
  rw [← hZ] at HB6
  have HBZ := Lib.hid hZ
  clear hZ
  have hth := HB6.there_ 0 Z.length (by simp [hZl])
  have hiz : (Try.prog.info? 75).map (·.size) = some Z.length := by rw [Try.infoS, hZl]
  have HTH := Lib.hid (And.intro hth (And.intro hiz hZ1))
  have HB := Lib.hid HB6
  clear hth hiz hZ1 HB6
  rcases hres with ⟨hne, rfl⟩ | ⟨hz, q, rfl, hq, hqb⟩
  · have HNE := Lib.hid hne
    obtain ⟨E, hE⟩ : ∃ E, E = Dk.readErr d at_ := ⟨_, rfl⟩
    rw [← hE] at hne ⊢
    have hne' : (E == 0) = false := by simpa using hne
    clear hc2 hE
    go_wp2_with (first | (with_reducible refine hbz (o := ⟨some 22, _, _, _, _, _⟩) rfl rfl ?_) | ((with_reducible refine wpList_store_at (op := ⟨none, _, _, _, _, _⟩) rfl 75 (.tmp 6) (.tmp 22) rfl w.heap.size 0 Z rfl rfl HTH.out.1 HTH.out.2.1 HTH.out.2.2 ?_); intro w3 hw3))
    refine bodyPost_ret (results_load w3 w.heap.size Z _ (.bool false) (by
      rw [hw3.out]
      have := HB.out.setCells (o := 0) (vs := Z) (by simp)
      rw [show (splice Z.toArray.toList 0 Z) = Z from by simp [splice]] at this
      exact this) hZl rfl rfl) rfl ⟨?_, ?_⟩
    · have e : Dk.loadOf d at_ kind = (Dk.zsec, false) := by unfold Dk.loadOf; rw [if_pos HNE.out]
      rw [e, HBZ.out, zeros_bvs]
    · rw [hw3.out]
      exact HC.out.setCells (.inr (Nat.le_refl _)) 0 Z
  · obtain ⟨x, hx⟩ : ∃ x, x = d.now.getD at_.toNat Dk.zsec := ⟨_, rfl⟩
    have hx64 : x.length = 64 := by rw [hx]; exact Dk.getD_64 H.out.ok.now64 _
    obtain ⟨X, hX⟩ : ∃ X, X = bvs x := ⟨_, rfl⟩
    have hXl : X.length = 64 := by rw [hX, length_bvs]; exact hx64
    have hX1 : ∀ v ∈ X, v.oneCell' = true := by rw [hX]; exact one_bvs _
    rw [← hx, ← hX] at hqb
    have hr : w2.rangeAt q 0 X := hqb.range 0 X (fun j v hv => by simpa using hv)
    have hi : (Try.prog.info? 75).map (·.size) = some X.length := by rw [Try.infoS, hXl]
    obtain ⟨x0, hx0⟩ : ∃ x0 : Nat, x0 = (x.getD 0 0).toNat := ⟨_, rfl⟩
    obtain ⟨x63, hx63⟩ : ∃ x63 : Nat, x63 = (x.getD 63 0).toNat := ⟨_, rfl⟩
    have hth2 : (w2.alloc (.cells (zeros 64).toArray 75)).there w2.heap.size 0 X.length := (Blk.fresh w2 75 _).there_ 0 _ (by simp [zeros, hXl])
    have he : Hid (Dk.loadOf d at_ kind = (x, decide (x0 = kind ∧ x63 = 1))) := Lib.hid (by
      unfold Dk.loadOf
      rw [if_neg (by rw [hz]; decide), ← hx]
      congr 1
      have k1 : (x.getD 0 0 == UInt8.ofNat kind) = decide (x0 = kind) := by
        rw [hx0]
        by_cases h : x.getD 0 0 = UInt8.ofNat kind
        · rw [h]
          simp [UInt8.toNat_ofNat_of_lt' (show kind < UInt8.size by simp [UInt8.size]; omega)]
        · have : ¬ (x.getD 0 0).toNat = kind := fun e => h (by rw [← e]; simp)
          simp only [decide_eq_false this, beq_eq_false_iff_ne]
          exact h
      have k2 : (x.getD 63 0 == 1) = decide (x63 = 1) := by
        rw [hx63]
        by_cases h : x.getD 63 0 = 1
        · rw [h]; rfl
        · have : ¬ (x.getD 63 0).toNat = 1 := fun e => h (UInt8.toNat_inj.1 (by rw [e]; rfl))
          simp only [decide_eq_false this, beq_eq_false_iff_ne]
          exact h
      rw [k1, k2]
      by_cases h1 : x0 = kind <;> by_cases h2 : x63 = 1 <;> simp [h1, h2])
    have harr : (Instr.arrayAt 75 (.slice (some ⟨q, 0, none⟩) 64 64)).run Try.prog w2 = .ok (.pointer (some ⟨q, 0, none⟩)) w2 := by kernel_rfl
    have HXX := Lib.hid (And.intro hX (And.intro hx0 (And.intro hx63 hx64)))
    have HXL := Lib.hid hXl
    have HI := Lib.hid hi
    have HR := Lib.hid hr
    have HT2 := Lib.hid hth2
    clear hX hx0 hx63 hx64 hXl hi hr hth2 hx hqb hq hz
    go_wp2_with (first
      | (with_reducible refine wpList_load_mid (op := ⟨some 25, _, _, _, _, _⟩) rfl _ _ rfl q 0 rfl X _ HR.out Try.underlying75 rfl HI.out ?_)
      | (with_reducible refine wpList_allocS (o := ⟨some 10, _, _, _, _, _⟩) rfl rfl ?_)
      | ((with_reducible refine wpList_store_at (op := ⟨none, _, _, _, _, _⟩) rfl 75 (.tmp 10) (.tmp 25) rfl w2.heap.size 0 X rfl rfl HT2.out HI.out hX1 ?_); intro w3 hw3))
    have C3 : Chg (fun _ => False) w2 w3 := by rw [hw3.out]; exact ((Chg.refl (fun _ => False) w2).alloc _).setCells (.inr (Nat.le_refl _)) _ _
    have HBX : Blk w3 w2.heap.size 75 X.toArray := by
      rw [hw3.out]
      have := (Blk.fresh w2 75 (zeros 64).toArray).setCells (o := 0) (vs := X) (by simp [zeros, HXL.out])
      rw [show (splice (zeros 64).toArray.toList 0 X) = X from by simp only [splice]; rw [List.take_zero, List.nil_append, List.drop_eq_nil_of_le (by simp [zeros, HXL.out]), List.append_nil]] at this
      exact this
    have hr0 : w3.rangeAt w2.heap.size 0 X := HBX.range 0 X (fun j v hv => by simpa using hv)
    have hc0 : w3.cell? ⟨w2.heap.size, 0, none⟩ = some (.int .u8 (x0 : Int)) := by rw [HBX.cell, HXX.out.1, HXX.out.2.1]; simp [bvs, bv, HXX.out.2.2.2]
    have hc63 : w3.cell? ⟨w2.heap.size, 63, none⟩ = some (.int .u8 (x63 : Int)) := by rw [HBX.cell, HXX.out.1, HXX.out.2.2.1]; simp [bvs, bv, HXX.out.2.2.2]
    have hth6 : w3.drew.there w.heap.size 0 X.length := by
      have := (C3.blk HB.out (fun h => h)).there_ 0 X.length (by simp [HXL.out, hZl])
      simpa using this
    by_cases h0 : x0 = kind
    · have hb0 : ((x0 : Int) == (kind : Int)) = true := by simp [h0]
      refine wp_region_R (RL [(0, fun w' => w'.rangeAt w2.heap.size 0 X), (2, fun w' => w'.cell? ⟨w2.heap.size, 0, none⟩ = some (.int .u8 (x0 : Int))), (7, fun w' => w'.cell? ⟨w2.heap.size, 63, none⟩ = some (.int .u8 (x63 : Int)))]) (by kernel_rfl) (RL_cons (by simpa using hr0) (RL_cons hc0 (RL_cons hc63 (RL_nil _)))) (fun hp => ?_)
      refine wpAnyR_take (i := 0) (oi := ⟨some 26, _, _, _, _, _⟩) rfl (by kernel_rfl) (by kernel_rfl) (by kernel_rfl) (fun _ _ _ h => h) hp (yieldsIf_load_mid (by rfl) _ _ rfl w2.heap.size 0 rfl X _ (fun w hR => hR.1 rfl) Try.underlying75 rfl HI.out) (fun hq => ?_)
      clear hp; have hp := hq; clear hq
      try simp only [Act.put, List.setIfInBounds_toArray, List.set_cons_zero, List.set_cons_succ]
      refine wpAnyR_take (i := 1) (oi := ⟨some 27, _, _, _, _, _⟩) (v := ?_) rfl (by kernel_rfl) (by kernel_rfl) (by kernel_rfl) (fun _ _ _ h => h) hp (.inl ⟨by rfl, fun w _ => ?_⟩) (fun hq => ?_)
      rotate_left
      · go_simp
        with_reducible rfl
      clear hp; have hp := hq; clear hq
      try simp only [Act.put, List.setIfInBounds_toArray, List.set_cons_zero, List.set_cons_succ]
      refine wpAnyR_take (i := 2) (oi := ⟨some 28, _, _, _, _, _⟩) (v := ?_) rfl (by kernel_rfl) (by kernel_rfl) (by kernel_rfl) (fun _ _ _ h => h) hp (.inl ⟨by rfl, fun w hR => ?_⟩) (fun hq => ?_)
      rotate_left
      · have hR := hR.2.1 rfl
        (try dsimp only at hR)
        go_simp
        with_reducible rfl
      clear hp; have hp := hq; clear hq
      try simp only [Act.put, List.setIfInBounds_toArray, List.set_cons_zero, List.set_cons_succ]
      refine wpAnyR_take (i := 3) (oi := ⟨some 29, _, _, _, _, _⟩) (v := ?_) rfl (by kernel_rfl) (by kernel_rfl) (by kernel_rfl) (fun _ _ _ h => h) hp (.inl ⟨by rfl, fun w _ => ?_⟩) (fun hq => ?_)
      rotate_left
      · go_simp
        with_reducible rfl
      clear hp; have hp := hq; clear hq
      try simp only [Act.put, List.setIfInBounds_toArray, List.set_cons_zero, List.set_cons_succ]
      refine wpAnyR_take (i := 4) (oi := ⟨some 30, _, _, _, _, _⟩) (v := ?_) rfl (by kernel_rfl) (by kernel_rfl) (by kernel_rfl) (fun _ _ _ h => h) hp (.inl ⟨by rfl, fun w _ => ?_⟩) (fun hq => ?_)
      rotate_left
      · go_simp
        with_reducible rfl
      clear hp; have hp := hq; clear hq
      try simp only [Act.put, List.setIfInBounds_toArray, List.set_cons_zero, List.set_cons_succ]
      refine wpAnyR_take (i := 5) (oi := ⟨some 31, _, _, _, _, _⟩) (v := ?_) rfl (by kernel_rfl) (by kernel_rfl) (by kernel_rfl) (fun _ _ _ h => h) hp (.inl ⟨by rfl, fun w _ => ?_⟩) (fun hq => ?_)
      rotate_left
      · go_simp
        with_reducible rfl
      clear hp; have hp := hq; clear hq
      try simp only [Act.put, List.setIfInBounds_toArray, List.set_cons_zero, List.set_cons_succ]
      refine wpAnyR_take (i := 6) (oi := ⟨some 32, _, _, _, _, _⟩) (v := ?_) rfl (by kernel_rfl) (by kernel_rfl) (by kernel_rfl) (fun _ _ _ h => h) hp (.inl ⟨by rfl, fun w _ => ?_⟩) (fun hq => ?_)
      rotate_left
      · go_simp
        with_reducible rfl
      clear hp; have hp := hq; clear hq
      try simp only [Act.put, List.setIfInBounds_toArray, List.set_cons_zero, List.set_cons_succ]
      refine wpAnyR_take (i := 7) (oi := ⟨some 33, _, _, _, _, _⟩) (v := ?_) rfl (by kernel_rfl) (by kernel_rfl) (by kernel_rfl) (fun _ _ _ h => h) hp (.inl ⟨by rfl, fun w hR => ?_⟩) (fun hq => ?_)
      rotate_left
      · have hR := hR.2.2.1 rfl
        (try dsimp only at hR)
        go_simp
        with_reducible rfl
      clear hp; have hp := hq; clear hq
      try simp only [Act.put, List.setIfInBounds_toArray, List.set_cons_zero, List.set_cons_succ]
      refine wpAnyR_take (i := 8) (oi := ⟨some 34, _, _, _, _, _⟩) (v := ?_) rfl (by kernel_rfl) (by kernel_rfl) (by kernel_rfl) (fun _ _ _ h => h) hp (.inl ⟨by rfl, fun w _ => ?_⟩) (fun hq => ?_)
      rotate_left
      · go_simp
        with_reducible rfl
      clear hp; have hp := hq; clear hq
      try simp only [Act.put, List.setIfInBounds_toArray, List.set_cons_zero, List.set_cons_succ]
      refine wpAnyR_take (i := 9) (oi := ⟨some 35, _, _, _, _, _⟩) (v := ?_) rfl (by kernel_rfl) (by kernel_rfl) (by kernel_rfl) (fun _ _ _ h => h) hp (.inl ⟨by rfl, fun w _ => ?_⟩) (fun hq => ?_)
      rotate_left
      · go_simp
        with_reducible rfl
      clear hp; have hp := hq; clear hq
      try simp only [Act.put, List.setIfInBounds_toArray, List.set_cons_zero, List.set_cons_succ]
      refine wpAnyR_step (i := 10) (o := ⟨none, _, _, _, _, _⟩) (by kernel_rfl) rfl (by rfl) (fun K hK => ?_) -- Op.store 75 (Operand.tmp 6) (Operand.tmp 26)
      refine wp_store_at 75 (.tmp 6) (.tmp 26) (by rfl) w.heap.size 0 X (by rfl) (by rfl) hth6 HI.out hX1 ?_
      intro w4 hw4
      have C4 : Chg (· = w.heap.size) w3 w4 := by rw [hw4.out]; exact (Chg.refl (· = w.heap.size) w3).drew.setCells (.inl rfl) _ _
      have hne : w2.heap.size ≠ w.heap.size := by have := HC.out.size; have := HB.out.lt; omega
      have HBX4 := C4.blk HBX (fun e => hne e)
      have hS0 : w4.rangeAt w2.heap.size 0 X := HBX4.range 0 X (fun j v hv => by simpa using hv)
      have hS2 : w4.cell? ⟨w2.heap.size, 0, none⟩ = some (.int .u8 (x0 : Int)) := (C4.cell HBX.lt (fun e => hne e)).trans hc0
      have hS7 : w4.cell? ⟨w2.heap.size, 63, none⟩ = some (.int .u8 (x63 : Int)) := (C4.cell HBX.lt (fun e => hne e)).trans hc63
      refine hK _ _ (pend_off (by kernel_rfl) (pend_on hS2 (pend_on hS7 pend_nil))) (fun hq => ?_)
      clear hp hK K; have hp := hq; clear hq
      try simp only [Act.put]
      refine wpAnyR_take (i := 11) (oi := ⟨some 7, _, _, _, _, _⟩) (v := ?_) rfl (by kernel_rfl) (by kernel_rfl) (by kernel_rfl) (fun _ _ _ h => h) hp (.inl ⟨by rfl, fun w _ => ?_⟩) (fun hq => ?_)
      rotate_left
      · go_simp
        with_reducible rfl
      clear hp; have hp := hq; clear hq
      try simp only [Act.put, List.setIfInBounds_toArray, List.set_cons_zero, List.set_cons_succ]
      refine wpAnyR_done (by kernel_rfl) ?_ _
      clear hp
      clear hS0 hS2 hS7
      try go_wp2
      refine bodyPost_ret (results_load w4 w.heap.size X _ _ (by
        rw [hw4.out]
        have := (C3.blk HB.out (fun h => h)).drew.setCells (o := 0) (vs := X) (by simp [HXL.out, hZl])
        rw [show (splice Z.toArray.toList 0 X) = X from by simp only [splice]; rw [List.take_zero, List.nil_append, List.drop_eq_nil_of_le (by simp [HXL.out, hZl]), List.append_nil]] at this
        exact this) HXL.out rfl rfl) rfl ⟨?_, ?_⟩
      · rw [he.out, HXX.out.1]
        first | rfl | (simp [h0]; done) | (simp [h0]; by_cases h1 : x63 = 1 <;> simp [h1] <;> omega)
      · exact (HC.out.trans C3 (fun _ h => h.elim)).trans C4 (fun i hi => .inr (Nat.le_of_eq hi.symm))
    · have hb0 : ((x0 : Int) == (kind : Int)) = false := by simp; omega
      refine wp_region_R (RL [(0, fun w' => w'.rangeAt w2.heap.size 0 X), (2, fun w' => w'.cell? ⟨w2.heap.size, 0, none⟩ = some (.int .u8 (x0 : Int)))]) (by kernel_rfl) (RL_cons (by simpa using hr0) (RL_cons hc0 (RL_nil _))) (fun hp => ?_)
      refine wpAnyR_take (i := 0) (oi := ⟨some 26, _, _, _, _, _⟩) rfl (by kernel_rfl) (by kernel_rfl) (by kernel_rfl) (fun _ _ _ h => h) hp (yieldsIf_load_mid (by rfl) _ _ rfl w2.heap.size 0 rfl X _ (fun w hR => hR.1 rfl) Try.underlying75 rfl HI.out) (fun hq => ?_)
      clear hp; have hp := hq; clear hq
      try simp only [Act.put, List.setIfInBounds_toArray, List.set_cons_zero, List.set_cons_succ]
      refine wpAnyR_take (i := 1) (oi := ⟨some 27, _, _, _, _, _⟩) (v := ?_) rfl (by kernel_rfl) (by kernel_rfl) (by kernel_rfl) (fun _ _ _ h => h) hp (.inl ⟨by rfl, fun w _ => ?_⟩) (fun hq => ?_)
      rotate_left
      · go_simp
        with_reducible rfl
      clear hp; have hp := hq; clear hq
      try simp only [Act.put, List.setIfInBounds_toArray, List.set_cons_zero, List.set_cons_succ]
      refine wpAnyR_take (i := 2) (oi := ⟨some 28, _, _, _, _, _⟩) (v := ?_) rfl (by kernel_rfl) (by kernel_rfl) (by kernel_rfl) (fun _ _ _ h => h) hp (.inl ⟨by rfl, fun w hR => ?_⟩) (fun hq => ?_)
      rotate_left
      · have hR := hR.2.1 rfl
        (try dsimp only at hR)
        go_simp
        with_reducible rfl
      clear hp; have hp := hq; clear hq
      try simp only [Act.put, List.setIfInBounds_toArray, List.set_cons_zero, List.set_cons_succ]
      refine wpAnyR_take (i := 3) (oi := ⟨some 29, _, _, _, _, _⟩) (v := ?_) rfl (by kernel_rfl) (by kernel_rfl) (by kernel_rfl) (fun _ _ _ h => h) hp (.inl ⟨by rfl, fun w _ => ?_⟩) (fun hq => ?_)
      rotate_left
      · go_simp
        with_reducible rfl
      clear hp; have hp := hq; clear hq
      try simp only [Act.put, List.setIfInBounds_toArray, List.set_cons_zero, List.set_cons_succ]
      refine wpAnyR_take (i := 4) (oi := ⟨some 30, _, _, _, _, _⟩) (v := ?_) rfl (by kernel_rfl) (by kernel_rfl) (by kernel_rfl) (fun _ _ _ h => h) hp (.inl ⟨by rfl, fun w _ => ?_⟩) (fun hq => ?_)
      rotate_left
      · go_simp
        with_reducible rfl
      clear hp; have hp := hq; clear hq
      try simp only [Act.put, List.setIfInBounds_toArray, List.set_cons_zero, List.set_cons_succ]
      refine wpAnyR_take (i := 5) (oi := ⟨some 31, _, _, _, _, _⟩) (v := ?_) rfl (by kernel_rfl) (by kernel_rfl) (by kernel_rfl) (fun _ _ _ h => h) hp (.inl ⟨by rfl, fun w _ => ?_⟩) (fun hq => ?_)
      rotate_left
      · go_simp
        with_reducible rfl
      clear hp; have hp := hq; clear hq
      try simp only [Act.put, List.setIfInBounds_toArray, List.set_cons_zero, List.set_cons_succ]
      refine wpAnyR_take (i := 6) (oi := ⟨some 32, _, _, _, _, _⟩) (v := undef) rfl (by kernel_rfl) (by kernel_rfl) (by kernel_rfl) (fun _ _ _ h => h) hp (.inr ⟨by rfl, rfl⟩) (fun hq => ?_)
      clear hp; have hp := hq; clear hq
      try simp only [Act.put, List.setIfInBounds_toArray, List.set_cons_zero, List.set_cons_succ]
      refine wpAnyR_take (i := 7) (oi := ⟨some 33, _, _, _, _, _⟩) (v := undef) rfl (by kernel_rfl) (by kernel_rfl) (by kernel_rfl) (fun _ _ _ h => h) hp (.inr ⟨by rfl, rfl⟩) (fun hq => ?_)
      clear hp; have hp := hq; clear hq
      try simp only [Act.put, List.setIfInBounds_toArray, List.set_cons_zero, List.set_cons_succ]
      refine wpAnyR_take (i := 8) (oi := ⟨some 34, _, _, _, _, _⟩) (v := undef) rfl (by kernel_rfl) (by kernel_rfl) (by kernel_rfl) (fun _ _ _ h => h) hp (.inr ⟨by rfl, rfl⟩) (fun hq => ?_)
      clear hp; have hp := hq; clear hq
      try simp only [Act.put, List.setIfInBounds_toArray, List.set_cons_zero, List.set_cons_succ]
      refine wpAnyR_take (i := 9) (oi := ⟨some 35, _, _, _, _, _⟩) (v := ?_) rfl (by kernel_rfl) (by kernel_rfl) (by kernel_rfl) (fun _ _ _ h => h) hp (.inl ⟨by rfl, fun w _ => ?_⟩) (fun hq => ?_)
      rotate_left
      · go_simp
        with_reducible rfl
      clear hp; have hp := hq; clear hq
      try simp only [Act.put, List.setIfInBounds_toArray, List.set_cons_zero, List.set_cons_succ]
      refine wpAnyR_step (i := 10) (o := ⟨none, _, _, _, _, _⟩) (by kernel_rfl) rfl (by rfl) (fun K hK => ?_) -- Op.store 75 (Operand.tmp 6) (Operand.tmp 26)
      refine wp_store_at 75 (.tmp 6) (.tmp 26) (by rfl) w.heap.size 0 X (by rfl) (by rfl) hth6 HI.out hX1 ?_
      intro w4 hw4
      have C4 : Chg (· = w.heap.size) w3 w4 := by rw [hw4.out]; exact (Chg.refl (· = w.heap.size) w3).drew.setCells (.inl rfl) _ _
      have hne : w2.heap.size ≠ w.heap.size := by have := HC.out.size; have := HB.out.lt; omega
      have HBX4 := C4.blk HBX (fun e => hne e)
      have hS0 : w4.rangeAt w2.heap.size 0 X := HBX4.range 0 X (fun j v hv => by simpa using hv)
      have hS2 : w4.cell? ⟨w2.heap.size, 0, none⟩ = some (.int .u8 (x0 : Int)) := (C4.cell HBX.lt (fun e => hne e)).trans hc0
      have hS7 : w4.cell? ⟨w2.heap.size, 63, none⟩ = some (.int .u8 (x63 : Int)) := (C4.cell HBX.lt (fun e => hne e)).trans hc63
      refine hK _ _ (pend_off (by kernel_rfl) (pend_on hS2 pend_nil)) (fun hq => ?_)
      clear hp hK K; have hp := hq; clear hq
      try simp only [Act.put]
      refine wpAnyR_take (i := 11) (oi := ⟨some 7, _, _, _, _, _⟩) (v := ?_) rfl (by kernel_rfl) (by kernel_rfl) (by kernel_rfl) (fun _ _ _ h => h) hp (.inl ⟨by rfl, fun w _ => ?_⟩) (fun hq => ?_)
      rotate_left
      · go_simp
        with_reducible rfl
      clear hp; have hp := hq; clear hq
      try simp only [Act.put, List.setIfInBounds_toArray, List.set_cons_zero, List.set_cons_succ]
      refine wpAnyR_done (by kernel_rfl) ?_ _
      clear hp
      clear hS0 hS2 hS7
      try go_wp2
      refine bodyPost_ret (results_load w4 w.heap.size X _ _ (by
        rw [hw4.out]
        have := (C3.blk HB.out (fun h => h)).drew.setCells (o := 0) (vs := X) (by simp [HXL.out, hZl])
        rw [show (splice Z.toArray.toList 0 X) = X from by simp only [splice]; rw [List.take_zero, List.nil_append, List.drop_eq_nil_of_le (by simp [HXL.out, hZl]), List.append_nil]] at this
        exact this) HXL.out rfl rfl) rfl ⟨?_, ?_⟩
      · rw [he.out, HXX.out.1]
        first | rfl | (simp [h0]; done) | (simp [h0]; by_cases h1 : x63 = 1 <;> simp [h1] <;> omega)
      · exact (HC.out.trans C3 (fun _ h => h.elim)).trans C4 (fun i hi => .inr (Nat.le_of_eq hi.symm))

end Go.Proofs.Ytdnjelggdjimhaa
