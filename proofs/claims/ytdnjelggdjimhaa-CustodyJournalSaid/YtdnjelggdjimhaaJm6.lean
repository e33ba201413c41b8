/-
  CustodyJournal: the walk.
-/
import Derived.Test.YtdnjelggdjimhaaJm5
import Derived.Deep.CutBlock
namespace Go.Proofs.Ytdnjelggdjimhaa
open Go.RowKit

theorem JSt.keep0 {w w' : World} {base g jb m : Nat} {d : Dk.D} {rs : List (List UInt8)} {k : Nat} (h : JSt w base g jb m d rs k) (hc : Chg (fun _ => False) w w') : JSt w' base g jb m d rs k := by
  obtain ⟨⟨part, h1, h2, h3⟩, vr, failed, P, h4⟩ := h
  exact ⟨⟨part, h1, h2, h3.keep hc (fun h => h) (fun _ _ _ _ _ _ h => h)⟩, vr, failed, P, h4.keep hc (fun h => h) (fun _ _ h => h)⟩

/-- Where the law's loop stands. -/
def LSt (w0 w : World) (g jb m size : Nat) : Prop := (∃ d rs k, JSt w w0.heap.size g jb m d rs k ∧ d.now.length = size) ∧ Below w0.heap.size w0 w
theorem LSt.keep0 {w0 w w' : World} {g jb m size : Nat} (h : LSt w0 w g jb m size) (hc : Chg (fun _ => False) w w') : LSt w0 w' g jb m size := by
  obtain ⟨⟨d, rs, k, h1, h2⟩, h3⟩ := h
  exact ⟨⟨d, rs, k, h1.keep0 hc, h2⟩, h3.trans (below_0 h3.size hc)⟩

theorem JBlk_drew {w : World} {jb g : Nat} {e r : Int} (h : JBlk w jb g e r) : JBlk w.drew jb g e r := Blk.drew h
/-- Behind a crash. -/
def CSt (w0 w : World) (g m size : Nat) : Prop := ∃ d rs k q, DOn w w0.heap.size g d ∧ Dk.Clean d (List.take q rs) ∧ d.armed = false ∧ d.now.length = size ∧ k ≤ q ∧ q ≤ rs.length ∧ rs.length ≤ 65536 ∧ (∃ vr failed P, MJat w w0.heap.size m vr rs k failed P) ∧ Below w0.heap.size w0 w
theorem crash_len (d : Dk.D) (keep : List Int) (h : Dk.Ok d) : (Dk.crash d keep).now.length = d.now.length := by
  simp only [Dk.crash, Dk.length_tornFrom, h.same]
theorem LSt.count {w0 w : World} {g jb m size : Nat} (h : LSt w0 w g jb m size) : ∃ (r k : Nat) (A : Option Addr) (c : Nat) (e : Nat), r ≤ 65536 ∧ JBlk w jb g (e : Int) (r : Int) ∧ ∃ failed P, Blk w m 61 #[.slice A r c, .int .i64 (k : Int), .bool failed, .string P] := by
  obtain ⟨⟨d, rs, k, ⟨⟨part, _, _, hJ⟩, vr, failed, P, hM⟩, _⟩, _⟩ := h
  obtain ⟨A, c, rfl, _⟩ := own_texts hM.own rfl
  exact ⟨rs.length, k, A, c, (Dk.encs rs).length, (core_len hJ.core).1, hJ.jb, failed, P, hM.blk⟩

set_option maxRecDepth 1000000 in
set_option maxHeartbeats 8000000 in
theorem journal_law (sectors : Int) (A : Option Addr) (n c : Nat) (ops : List RawJ) (w : World) (h : JScriptAt w A n ops) :
    Calls Try.prog 7 #[.int .i64 sectors, .slice A n c] w fun e w' => e = .returned (.bool true) ∧ Below w.heap.size w w' := by
  have H := Lib.hid h
  have hmost := h.most
  clear h
  go_enter Try.func7, Try.ntmps7
  go_wp2_with fail
  refine (light_calls A n c ops w H.out).mono ?_
  rintro e w1 ⟨b, rfl, hsm, rfl⟩
  have HSM := Lib.hid hsm
  clear hsm
  dsimp only
  cases b
  · go_wp2_with fail
    refine (journals_calls w).mono ?_
    rintro e w1 ⟨rfl, hB⟩
    have HB := Lib.hid hB
    clear hB
    go_wp2
    go_ret
    exact ⟨rfl, HB.out⟩
  go_wp2_with fail
  obtain ⟨size, h1, h2, he⟩ : ∃ size : Nat, 16 ≤ size ∧ size ≤ 2016 ∧ wrap64 (16 + wrap64 ((IntKind.u64.wrap sectors).tmod 2000)) = (size : Int) := by
    have hw : 0 ≤ IntKind.u64.wrap sectors := by simp [IntKind.wrap_u64]; omega
    refine ⟨16 + ((IntKind.u64.wrap sectors).tmod 2000).toNat, ?_, ?_, ?_⟩
    · omega
    · rw [Int.tmod_eq_emod_of_nonneg hw]; omega
    · rw [Int.tmod_eq_emod_of_nonneg hw]; unfold wrap64; omega
  rw [he]
  clear he
  refine (new_yes size _ h1 (by omega)).mono ?_
  rintro e w1 ⟨g, vd, vn, vw, rfl, hD, hB⟩
  have H1 := Lib.hid (And.intro (show DOn w1 w.heap.size g (Dk.new size) from ⟨hB.size, vd, vn, vw, hD⟩) hB)
  clear hD hB
  dsimp only
  go_wp2_with fail
  obtain ⟨m, hm⟩ : ∃ m, m = w1.heap.size := ⟨_, rfl⟩
  obtain ⟨w2, hw2⟩ : ∃ w2, w2 = w1.alloc (.cells #[.slice none 0 0, .int .i64 0, .bool false, .string ⟨#[]⟩] 61) := ⟨_, rfl⟩
  have hM2 : MJat w2 w.heap.size m (.slice none 0 0) [] 0 false ⟨#[]⟩ := by
    rw [hw2, hm]
    exact ⟨Blk.fresh _ _ _, H1.out.1.1, World.ownsRow_nil _ _ _ _⟩
  have hch2 : Chg (fun _ => False) w1 w2 := by rw [hw2]; exact (Chg.refl _ w1).alloc _
  rw [← hm, ← hw2]
  have hD2 := H1.out.1.keep hch2 (fun _ _ _ _ _ _ h => h)
  have hcl := Dk.new_clean size h1 (by omega)
  have H2 := Lib.hid (And.intro hM2 (And.intro hD2 (And.intro hcl (H1.out.2.trans (below_0 H1.out.1.1 hch2)))))
  clear hM2 hch2 hD2 hcl hm hw2
  have hop := opened_calls (rs := []) 0 (open_any H2.out.2.1 H2.out.2.2.1) (fun d' w' h => h.1) H2.out.2.1.1 H2.out.2.1 H2.out.1 (Nat.le_refl 0) (Nat.zero_le _) false (fun _ => rfl) (by simp)
  refine hop.mono ?_
  rintro e w3 ⟨hB3, d3, hl3, hor⟩
  rcases hor with ⟨jb, vr, rfl, hJ3, hd3, ha3, hM3⟩ | ⟨ha, _⟩
  case inr => cases ha
  have H3 := Lib.hid (show LSt w w3 g jb m size from ⟨⟨d3, [], 0, ⟨⟨[], .inl rfl, fun _ => rfl, hJ3⟩, vr, _, _, hM3⟩, by rw [hl3]; simp [Dk.new]⟩, H2.out.2.2.2.trans (below_o H2.out.2.1.1 H2.out.1.low hB3)⟩)
  clear hop hJ3 hd3 ha3 hM3 hB3 hl3
  dsimp only
  go_wp2_with fail
  go_loopg [9, 11] n (fun q s9 s11 wr => ∃ i jb : Nat, s9 = .pointer (some ⟨jb, 0, none⟩) ∧ s11 = .int .i64 (i : Int) ∧ i + q = n ∧ Hid (LSt w wr g jb m size))
  case atStart => exact ⟨0, jb, rfl, by go_num, by omega, H3⟩
  case round =>
    obtain ⟨i, jb, rfl, rfl, hi, hR⟩ := hrel
    by_cases hin : i < n
    case neg =>
      have hd1 : decide ((i : Int) < (n : Int)) = false := by simp; omega
      go_wp2_with fail
      refine (journals_calls wr).mono ?_
      rintro e w4 ⟨rfl, hB⟩
      have HB := Lib.hid (hR.out.2.trans (hB.mono hR.out.2.size))
      clear hB
      dsimp only
      go_wp2
      go_ret
      exact ⟨rfl, HB.out⟩
    have hd1 : decide ((i : Int) < (n : Int)) = true := by simp; omega
    obtain ⟨o, ho⟩ : ∃ o, ops[i]? = some o := ⟨_, List.getElem?_eq_getElem (by have := H.out.len; omega)⟩
    obtain ⟨ad, rfl, hc⟩ := H.out.at_.resolve_left (fun e => by rw [e] at ho; cases ho)
    have hok := H.out.ok o (List.mem_of_getElem? ho)
    have hsl := HSM.out (by first | trivial | rfl) o (List.mem_of_getElem? ho)
    obtain ⟨kd, s, on, oA, oa, oc, keep⟩ := o
    have hblk : ∀ j, j < 4 → ((ad.add (i * 4)).add j).block < w.heap.size := fun j hj => by
      obtain ⟨v, hv⟩ : ∃ v, (RawJ.cells ⟨kd, s, on, oA, oa, oc, keep⟩)[j]? = some v := ⟨_, List.getElem?_eq_getElem (by simpa [RawJ.cells] using hj)⟩
      exact World.block_lt_of_cell? _ _ (hc i _ ho j v hv)
    have hth : ∀ j v, (RawJ.cells ⟨kd, s, on, oA, oa, oc, keep⟩)[j]? = some v → wr.cell? ((ad.add (i * 4)).add j) = some v := fun j v hv => by
      have hj : j < 4 := by simpa [RawJ.cells] using (List.getElem?_eq_some_iff.1 hv).1
      rw [hR.out.2.cell (hblk j hj)]
      exact hc i _ ho j v hv
    obtain ⟨S, hS⟩ : ∃ S, S = bs s := ⟨_, rfl⟩
    have h0 : wr.cell? (ad.add (i * 4)) = some (.int .u8 (kd : Int)) := hth 0 _ rfl
    have h1 : wr.cell? ⟨(ad.add (i * 4)).block, (ad.add (i * 4)).off + 1, none⟩ = some (.string S) := by rw [hS]; exact hth 1 _ rfl
    have h2 : wr.cell? ⟨(ad.add (i * 4)).block, (ad.add (i * 4)).off + 2, none⟩ = some (.int .i64 on) := hth 2 _ rfl
    have h3 : wr.cell? ⟨(ad.add (i * 4)).block, (ad.add (i * 4)).off + 3, none⟩ = some (.slice oA oa oc) := hth 3 _ rfl
    have HO := Lib.hid (And.intro hok (And.intro hsl hS))
    clear hok hsl hS hth hblk hc ho
    go_upto_block 2 with fail
    obtain ⟨ox, hox⟩ : ∃ ox, ox = wr.heap.size := ⟨_, rfl⟩
    obtain ⟨wX, hwX⟩ : ∃ wX, wX = wr.alloc (.cells #[.int .u8 (kd : Int), .string S, .int .i64 on, .slice oA oa oc] 65) := ⟨_, rfl⟩
    have hXb : Blk wX ox 65 #[.int .u8 (kd : Int), .string S, .int .i64 on, .slice oA oa oc] := by rw [hwX, hox]; exact Blk.fresh _ _ _
    have hXL : LSt w wX g jb m size := by rw [hwX]; exact hR.out.keep0 ((Chg.refl _ wr).alloc _)
    rw [← hox, ← hwX]
    have HX := Lib.hid (And.intro hXb hXL)
    have hx1 : wX.cell? ⟨ox, 1, none⟩ = some (.string S) := hXb.cell 1
    have hx2 : wX.cell? ⟨ox, 2, none⟩ = some (.int .i64 on) := hXb.cell 2
    have hx3 : wX.cell? ⟨ox, 3, none⟩ = some (.slice oA oa oc) := hXb.cell 3
    clear hXb hXL h0 h1 h2 h3 hox hwX hR
    go_cut [9, 62] (fun s9 s62 wx => ∃ jb' : Nat, s9 = .pointer (some ⟨jb', 0, none⟩) ∧ Hid (LSt w wx g jb' m size))
    case first =>
      have hsz2 := Lib.hid (show ((size : Int) / 2) = ((size / 2 : Nat) : Int) from by omega)
      obtain hk | hk | hk | hk | hk : (kd : Int) % 5 = 0 ∨ (kd : Int) % 5 = 1 ∨ (kd : Int) % 5 = 2 ∨ (kd : Int) % 5 = 3 ∨ (kd : Int) % 5 = 4 := by omega
      · rw [hk]
        clear hk
        go_wp2_with fail
        obtain ⟨⟨d, rs, k, hJS, hdl⟩, hBX⟩ := HX.out.2
        have hJD := hJS.keep0 (Chg.drew (Chg.refl _ wX))
        obtain ⟨⟨part, _, _, hJ⟩, vr, failed, P, hM⟩ := hJD
        obtain ⟨hl1, hl2⟩ := core_len hJ.core
        have HC := Lib.hid (cost_calls hM hJ.core.short (by omega))
        have hap := append2_calls s (hJS.keep0 (Chg.drew (Chg.refl _ wX))) (size / 2) (by rw [hdl]) HO.out.2.1
        have hS' : bs s = S := HO.out.2.2.symm
        rw [hS', ← hsz2.out] at hap
        have HAP := Lib.hid hap
        have hw2 : IntKind.i64.wrap ((size : Int) / 2) = (size : Int) / 2 := wrap_small _ (by omega) (by omega)
        have HDB := Lib.hid (And.intro hdl hBX)
        clear hap hS' hJS hJ hM hl1 hl2 hdl hBX
        refine wp_region_R (RL [(4, fun w' => w'.cell? ⟨ox, 1, none⟩ = some (.string S))]) (by kernel_rfl) (RL_cons hx1 (RL_nil _)) (fun hp => ?_)
        refine wpAnyR_take (i := 0) (oi := ⟨some 79, _, _, _, _, _⟩) (v := ?_) rfl (by kernel_rfl) (by kernel_rfl) (by kernel_rfl) (fun _ _ _ h => h) hp (.inl ⟨by rfl, fun w _ => ?_⟩) (fun hq => ?_)
        rotate_left
        · go_simp
          with_reducible rfl
        clear hp; have hp := hq; clear hq
        try simp only [Act.put, List.setIfInBounds_toArray, List.set_cons_zero, List.set_cons_succ]
        refine wpAnyR_take (i := 1) (oi := ⟨some 80, _, _, _, _, _⟩) (v := ?_) rfl (by kernel_rfl) (by kernel_rfl) (by kernel_rfl) (fun _ _ _ h => h) hp (.inl ⟨by rfl, fun w _ => ?_⟩) (fun hq => ?_)
        rotate_left
        · go_simp
          with_reducible rfl
        clear hp; have hp := hq; clear hq
        try simp only [Act.put, List.setIfInBounds_toArray, List.set_cons_zero, List.set_cons_succ]
        refine wpAnyR_take (i := 2) (oi := ⟨some 81, _, _, _, _, _⟩) (v := ?_) rfl (by kernel_rfl) (by kernel_rfl) (by kernel_rfl) (fun _ _ _ h => h) hp (.inl ⟨by rfl, fun w _ => ?_⟩) (fun hq => ?_)
        rotate_left
        · go_simp
          with_reducible rfl
        clear hp; have hp := hq; clear hq
        try simp only [Act.put, List.setIfInBounds_toArray, List.set_cons_zero, List.set_cons_succ]
        refine wpAnyR_take (i := 3) (oi := ⟨some 82, _, _, _, _, _⟩) (v := ?_) rfl (by kernel_rfl) (by kernel_rfl) (by kernel_rfl) (fun _ _ _ h => h) hp (.inl ⟨by rfl, fun w _ => ?_⟩) (fun hq => ?_)
        rotate_left
        · go_simp
          with_reducible rfl
        clear hp; have hp := hq; clear hq
        try simp only [Act.put, List.setIfInBounds_toArray, List.set_cons_zero, List.set_cons_succ]
        refine wpAnyR_take (i := 4) (oi := ⟨some 83, _, _, _, _, _⟩) (v := ?_) rfl (by kernel_rfl) (by kernel_rfl) (by kernel_rfl) (fun _ _ _ h => h) hp (.inl ⟨by rfl, fun w hR => ?_⟩) (fun hq => ?_)
        rotate_left
        · have hR := hR.1 rfl
          (try dsimp only at hR)
          go_simp
          with_reducible rfl
        clear hp; have hp := hq; clear hq
        try simp only [Act.put, List.setIfInBounds_toArray, List.set_cons_zero, List.set_cons_succ]
        refine wpAnyR_take (i := 5) (oi := ⟨some 84, _, _, _, _, _⟩) (v := ?_) rfl (by kernel_rfl) (by kernel_rfl) (by kernel_rfl) (fun _ _ _ h => h) hp (.inl ⟨by rfl, fun w _ => ?_⟩) (fun hq => ?_)
        rotate_left
        · go_simp
          with_reducible rfl
        clear hp; have hp := hq; clear hq
        try simp only [Act.put, List.setIfInBounds_toArray, List.set_cons_zero, List.set_cons_succ]
        refine wpAnyR_take (i := 7) (oi := ⟨some 86, _, _, _, _, _⟩) (v := ?_) rfl (by kernel_rfl) (by kernel_rfl) (by kernel_rfl) (fun _ _ _ h => h) hp (.inl ⟨by rfl, fun w _ => ?_⟩) (fun hq => ?_)
        rotate_left
        · go_simp
          with_reducible rfl
        clear hp; have hp := hq; clear hq
        try simp only [Act.put, List.setIfInBounds_toArray, List.set_cons_zero, List.set_cons_succ]
        refine wpAnyR_take (i := 8) (oi := ⟨some 87, _, _, _, _, _⟩) (v := ?_) rfl (by kernel_rfl) (by kernel_rfl) (by kernel_rfl) (fun _ _ _ h => h) hp (.inl ⟨by rfl, fun w _ => ?_⟩) (fun hq => ?_)
        rotate_left
        · go_simp
          with_reducible rfl
        clear hp; have hp := hq; clear hq
        try simp only [Act.put, List.setIfInBounds_toArray, List.set_cons_zero, List.set_cons_succ]
        refine wpAnyR_step (i := 6) (o := ⟨some 85, _, _, _, _, _⟩) (by kernel_rfl) rfl (by rfl) (fun K hK => ?_) -- Op.call { callee := Callee.value (Operand.func 27), args := #[Operand.tmp 84], argTypes := #[59] }
        go_simp
        refine HC.out.mono ?_
        rintro e1 w4 ⟨rfl, rfl⟩
        show K _ _
        have hS4 : wX.drew.cell? ⟨ox, 1, none⟩ = some (.string S) := hx1
        refine hK _ _ (pend_on hS4 pend_nil) (fun hq => ?_)
        clear hp hK K; have hp := hq; clear hq
        try simp only [Act.put, List.setIfInBounds_toArray, List.set_cons_zero, List.set_cons_succ]
        refine wpAnyR_step (i := 9) (o := ⟨some 88, _, _, _, _, _⟩) (by kernel_rfl) rfl (by rfl) (fun K hK => ?_) -- Op.call { callee := Callee.value (Operand.func 26), args := #[Operand.tmp 79, Operand.tmp 80, Operand.tmp 81, 
        go_simp
        refine HAP.out.mono ?_
        rintro e1 w4 ⟨rfl, hB4, d4, rs4, hJ4, hd4⟩
        show K _ _
        have H4 := Lib.hid (show LSt w w4 g jb m size from ⟨⟨d4, rs4, k, hJ4, hd4.trans HDB.out.1⟩, (HDB.out.2.drew).trans hB4⟩)
        clear hB4 hJ4 hd4
        refine hK _ _ (pend_off (by kernel_rfl) pend_nil) (fun hq => ?_)
        clear hp hK K; have hp := hq; clear hq
        try simp only [Act.put, List.setIfInBounds_toArray, List.set_cons_zero, List.set_cons_succ]
        refine wpAnyR_take (i := 10) (oi := ⟨some 89, _, _, _, _, _⟩) (v := ?_) rfl (by kernel_rfl) (by kernel_rfl) (by kernel_rfl) (fun _ _ _ h => h) hp (.inl ⟨by rfl, fun w _ => ?_⟩) (fun hq => ?_)
        rotate_left
        · go_simp
          with_reducible rfl
        clear hp; have hp := hq; clear hq
        try simp only [Act.put, List.setIfInBounds_toArray, List.set_cons_zero, List.set_cons_succ]
        refine wpAnyR_done (by kernel_rfl) ?_ _
        clear hp
        go_wp2
        go_meet
        exact ⟨jb, rfl, H4⟩
      · rw [hk]
        clear hk
        obtain ⟨⟨d, rs, k, ⟨⟨part, hp, hpd, hJ⟩, vr, failed, P, hM⟩, hdl⟩, hBX⟩ := HX.out.2
        have HJ := Lib.hid (And.intro hp (And.intro hpd (And.intro hJ (And.intro hM (And.intro hdl hBX)))))
        clear hp hpd hJ hM hdl hBX
        go_wp2_with fail
        cases hdn : d.down
        · obtain rfl := HJ.out.2.1 hdn
          refine (sync_up HJ.out.2.2.1 hdn).mono ?_
          rintro e w4 ⟨d4, hc4, hl4, hor⟩
          have hM4 := HJ.out.2.2.2.1.keepJ HJ.out.2.2.1.jb hc4
          have hB4 := HJ.out.2.2.2.2.2.trans (chg_below HJ.out.2.2.1.disk.1 HJ.out.2.2.1.low hc4)
          rcases hor with ⟨rfl, hJ4, hd4, ha4⟩ | ⟨ha, rfl, hd4, hJ4⟩
          · obtain ⟨rA, rc, rfl, _⟩ := own_texts hM4.own rfl
            have hy0 : w4.cell? ⟨m, 0, none⟩ = some (.slice rA rs.length rc) := hM4.blk.cell 0
            have hy1 : w4.cell? ⟨m, 1, none⟩ = some (.int .i64 (k : Int)) := hM4.blk.cell 1
            have hf1 := hM4.blk.frozen 1
            obtain ⟨r, hr⟩ : ∃ r, r = rs.length := ⟨_, rfl⟩
            have H4 := Lib.hid (And.intro hJ4 (And.intro hM4 (And.intro hB4 (And.intro hd4 (And.intro (hl4.trans HJ.out.2.2.2.2.1) hr)))))
            rw [← hr] at hy0
            clear hJ4 hM4 hB4 hd4 ha4 hl4 hc4 hr hdn
            dsimp only
            go_wp2
            go_meet
            have hch := (Chg.refl (· = m) w4).setCell (p := ⟨m, 1, none⟩) (.inl rfl) (.int .i64 (r : Int))
            have hbp := H4.out.2.1.blk.put 1 (.int .i64 (r : Int))
            have hr := H4.out.2.2.2.2.2
            refine ⟨jb, rfl, Lib.hid ⟨⟨d4, rs, rs.length, ⟨⟨[], .inl rfl, fun _ => rfl, H4.out.1.keepM H4.out.2.1 (chg_m hch)⟩, .slice rA rs.length rc, failed, P, ?_⟩, H4.out.2.2.2.2.1⟩, H4.out.2.2.1.trans (below_m H4.out.1.disk.1 H4.out.2.1 (chg_m hch))⟩⟩
            refine ⟨?_, H4.out.2.1.low, hch.own H4.out.2.1.own (fun k hk e => svs_ne_blk H4.out.2.1.own H4.out.2.1.blk (by decide) k hk e)⟩
            rw [hr] at hbp
            rw [hr]
            exact hbp
          · obtain ⟨_, vd4, vn4, vw4, hD4⟩ := hJ4.disk
            have hg3 : w4.cell? ⟨g, 3, none⟩ = some (.bool true) := by rw [← hd4]; exact hD4.blk.cell 3
            have H4 := Lib.hid (show LSt w w4 g jb m size from ⟨⟨d4, rs, k, ⟨⟨[], .inl rfl, fun _ => rfl, hJ4⟩, vr, failed, P, hM4⟩, hl4.trans HJ.out.2.2.2.2.1⟩, hB4⟩)
            clear hJ4 hM4 hB4 hd4 hl4 hc4 ha hD4 hdn
            dsimp only
            go_wp2_with fail
            refine (down_calls g _ _ hg3).mono ?_
            rintro e w5 ⟨rfl, rfl⟩
            dsimp only
            go_wp2
            go_meet
            exact ⟨jb, rfl, H4⟩
        · refine (sync_down HJ.out.2.2.1 hdn).mono ?_
          rintro e w4 ⟨rfl, hJ4, hc4⟩
          have hM4 := HJ.out.2.2.2.1.keepJ HJ.out.2.2.1.jb hc4
          have hB4 := HJ.out.2.2.2.2.2.trans (chg_below HJ.out.2.2.1.disk.1 HJ.out.2.2.1.low hc4)
          obtain ⟨_, vd4, vn4, vw4, hD4⟩ := hJ4.disk
          have hg3 : w4.cell? ⟨g, 3, none⟩ = some (.bool true) := by rw [← hdn]; exact hD4.blk.cell 3
          have H4 := Lib.hid (show LSt w w4 g jb m size from ⟨⟨d, rs, k, ⟨⟨part, HJ.out.1, HJ.out.2.1, hJ4⟩, vr, failed, P, hM4⟩, HJ.out.2.2.2.2.1⟩, hB4⟩)
          clear hJ4 hM4 hB4 hc4 hD4 hdn
          dsimp only
          go_wp2_with fail
          refine (down_calls g _ _ hg3).mono ?_
          rintro e w5 ⟨rfl, rfl⟩
          dsimp only
          go_wp2
          go_meet
          exact ⟨jb, rfl, H4⟩
      · rw [hk]
        clear hk
        obtain ⟨⟨d, rs, k, ⟨⟨part, hp, hpd, hJ⟩, vr, failed, P, hM⟩, hdl⟩, hBX⟩ := HX.out.2
        have HJ := Lib.hid (And.intro hp (And.intro hpd (And.intro hJ (And.intro hM (And.intro hdl hBX)))))
        clear hp hpd hJ hM hdl hBX
        go_wp2_with fail
        refine (stop_on HJ.out.2.2.1 on HO.out.1.n.2).mono ?_
        rintro e w4 ⟨rfl, hJ4, hd4, hc4⟩
        have H4 := Lib.hid (show LSt w w4 g jb m size from ⟨⟨Dk.stop d on, rs, k, ⟨⟨part, HJ.out.1, fun h => HJ.out.2.1 (by rw [← hd4]; exact h), hJ4⟩, vr, failed, P, HJ.out.2.2.2.1.keepD hc4⟩, by rw [stop_len]; exact HJ.out.2.2.2.2.1⟩, HJ.out.2.2.2.2.2.trans (chg_below' HJ.out.2.2.1.disk.1 hc4)⟩)
        clear hJ4 hd4 hc4
        dsimp only
        go_wp2
        go_meet
        exact ⟨jb, rfl, H4⟩
      · rw [hk]
        clear hk
        obtain ⟨⟨d, rs, k, ⟨⟨part, hp, hpd, hJ⟩, vr, failed, P, hM⟩, hdl⟩, hBX⟩ := HX.out.2
        have HJ := Lib.hid (And.intro hp (And.intro hpd (And.intro hJ (And.intro hM (And.intro hdl hBX)))))
        clear hp hpd hJ hM hdl hBX
        have HKP := Lib.hid HO.out.1.keep
        go_wp2_with fail
        refine (crash_on oA oa oc keep HJ.out.2.2.1.disk HKP.out.1 (fun v hv => KeepAt_of HKP.out HJ.out.2.2.2.2.2 v hv)).mono ?_
        rintro e w4 ⟨rfl, hD4, hc4⟩
        obtain ⟨q, hq1, hq2, hcl⟩ := Dk.Core.crash HJ.out.2.2.1.core HJ.out.1 keep
        have hO4 := hc4.blk HX.out.1 (fun ⟨_, _, _, hD, hf⟩ => fpD_ne_blk hD HX.out.1 (by decide) (by decide) (by decide) ox hf rfl)
        have hM4 := HJ.out.2.2.2.1.keepD hc4
        have hB4 := HJ.out.2.2.2.2.2.trans (chg_below' HJ.out.2.2.1.disk.1 hc4)
        have hl4 := crash_len d keep HJ.out.2.2.1.core.ok
        have hz2 : w4.cell? ⟨ox, 2, none⟩ = some (.int .i64 on) := hO4.cell 2
        have hz3 : w4.cell? ⟨ox, 3, none⟩ = some (.slice oA oa oc) := hO4.cell 3
        have H4 := Lib.hid (And.intro hD4 (And.intro hcl (And.intro hM4 (And.intro hB4 (And.intro (hl4.trans HJ.out.2.2.2.2.1) (And.intro hO4 (And.intro hq1 (And.intro hq2 (core_len HJ.out.2.2.1.core).1))))))))
        clear hD4 hcl hM4 hB4 hl4 hO4 hq1 hq2 hc4
        dsimp only
        go_upto_if 129 with fail
        go_cut [9] (fun s9 wx => Hid (CSt w wx g m size))
        case first =>
          by_cases hN : 0 < on
          case neg =>
            have hd2 : decide ((0 : Int) < on) = false := by simpa using hN
            go_wp2
            go_meet
            exact Lib.hid ⟨Dk.crash d keep, rs, k, q, H4.out.1, H4.out.2.1, rfl, H4.out.2.2.2.2.1, H4.out.2.2.2.2.2.2.1, H4.out.2.2.2.2.2.2.2.1, H4.out.2.2.2.2.2.2.2.2, ⟨vr, failed, P, H4.out.2.2.1⟩, H4.out.2.2.2.1⟩
          have hd2 : decide ((0 : Int) < on) = true := by simpa using hN
          have hon : on ≤ 9223372036854775807 := HO.out.1.n.2
          have hwr : wrap64 (on - 1) = on - 1 := by unfold wrap64; omega
          go_wp2_with fail
          try rw [hwr]
          refine (stop_clean H4.out.1 H4.out.2.1 _ (by omega)).mono ?_
          rintro e w5 ⟨rfl, hD5, hcl5, hc5⟩
          have hO5 := hc5.blk H4.out.2.2.2.2.2.1 (fun ⟨_, _, _, hD, hf⟩ => fpD_ne_blk hD H4.out.2.2.2.2.2.1 (by decide) (by decide) (by decide) ox hf rfl)
          have hM5 := H4.out.2.2.1.keepD hc5
          have hB5 := H4.out.2.2.2.1.trans (chg_below' H4.out.1.1 hc5)
          have hl5 := stop_len (Dk.crash d keep) (on - 1)
          have H5 := Lib.hid (And.intro hD5 (And.intro hcl5 (And.intro hM5 (And.intro hB5 (And.intro (hl5.trans H4.out.2.2.2.2.1) hO5)))))
          clear hD5 hcl5 hM5 hB5 hl5 hO5 hc5
          dsimp only
          go_wp2_with fail
          refine (opened_calls q (open_any H5.out.1 H5.out.2.1) (fun d' w' h => h.1) H5.out.1.1 H5.out.1 H5.out.2.2.1 H4.out.2.2.2.2.2.2.1 H4.out.2.2.2.2.2.2.2.1 true (fun h => by cases h) (by have := H4.out.2.2.2.2.2.2.2.2; omega)).mono ?_
          rintro e w6 ⟨hc6, d6, hl6, hor⟩
          have hB6 := H5.out.2.2.2.1.trans (below_o H5.out.1.1 H5.out.2.2.1.low hc6)
          have hO6 := hc6.blk H5.out.2.2.2.2.2 (by
            rintro (⟨_, _, _, hD, hf⟩ | e)
            · exact fpD_ne_blk hD H5.out.2.2.2.2.2 (by decide) (by decide) (by decide) ox hf rfl
            · exact Blk.apart H5.out.2.2.2.2.2 H5.out.2.2.1.blk (by decide) e)
          have hz3 : w6.cell? ⟨ox, 3, none⟩ = some (.slice oA oa oc) := hO6.cell 3
          rcases hor with ⟨jb6, vr6, rfl, hJ6, hd6, ha6, hM6⟩ | ⟨ha, rfl, hd6, ⟨hD6, hcl6⟩, hM6⟩
          · have H6 := Lib.hid (And.intro hJ6 (And.intro hM6 (And.intro hB6 (hl6.trans H5.out.2.2.2.2.1))))
            clear hJ6 hM6 hB6 hl6 hO6 hc6 hd6 ha6
            dsimp only
            go_wp2_with fail
            refine (crash_on oA oa oc keep H6.out.1.disk HKP.out.1 (fun v hv => KeepAt_of HKP.out H6.out.2.2.1 v hv)).mono ?_
            rintro e w7 ⟨rfl, hD7, hc7⟩
            obtain ⟨q7, hq71, hq72, hcl7⟩ := Dk.Core.crash H6.out.1.core (.inl rfl) keep
            have H7 := Lib.hid (show CSt w w7 g m size from ⟨Dk.crash d6 keep, rs.take q, q, q7, hD7, hcl7, rfl, (crash_len d6 keep H6.out.1.core.ok).trans H6.out.2.2.2, hq71, hq72, (core_len H6.out.1.core).1, ⟨vr6, _, _, H6.out.2.1.keepD hc7⟩, H6.out.2.2.1.trans (chg_below' H6.out.1.disk.1 hc7)⟩)
            clear hD7 hc7 hq71 hq72 hcl7
            dsimp only
            go_wp2
            go_meet
            exact H7
          · have H6 := Lib.hid (And.intro hD6 (And.intro hcl6 (And.intro hM6 (And.intro hB6 (hl6.trans H5.out.2.2.2.2.1)))))
            clear hD6 hM6 hB6 hl6 hO6 hc6 hd6 hcl6 ha
            dsimp only
            go_wp2_with fail
            refine (crash_on oA oa oc keep H6.out.1 HKP.out.1 (fun v hv => KeepAt_of HKP.out H6.out.2.2.2.1 v hv)).mono ?_
            rintro e w7 ⟨rfl, hD7, hc7⟩
            obtain ⟨_, _, _, _, hDD⟩ := H6.out.1
            have H7 := Lib.hid (show CSt w w7 g m size from ⟨Dk.crash d6 keep, rs, k, q, hD7, H6.out.2.1 keep, rfl, (crash_len d6 keep hDD.ok).trans H6.out.2.2.2.2, H4.out.2.2.2.2.2.2.1, H4.out.2.2.2.2.2.2.2.1, H4.out.2.2.2.2.2.2.2.2, ⟨vr, _, _, H6.out.2.2.1.keepD hc7⟩, H6.out.2.2.2.1.trans (chg_below' H6.out.1.1 hc7)⟩)
            clear hD7 hc7 hDD
            dsimp only
            go_wp2
            go_meet
            exact H7
        case rest =>
          obtain ⟨d5, rs5, k5, q5, hD5, hcl5, ha5, hl5, hk5, hq5, hr5, ⟨vr5, failed5, P5, hM5⟩, hB5⟩ := hcut.out
          have H5 := Lib.hid (And.intro hD5 (And.intro hM5 (And.intro hB5 (And.intro hl5 ha5))))
          have HOP := Lib.hid (opened_calls q5 (open_any hD5 hcl5) (fun d' w' h => h.1) hD5.1 hD5 hM5 hk5 hq5 true (fun h => by cases h) (by omega))
          clear hD5 hcl5 ha5 hl5 hk5 hq5 hr5 hM5 hB5 hcut
          go_wp2_with fail
          refine HOP.out.mono ?_
          rintro e w6 ⟨hc6, d6, hl6, hor⟩
          rcases hor with ⟨jb6, vr6, rfl, hJ6, hd6, ha6, hM6⟩ | ⟨ha, _⟩
          case inr => rw [H5.out.2.2.2.2] at ha; cases ha
          have H6 := Lib.hid (show LSt w w6 g jb6 m size from ⟨⟨d6, rs5.take q5, q5, ⟨⟨[], .inl rfl, fun _ => rfl, hJ6⟩, vr6, _, _, hM6⟩, hl6.trans H5.out.2.2.2.1⟩, H5.out.2.2.1.trans (below_o H5.out.1.1 H5.out.2.1.low hc6)⟩)
          clear hJ6 hM6 hl6 hc6 hd6 ha6
          dsimp only
          go_wp2
          go_meet
          exact ⟨jb6, rfl, H6⟩
      · rw [hk]
        clear hk
        obtain ⟨⟨d, rs, k, ⟨⟨part, hp, hpd, hJ⟩, vr, failed, P, hM⟩, hdl⟩, hBX⟩ := HX.out.2
        have HJ := Lib.hid (And.intro hp (And.intro hpd (And.intro hJ (And.intro hM (And.intro hdl hBX)))))
        obtain ⟨_, vdX, vnX, vwX, hDX⟩ := hJ.disk
        have hg3 : wX.cell? ⟨g, 3, none⟩ = some (.bool d.down) := hDX.blk.cell 3
        clear hp hpd hJ hM hdl hBX hDX
        go_wp2_with fail
        refine (down_calls g _ _ hg3).mono ?_
        rintro e w4 ⟨rfl, rfl⟩
        cases hdn : d.down
        · obtain rfl := HJ.out.2.1 hdn
          have hop := opened_calls (F := fun d' w' => JOn w' w.heap.size g jb d' rs k []) rs.length (by rw [List.take_length]; exact open_live HJ.out.2.2.1 hdn) (fun d' w' h => h.disk) HJ.out.2.2.1.disk.1 HJ.out.2.2.1.disk HJ.out.2.2.2.1 HJ.out.2.2.1.core.k_le (Nat.le_refl _) false (fun _ => rfl) (by have := (core_len HJ.out.2.2.1.core).1; omega)
          rw [List.take_length] at hop
          have HOP := Lib.hid hop
          clear hop hdn
          dsimp only
          go_wp2_with fail
          refine HOP.out.mono ?_
          rintro e w6 ⟨hc6, d6, hl6, hor⟩
          have hB6 := HJ.out.2.2.2.2.2.trans (below_o HJ.out.2.2.1.disk.1 HJ.out.2.2.2.1.low hc6)
          rcases hor with ⟨jb6, vr6, rfl, hJ6, hd6, ha6, hM6⟩ | ⟨ha, rfl, hd6, hJ6, hM6⟩
          · have H6 := Lib.hid (show LSt w w6 g jb6 m size from ⟨⟨d6, rs, rs.length, ⟨⟨[], .inl rfl, fun _ => rfl, hJ6⟩, vr6, _, _, hM6⟩, hl6.trans HJ.out.2.2.2.2.1⟩, hB6⟩)
            clear hJ6 hM6 hl6 hc6 hd6 ha6 hB6
            dsimp only
            go_wp2
            go_meet
            exact ⟨jb6, rfl, H6⟩
          · have H6 := Lib.hid (show LSt w w6 g jb m size from ⟨⟨d6, rs, k, ⟨⟨[], .inl rfl, fun _ => rfl, hJ6⟩, vr, _, _, hM6⟩, hl6.trans HJ.out.2.2.2.2.1⟩, hB6⟩)
            clear hJ6 hM6 hl6 hc6 hd6 ha hB6
            dsimp only
            go_wp2
            go_meet
            exact ⟨jb, rfl, H6⟩
        · clear hdn
          dsimp only
          go_wp2
          go_meet
          exact ⟨jb, rfl, Lib.hid HX.out.2⟩
    case rest =>
      obtain ⟨jb', rfl, hL⟩ := hcut
      obtain ⟨r, k, rA, rc, ee, hr, hJB, failed, P, hMB⟩ := hL.out.count
      have hm0 : wc.cell? ⟨m, 0, none⟩ = some (.slice rA r rc) := hMB.cell 0
      have HJB := Lib.hid hJB
      clear hJB hMB
      have hne : ((r : Int) != (r : Int)) = false := by simp
      go_wp2_with fail
      refine wp_region_R (RL [(5, fun w' => w'.cell? ⟨m, 0, none⟩ = some (.slice rA r rc))]) (by kernel_rfl) (RL_cons hm0 (RL_nil _)) (fun hp => ?_)
      refine wpAnyR_take (i := 0) (oi := ⟨some 161, _, _, _, _, _⟩) (v := ?_) rfl (by kernel_rfl) (by kernel_rfl) (by kernel_rfl) (fun _ _ _ h => h) hp (.inl ⟨by rfl, fun w _ => ?_⟩) (fun hq => ?_)
      rotate_left
      · go_simp
        with_reducible rfl
      clear hp; have hp := hq; clear hq
      try simp only [Act.put, List.setIfInBounds_toArray, List.set_cons_zero, List.set_cons_succ]
      refine wpAnyR_take (i := 2) (oi := ⟨some 163, _, _, _, _, _⟩) (v := ?_) rfl (by kernel_rfl) (by kernel_rfl) (by kernel_rfl) (fun _ _ _ h => h) hp (.inl ⟨by rfl, fun w _ => ?_⟩) (fun hq => ?_)
      rotate_left
      · go_simp
        with_reducible rfl
      clear hp; have hp := hq; clear hq
      try simp only [Act.put, List.setIfInBounds_toArray, List.set_cons_zero, List.set_cons_succ]
      refine wpAnyR_take (i := 3) (oi := ⟨some 164, _, _, _, _, _⟩) (v := ?_) rfl (by kernel_rfl) (by kernel_rfl) (by kernel_rfl) (fun _ _ _ h => h) hp (.inl ⟨by rfl, fun w _ => ?_⟩) (fun hq => ?_)
      rotate_left
      · go_simp
        with_reducible rfl
      clear hp; have hp := hq; clear hq
      try simp only [Act.put, List.setIfInBounds_toArray, List.set_cons_zero, List.set_cons_succ]
      refine wpAnyR_take (i := 4) (oi := ⟨some 165, _, _, _, _, _⟩) (v := ?_) rfl (by kernel_rfl) (by kernel_rfl) (by kernel_rfl) (fun _ _ _ h => h) hp (.inl ⟨by rfl, fun w _ => ?_⟩) (fun hq => ?_)
      rotate_left
      · go_simp
        with_reducible rfl
      clear hp; have hp := hq; clear hq
      try simp only [Act.put, List.setIfInBounds_toArray, List.set_cons_zero, List.set_cons_succ]
      refine wpAnyR_take (i := 5) (oi := ⟨some 166, _, _, _, _, _⟩) (v := ?_) rfl (by kernel_rfl) (by kernel_rfl) (by kernel_rfl) (fun _ _ _ h => h) hp (.inl ⟨by rfl, fun w hR => ?_⟩) (fun hq => ?_)
      rotate_left
      · have hR := hR.1 rfl
        (try dsimp only at hR)
        go_simp
        with_reducible rfl
      clear hp; have hp := hq; clear hq
      try simp only [Act.put, List.setIfInBounds_toArray, List.set_cons_zero, List.set_cons_succ]
      refine wpAnyR_take (i := 6) (oi := ⟨some 167, _, _, _, _, _⟩) (v := ?_) rfl (by kernel_rfl) (by kernel_rfl) (by kernel_rfl) (fun _ _ _ h => h) hp (.inl ⟨by rfl, fun w _ => ?_⟩) (fun hq => ?_)
      rotate_left
      · go_simp
        with_reducible rfl
      clear hp; have hp := hq; clear hq
      try simp only [Act.put, List.setIfInBounds_toArray, List.set_cons_zero, List.set_cons_succ]
      refine wpAnyR_step (i := 1) (o := ⟨some 162, _, _, _, _, _⟩) (by kernel_rfl) rfl (by rfl) (fun K hK => ?_) -- Op.call { callee := Callee.value (Operand.func 28), args := #[Operand.tmp 161], argTypes := #[49] }
      go_simp
      refine (len_calls (JBlk_drew HJB.out)).mono ?_
      rintro e1 w4 ⟨rfl, rfl⟩
      show K _ _
      have hS5 : wc.drew.cell? ⟨m, 0, none⟩ = some (.slice rA r rc) := hm0
      refine hK _ _ (pend_on hS5 pend_nil) (fun hq => ?_)
      clear hp hK K; have hp := hq; clear hq
      try simp only [Act.put, List.setIfInBounds_toArray, List.set_cons_zero, List.set_cons_succ]
      refine wpAnyR_take (i := 7) (oi := ⟨some 168, _, _, _, _, _⟩) (v := ?_) rfl (by kernel_rfl) (by kernel_rfl) (by kernel_rfl) (fun _ _ _ h => h) hp (.inl ⟨by rfl, fun w _ => ?_⟩) (fun hq => ?_)
      rotate_left
      · go_simp
        with_reducible rfl
      clear hp; have hp := hq; clear hq
      try simp only [Act.put, List.setIfInBounds_toArray, List.set_cons_zero, List.set_cons_succ]
      refine wpAnyR_done (by kernel_rfl) ?_ _
      clear hp
      have HL := Lib.hid (hL.out.keep0 (Chg.drew (Chg.refl _ wc)))
      go_wp2
      go_roundg (gk - 1)
      case measure => omega
      case rel => exact ⟨i + 1, jb', rfl, by go_num, by omega, HL⟩

end Go.Proofs.Ytdnjelggdjimhaa
