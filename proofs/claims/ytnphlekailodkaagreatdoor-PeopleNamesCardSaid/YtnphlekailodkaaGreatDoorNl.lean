/-
  Persons, Names, Called, Dead and Holds return what the reference returns: the law's walk.
-/
import Derived.Test.YtnphlekailodkaaGreatDoorNp
import Derived.Test.YtnphlekailodkaaGreatDoorLw
import Derived.Test.YtnphlekailodkaaGreatDoorDw
namespace Go.Proofs.YtnphlekailodkaaGreatDoor
open Go.RowKit

set_option linter.unusedSimpArgs false in
set_option maxRecDepth 1000000 in
set_option maxHeartbeats 16000000 in
theorem names_law (A : Option Addr) (n c : Nat) (l : List Pe.Ent) (p : Int) (s : List UInt8) (d : Int) (w : World) (h : EntsAt w A n l) (hL : Laid w) :
    Calls Tryz.prog 10 #[.slice A n c, .int .i64 p, .string (bs s), .int .i64 d] w (Law w) := by
  have H := Lib.hid (And.intro h hL)
  clear h hL
  have hfe := fun w0 => Few_calls A n c w0
  have HFE := Lib.hid hfe
  clear hfe
  go_enter Tryz.func10, Tryz.ntmps10
  by_cases hfew : n ≤ 60
  case neg =>
    have d1 : decide (n ≤ 60) = false := by simpa using hfew
    have HD := Lib.hid d1
    clear d1 hfew
    go_wp2_with fail
    refine (HFE.out w).mono ?_
    rintro e w2 ⟨rfl, rfl⟩
    rw [HD.out]
    dsimp only
    go_wp2_with fail
    refine (alive_calls w2 H.out.2).mono ?_
    rintro e wy ⟨rfl, hby⟩
    have HY := Lib.hid hby
    clear hby
    dsimp only
    go_wp2
    go_ret
    exact ⟨rfl, HY.out⟩
  have d1 : decide (n ≤ 60) = true := by simpa using hfew
  have HD := Lib.hid d1
  have hn : n ≤ 100000 := by omega
  clear d1
  go_wp2_with fail
  refine (HFE.out w).mono ?_
  rintro e w2 ⟨rfl, rfl⟩
  rw [HD.out]
  dsimp only
  go_wp2_with fail
  go_loopg [17] n (fun q s17 wr => ∃ i : Nat, s17 = .int .i64 (i : Int) ∧ i + q = n ∧ Hid (Below w2.heap.size w2 wr))
  case atStart => exact ⟨0, by go_num, by omega, Lib.hid (Below.refl _ _)⟩
  case round =>
    obtain ⟨i, rfl, hi, hR⟩ := hrel
    rename World => wo
    by_cases hgo : i < n
    case pos =>
      have hd1 : decide ((i : Int) < (n : Int)) = true := by simp; omega
      obtain ⟨x, ad, hx, rfl, hok, hcw⟩ := (H.out.1.below hR.out).one hgo
      have g0 : wo.cell? (ad.add (i * 10)) = some (.int .i64 x.day) := hcw 0 _ rfl
      have g1 : wo.cell? ⟨(ad.add (i * 10)).block, (ad.add (i * 10)).off + 1, none⟩ = some (.int .u8 (x.kind : Int)) := hcw 1 _ rfl
      have g2 : wo.cell? ⟨(ad.add (i * 10)).block, (ad.add (i * 10)).off + 2, none⟩ = some (.int .i64 x.since) := hcw 2 _ rfl
      have g3 : wo.cell? ⟨(ad.add (i * 10)).block, (ad.add (i * 10)).off + 3, none⟩ = some (.int .i64 x.til) := hcw 3 _ rfl
      have g4 : wo.cell? ⟨(ad.add (i * 10)).block, (ad.add (i * 10)).off + 4, none⟩ = some (.int .i64 x.person) := hcw 4 _ rfl
      have g5 : wo.cell? ⟨(ad.add (i * 10)).block, (ad.add (i * 10)).off + 5, none⟩ = some (.int .i64 x.place) := hcw 5 _ rfl
      have g6 : wo.cell? ⟨(ad.add (i * 10)).block, (ad.add (i * 10)).off + 6, none⟩ = some (.int .i64 x.other) := hcw 6 _ rfl
      have g7 : wo.cell? ⟨(ad.add (i * 10)).block, (ad.add (i * 10)).off + 7, none⟩ = some (.int .i64 x.at_) := hcw 7 _ rfl
      have g8 : wo.cell? ⟨(ad.add (i * 10)).block, (ad.add (i * 10)).off + 8, none⟩ = some (.int .i64 x.order) := hcw 8 _ rfl
      have g9 : wo.cell? ⟨(ad.add (i * 10)).block, (ad.add (i * 10)).off + 9, none⟩ = some (.string (bs x.name)) := hcw 9 _ rfl
      clear hx hcw hok
      go_upto_region 6 with fail
      obtain ⟨xb, hxb⟩ : ∃ g, g = wo.heap.size := ⟨_, rfl⟩
      obtain ⟨w8, hw8⟩ : ∃ w0, w0 = wo.alloc (.cells (eCells x) 31) := ⟨_, rfl⟩
      have hbl : Below wo.heap.size wo w8 := by rw [hw8]; exact (Below.refl _ wo).alloc (Nat.le_refl _) _
      have hgb : Blk w8 xb 31 (eCells x) := by rw [hw8, hxb]; exact Blk.fresh _ _ _
      unfold eCells at hw8
      rw [← hxb, ← hw8]
      clear g0 g1 g2 g3 g4 g5 g6 g7 g8 g9
      have H8 := Lib.hid (And.intro (hR.out.trans (hbl.mono hR.out.size)) hgb)
      clear hbl hxb hw8 hgb
      obtain ⟨ov, hov⟩ : ∃ ov, ov = x.on d := ⟨_, rfl⟩
      have h1 := fun w0 => Holds_calls x d w0
      have h2 := fun w0 => rHolds_calls x d w0
      rw [← hov] at h1 h2
      unfold eCells at h1 h2
      have HH := Lib.hid (And.intro h1 h2)
      clear h1 h2 hov
      have HRR := Lib.hid hR.out
      clear hR
      go_cut [27] (fun s27 wx => s27 = .bool false ∧ Hid (Below w2.heap.size w2 wx))
      case first =>
        refine wp_region_R (RL [(0, fun w' => Blk w' xb 31 (eCells x)), (3, fun w' => Blk w' xb 31 (eCells x))]) (by kernel_rfl) (RL_cons (H8.out.2.heap rfl) (RL_cons (H8.out.2.heap rfl) (RL_nil _))) (fun hp => ?_)
        have hS0 : Blk w8.drew xb 31 (eCells x) := H8.out.2.drew
        have hS3 := hS0
        refine wpAnyR_take (i := 0) (oi := ⟨some 21, _, _, _, _, _⟩) (v := ?_) rfl (by kernel_rfl) (by kernel_rfl) (by kernel_rfl) (fun _ _ _ h => h) hp (.inl ⟨by rfl, fun w hR => ?_⟩) (fun hq => ?_)
        rotate_left
        · have hR := hR.1 rfl
          (try dsimp only at hR)
          have h0 : w.cell? ⟨xb, 0, none⟩ = some (.int .i64 x.day) := hR.cell 0
          have h1 : w.cell? ⟨xb, 1, none⟩ = some (.int .u8 (x.kind : Int)) := hR.cell 1
          have h2 : w.cell? ⟨xb, 2, none⟩ = some (.int .i64 x.since) := hR.cell 2
          have h3 : w.cell? ⟨xb, 3, none⟩ = some (.int .i64 x.til) := hR.cell 3
          have h4 : w.cell? ⟨xb, 4, none⟩ = some (.int .i64 x.person) := hR.cell 4
          have h5 : w.cell? ⟨xb, 5, none⟩ = some (.int .i64 x.place) := hR.cell 5
          have h6 : w.cell? ⟨xb, 6, none⟩ = some (.int .i64 x.other) := hR.cell 6
          have h7 : w.cell? ⟨xb, 7, none⟩ = some (.int .i64 x.at_) := hR.cell 7
          have h8 : w.cell? ⟨xb, 8, none⟩ = some (.int .i64 x.order) := hR.cell 8
          have h9 : w.cell? ⟨xb, 9, none⟩ = some (.string (bs x.name)) := hR.cell 9
          clear hR
          go_simp
          with_reducible rfl
        clear hp; have hp := hq; clear hq
        try simp only [Act.put, List.setIfInBounds_toArray, List.set_cons_zero, List.set_cons_succ]
        refine wpAnyR_take (i := 1) (oi := ⟨some 22, _, _, _, _, _⟩) (v := ?_) rfl (by kernel_rfl) (by kernel_rfl) (by kernel_rfl) (fun _ _ _ h => h) hp (.inl ⟨by rfl, fun w _ => ?_⟩) (fun hq => ?_)
        rotate_left
        · go_simp
          with_reducible rfl
        clear hp; have hp := hq; clear hq
        try simp only [Act.put, List.setIfInBounds_toArray, List.set_cons_zero, List.set_cons_succ]
        refine wpAnyR_take (i := 3) (oi := ⟨some 24, _, _, _, _, _⟩) (v := ?_) rfl (by kernel_rfl) (by kernel_rfl) (by kernel_rfl) (fun _ _ _ h => h) hp (.inl ⟨by rfl, fun w hR => ?_⟩) (fun hq => ?_)
        rotate_left
        · have hR := hR.2.1 rfl
          (try dsimp only at hR)
          have h0 : w.cell? ⟨xb, 0, none⟩ = some (.int .i64 x.day) := hR.cell 0
          have h1 : w.cell? ⟨xb, 1, none⟩ = some (.int .u8 (x.kind : Int)) := hR.cell 1
          have h2 : w.cell? ⟨xb, 2, none⟩ = some (.int .i64 x.since) := hR.cell 2
          have h3 : w.cell? ⟨xb, 3, none⟩ = some (.int .i64 x.til) := hR.cell 3
          have h4 : w.cell? ⟨xb, 4, none⟩ = some (.int .i64 x.person) := hR.cell 4
          have h5 : w.cell? ⟨xb, 5, none⟩ = some (.int .i64 x.place) := hR.cell 5
          have h6 : w.cell? ⟨xb, 6, none⟩ = some (.int .i64 x.other) := hR.cell 6
          have h7 : w.cell? ⟨xb, 7, none⟩ = some (.int .i64 x.at_) := hR.cell 7
          have h8 : w.cell? ⟨xb, 8, none⟩ = some (.int .i64 x.order) := hR.cell 8
          have h9 : w.cell? ⟨xb, 9, none⟩ = some (.string (bs x.name)) := hR.cell 9
          clear hR
          go_simp
          with_reducible rfl
        clear hp; have hp := hq; clear hq
        try simp only [Act.put, List.setIfInBounds_toArray, List.set_cons_zero, List.set_cons_succ]
        refine wpAnyR_take (i := 4) (oi := ⟨some 25, _, _, _, _, _⟩) (v := ?_) rfl (by kernel_rfl) (by kernel_rfl) (by kernel_rfl) (fun _ _ _ h => h) hp (.inl ⟨by rfl, fun w _ => ?_⟩) (fun hq => ?_)
        rotate_left
        · go_simp
          with_reducible rfl
        clear hp; have hp := hq; clear hq
        try simp only [Act.put, List.setIfInBounds_toArray, List.set_cons_zero, List.set_cons_succ]
        refine wpAnyR_step (i := 2) (o := ⟨some 23, _, _, _, _, _⟩) (by kernel_rfl) rfl (by rfl) (fun K hK => ?_) -- Op.call { callee := Callee.value (Operand.func 40), args := #[Operand.tmp 21, Operand.tmp 22], argTypes := #[3
        go_simp
        refine (HH.out.1 _).mono ?_
        rintro e w9 ⟨rfl, hb9⟩
        show K _ _
        have hS3 : Blk w9 xb 31 (eCells x) := H8.out.2.drew.below hb9 H8.out.2.lt
        have H9 := Lib.hid (H8.out.1.drew.trans (hb9.mono H8.out.1.size))
        clear hb9
        refine hK _ _ (pend_off (by kernel_rfl) (pend_on hS3 pend_nil)) (fun hq => ?_)
        clear hp hK K; have hp := hq; clear hq
        try simp only [Act.put, List.setIfInBounds_toArray, List.set_cons_zero, List.set_cons_succ]
        refine wpAnyR_step (i := 5) (o := ⟨some 26, _, _, _, _, _⟩) (by kernel_rfl) rfl (by rfl) (fun K hK => ?_) -- Op.call { callee := Callee.value (Operand.func 41), args := #[Operand.tmp 24, Operand.tmp 25], argTypes := #[3
        go_simp
        refine (HH.out.2 _).mono ?_
        rintro e w10 ⟨rfl, hb10⟩
        show K _ _
        have H10 := Lib.hid (H9.out.trans (hb10.mono H9.out.size))
        clear hb10
        refine hK _ _ (pend_off (by kernel_rfl) (pend_off (by kernel_rfl) pend_nil)) (fun hq => ?_)
        clear hp hK K; have hp := hq; clear hq
        try simp only [Act.put, List.setIfInBounds_toArray, List.set_cons_zero, List.set_cons_succ]
        refine wpAnyR_take (i := 6) (oi := ⟨some 27, _, _, _, _, _⟩) (v := ?_) rfl (by kernel_rfl) (by kernel_rfl) (by kernel_rfl) (fun _ _ _ h => h) hp (.inl ⟨by rfl, fun w _ => ?_⟩) (fun hq => ?_)
        rotate_left
        · go_simp
          with_reducible rfl
        clear hp; have hp := hq; clear hq
        try simp only [Act.put, List.setIfInBounds_toArray, List.set_cons_zero, List.set_cons_succ]
        refine wpAnyR_done (by kernel_rfl) ?_ _
        clear hp
        all_goals
          go_wp2
          go_meet
          exact ⟨by simp, H10⟩
      case rest =>
      obtain ⟨rfl, H11⟩ := hcut
      apply_assumption
      go_wp2
      go_roundg (gk - 1)
      case measure => omega
      case rel => exact ⟨i + 1, by go_num, by omega, H11⟩
    have hd1 : decide ((i : Int) < (n : Int)) = false := by simp; omega
    obtain ⟨D, hD⟩ : ∃ D, D = Pe.dead l p d := ⟨_, rfl⟩
    have h1 := fun w0 (hb : Below w2.heap.size w2 w0) => Dead_calls A n c l p d w0 (H.out.1.below hb)
    have h2 := fun w0 (hb : Below w2.heap.size w2 w0) => rDead_calls A n c l p d w0 (H.out.1.below hb)
    rw [← hD] at h1 h2
    have h3 := fun w0 (hb : Below w2.heap.size w2 w0) => Persons_calls A n c l w0 (H.out.1.below hb) hn
    have h4 := fun w0 (hb : Below w2.heap.size w2 w0) => rPersons_calls A n c l w0 (H.out.1.below hb) hn
    have h5 := fun w0 (hb : Below w2.heap.size w2 w0) => Names_calls A n c l p d w0 (H.out.1.below hb) hn
    have h6 := fun w0 (hb : Below w2.heap.size w2 w0) => rNames_calls A n c l p d w0 (H.out.1.below hb) hn
    have h7 := fun w0 (hb : Below w2.heap.size w2 w0) => Called_calls A n c l s d w0 (H.out.1.below hb) hn
    have h8 := fun w0 (hb : Below w2.heap.size w2 w0) => rCalled_calls A n c l s d w0 (H.out.1.below hb) hn
    have hpl : (Pe.persons l).length ≤ l.length := Pe.gather_length _ _ _
    have hnl : (Pe.names l p d).length ≤ l.length := Pe.gatherS_length _ _
    have hcl : (Pe.calledS l s d).length ≤ l.length := Pe.gather_length _ _ _
    obtain ⟨ps, hps⟩ : ∃ ps, ps = Pe.persons l := ⟨_, rfl⟩
    obtain ⟨ns, hns⟩ : ∃ ns, ns = Pe.names l p d := ⟨_, rfl⟩
    obtain ⟨cs, hcs⟩ : ∃ cs, cs = Pe.calledS l s d := ⟨_, rfl⟩
    rw [← hps] at h3 h4 hpl
    rw [← hns] at h5 h6 hnl
    rw [← hcs] at h7 h8 hcl
    obtain ⟨pn, hpn⟩ : ∃ pn, pn = ps.length := ⟨_, rfl⟩
    obtain ⟨nn, hnn⟩ : ∃ nn, nn = ns.length := ⟨_, rfl⟩
    obtain ⟨cn, hcn⟩ : ∃ cn, cn = cs.length := ⟨_, rfl⟩
    rw [← hpn] at h3 h4 hpl
    rw [← hnn] at h5 h6 hnl
    rw [← hcn] at h7 h8 hcl
    have hln := H.out.1.len
    have hpm : pn ≤ 1000000 := by omega
    have hnm : nn ≤ 1000000 := by omega
    have hcm : cn ≤ 1000000 := by omega
    have HC := Lib.hid (And.intro h1 (And.intro h2 (And.intro h3 (And.intro h4 (And.intro h5 (And.intro h6 (And.intro h7 h8)))))))
    have HQ := Lib.hid (And.intro hpn (And.intro hnn hcn))
    clear h1 h2 h3 h4 h5 h6 h7 h8 hD hps hns hcs hpn hnn hcn hpl hnl hcl hln
    have hDD : (D != D) = false := by simp
    go_wp2_with fail
    refine (HC.out.1 _ hR.out).mono ?_
    rintro e w3 ⟨rfl, hb⟩
    have H3 := Lib.hid (Below.trans (hR.out) (Below.mono hb (Below.size hR.out)))
    clear hb
    dsimp only
    go_wp2_with fail
    refine (HC.out.2.1 _ H3.out).mono ?_
    rintro e w4 ⟨rfl, hb⟩
    have H4 := Lib.hid (Below.trans (H3.out) (Below.mono hb (Below.size H3.out)))
    clear hb
    dsimp only
    go_wp2_with fail
    refine (HC.out.2.2.1 _ H4.out).mono ?_
    rintro e w5 ⟨v, rfl, hown, hb⟩
    obtain ⟨A5, c5, rfl, hN⟩ := own_nums hown (HQ.out.1)
    have H5 := Lib.hid (And.intro (Below.trans (H4.out) (Below.mono hb (Below.size H4.out))) (And.intro hN hb))
    clear hb hown hN
    dsimp only
    go_wp2_with fail
    refine (HC.out.2.2.2.1 _ H5.out.1).mono ?_
    rintro e w6 ⟨v, rfl, hown, hb⟩
    obtain ⟨A6, c6, rfl, hN⟩ := own_nums hown (HQ.out.1)
    have H6 := Lib.hid (And.intro (Below.trans (H5.out.1) (Below.mono hb (Below.size H5.out.1))) (And.intro hN hb))
    clear hb hown hN
    dsimp only
    have hs1 := rSameInts_calls A5 A6 pn c5 pn c6 ps ps w6 (H5.out.2.1.below H6.out.2.2) H6.out.2.1 hpm
    rw [decide_eq_true rfl] at hs1
    have HS1 := Lib.hid hs1
    clear hs1
    go_wp2_with fail
    refine (HS1.out).mono ?_
    rintro e w7 ⟨rfl, hb⟩
    have H7 := Lib.hid (Below.trans (H6.out.1) (Below.mono hb (Below.size H6.out.1)))
    clear hb
    dsimp only
    go_wp2_with fail
    refine (alive_calls w7 (H.out.2.below H7.out)).mono ?_
    rintro e w8 ⟨rfl, hb⟩
    have H8 := Lib.hid (H7.out.trans (hb.mono H7.out.size))
    clear hb
    dsimp only
    go_wp2_with fail
    refine (HC.out.2.2.2.2.1 _ H8.out).mono ?_
    rintro e w9 ⟨v, rfl, hown, hb⟩
    obtain ⟨A9, c9, rfl, hN⟩ := own_strs hown (HQ.out.2.1)
    have H9 := Lib.hid (And.intro (Below.trans (H8.out) (Below.mono hb (Below.size H8.out))) (And.intro hN hb))
    clear hb hown hN
    dsimp only
    go_wp2_with fail
    refine (HC.out.2.2.2.2.2.1 _ H9.out.1).mono ?_
    rintro e w10 ⟨v, rfl, hown, hb⟩
    obtain ⟨A10, c10, rfl, hN⟩ := own_strs hown (HQ.out.2.1)
    have H10 := Lib.hid (And.intro (Below.trans (H9.out.1) (Below.mono hb (Below.size H9.out.1))) (And.intro hN hb))
    clear hb hown hN
    dsimp only
    have hs1 := rSameStrings_calls A9 A10 nn c9 nn c10 ns ns w10 (H9.out.2.1.below H10.out.2.2) H10.out.2.1 hnm
    rw [decide_eq_true rfl] at hs1
    have HS2 := Lib.hid hs1
    clear hs1
    go_wp2_with fail
    refine (HS2.out).mono ?_
    rintro e w11 ⟨rfl, hb⟩
    have H11 := Lib.hid (Below.trans (H10.out.1) (Below.mono hb (Below.size H10.out.1)))
    clear hb
    dsimp only
    go_wp2_with fail
    refine (HC.out.2.2.2.2.2.2.1 _ H11.out).mono ?_
    rintro e w12 ⟨v, rfl, hown, hb⟩
    obtain ⟨A12, c12, rfl, hN⟩ := own_nums hown (HQ.out.2.2)
    have H12 := Lib.hid (And.intro (Below.trans (H11.out) (Below.mono hb (Below.size H11.out))) (And.intro hN hb))
    clear hb hown hN
    dsimp only
    go_wp2_with fail
    refine (HC.out.2.2.2.2.2.2.2 _ H12.out.1).mono ?_
    rintro e w13 ⟨v, rfl, hown, hb⟩
    obtain ⟨A13, c13, rfl, hN⟩ := own_nums hown (HQ.out.2.2)
    have H13 := Lib.hid (And.intro (Below.trans (H12.out.1) (Below.mono hb (Below.size H12.out.1))) (And.intro hN hb))
    clear hb hown hN
    dsimp only
    have hs1 := rSameInts_calls A12 A13 cn c12 cn c13 cs cs w13 (H12.out.2.1.below H13.out.2.2) H13.out.2.1 hcm
    rw [decide_eq_true rfl] at hs1
    have HS3 := Lib.hid hs1
    clear hs1
    go_wp2_with fail
    refine (HS3.out).mono ?_
    rintro e w14 ⟨rfl, hb⟩
    have H14 := Lib.hid (Below.trans (H13.out.1) (Below.mono hb (Below.size H13.out.1)))
    clear hb
    dsimp only
    go_wp2
    go_ret
    exact ⟨rfl, H14.out⟩

end Go.Proofs.YtnphlekailodkaaGreatDoor
