/-
  CustodyRoom: the walk.
-/
import Derived.Test.YtdnjelggdjimhaaJl2
import Derived.Deep.DeepCutAuto
import Derived.Deep.CutBlock
namespace Go.Proofs.Ytdnjelggdjimhaa
open Go.RowKit

theorem many_cost (n : Nat) : Dk.manyOf n ≤ 2 * (1 + n / 32) := by unfold Dk.manyOf; omega

structure RoomRel (w wr : World) (g jb : Nat) (size : Nat) (left : Nat) (rs : List (List UInt8)) (vw : Value) : Prop where
  j : ∃ d, JOn wr w.heap.size g jb d rs 0 [] ∧ d.down = false ∧ d.armed = false ∧ d.now.length = size
  own : wr.ownsRow w.heap.size 9 1 vw rs.length (svs rs)
  below : Below w.heap.size w wr
  cost : (Dk.encs rs).length + 2 * left ≤ size

set_option maxRecDepth 1000000 in
set_option maxHeartbeats 2000000 in
theorem room_law (sectors : Int) (A : Option Addr) (n c : Nat) (l : List (List UInt8)) (w : World) (h : TextsAt w A n l) :
    Calls Try.prog 5 #[.int .i64 sectors, .slice A n c] w fun e w' => e = .returned (.bool true) ∧ Below w.heap.size w w' := by
  obtain ⟨i0, hi0, hz0, hz1, hz2⟩ := info_parts Try.infoStr
  have HI0 := Lib.hid (And.intro hi0 (And.intro hz0 (And.intro hz1 hz2)))
  clear hi0 hz0 hz1 hz2
  have HT := Lib.hid h
  have hmost := h.most
  clear h
  go_enter Try.func5, Try.ntmps5
  go_wp2_with fail
  obtain ⟨size, h1, h2, he⟩ : ∃ size : Nat, 16 ≤ size ∧ size ≤ 2016 ∧ wrap64 (16 + wrap64 ((IntKind.u64.wrap sectors).tmod 2000)) = (size : Int) := by
    have hw : 0 ≤ IntKind.u64.wrap sectors := by simp [IntKind.wrap_u64]; omega
    refine ⟨16 + ((IntKind.u64.wrap sectors).tmod 2000).toNat, ?_, ?_, ?_⟩
    · omega
    · rw [Int.tmod_eq_emod_of_nonneg hw]; omega
    · rw [Int.tmod_eq_emod_of_nonneg hw]; unfold wrap64; omega
  rw [he]
  clear he
  refine (new_yes size _ h1 (by omega)).mono ?_
  rintro e w1 ⟨g, vd, vn, vw, rfl, hD, hB⟩
  have H1 := Lib.hid (And.intro (show DOn w1 w.heap.size g (Dk.new size) from ⟨hB.size, vd, vn, vw, hD⟩) hB)
  clear hD hB
  go_wp2_with fail
  refine (open_clean H1.out.1 (Dk.new_clean size h1 (by omega)) rfl).mono ?_
  rintro e w2 ⟨jb, vl, d2, rfl, hJ2, hd2, ha2, hl2, ho2, hB2, _⟩
  have H2 := Lib.hid (show RoomRel w w2 g jb size (size / 2) [] (.slice none 0 0) from ⟨⟨d2, hJ2, hd2, ha2, by rw [hl2]; simp [Dk.new]⟩, World.ownsRow_nil _ _ _ _, H1.out.2.trans hB2, by simp [Dk.encs]; omega⟩)
  clear hJ2 hd2 ha2 hl2 ho2 hB2
  go_upto_block 0 with fail
  go_cut [12] (fun s12 wr => ∃ (rs : List (List UInt8)) (B : Option Addr) (cw left : Nat), s12 = .slice B rs.length cw ∧ Hid (RoomRel w wr g jb size left rs (.slice B rs.length cw)))
  case first =>
    go_wp2_with fail
    have hsz2 : ((size : Int) / 2) = ((size / 2 : Nat) : Int) := by omega
    go_loopg [11, 12, 13] n (fun q s11 s12 s13 wr => ∃ (i left : Nat) (rs : List (List UInt8)) (B : Option Addr) (cw : Nat), s11 = .int .i64 (left : Int) ∧ s12 = .slice B rs.length cw ∧ s13 = .int .i64 (i : Int) ∧ i + q = n ∧ i ≤ 2000 ∧ rs.length ≤ i ∧ left ≤ 1008 ∧ Hid (RoomRel w wr g jb size left rs (.slice B rs.length cw)))
    case atStart => exact ⟨0, size / 2, [], none, 0, by rw [← hsz2], rfl, by go_num, by omega, by omega, Nat.le_refl _, by omega, H2⟩
    case round =>
      obtain ⟨i, left, rs, B, cw, rfl, rfl, rfl, hi, hi2, hrs, hleft, hR⟩ := hrel
      by_cases hgo : i < n ∧ i < 2000
      · obtain ⟨hin, hi2000⟩ := hgo
        have hd1 : decide ((i : Int) < (n : Int)) = true := by simp; omega
        have hd2 : decide ((i : Int) < 2000) = true := by simp; omega
        obtain ⟨s, hs⟩ : ∃ s, l[i]? = some s := ⟨_, List.getElem?_eq_getElem (by have := HT.out.len; omega)⟩
        obtain ⟨ad, rfl, hadl, hc1⟩ := HT.out.at_.resolve_left (fun e => by rw [e] at hs; cases hs)
        have hb1 : (ad.add i).block = ad.block := by unfold Addr.add; split <;> rfl
        have hca : wr.cell? (ad.add i) = some (.string (bs s)) := by rw [hR.out.below.cell (by rw [hb1]; exact hadl)]; exact hc1 i s hs
        obtain ⟨S, hS⟩ : ∃ S, S = bs s := ⟨_, rfl⟩
        have hSz : S.size = s.length := by rw [hS, bs_size]
        obtain ⟨sl, hsl⟩ : ∃ sl, sl = s.length := ⟨_, rfl⟩
        rw [← hS] at hca
        rw [← hsl] at hSz
        have HS := Lib.hid (And.intro hS hsl)
        clear hS hsl hs hc1 hb1
        by_cases hbig : 60000 < sl
        · have hd3 : decide ((60000 : Int) < (sl : Int)) = true := by simp; omega
          go_wp2
          go_roundg (gk - 1)
          case measure => omega
          case rel => exact ⟨i + 1, left, rs, B, cw, rfl, rfl, by go_num, by omega, by omega, by omega, hleft, hR⟩
        have hd3 : decide ((60000 : Int) < (sl : Int)) = false := by simp; omega
        by_cases hcost : left < 1 + sl / 32
        · have hd4 : decide ((left : Int) < 1 + (sl : Int) / 32) = true := by simp; omega
          go_wp2
          go_roundg (gk - 1)
          case measure => omega
          case rel => exact ⟨i + 1, left, rs, B, cw, rfl, rfl, by go_num, by omega, by omega, by omega, hleft, hR⟩
        have hd4 : decide ((left : Int) < 1 + (sl : Int) / 32) = false := by simp; omega
        obtain ⟨d, hJ, hdd, hda, hdl⟩ := hR.out.j
        have HJ := Lib.hid (And.intro hJ (And.intro hdd (And.intro hda hdl)))
        clear hJ hdd hda hdl
        have hroom : (Dk.encs rs).length + Dk.manyOf s.length ≤ d.now.length := by
          have h1 := hR.out.cost
          have h2 := many_cost s.length
          rw [HJ.out.2.2.2]
          have := HS.out.2
          rw [this] at hcost
          omega
        have HRM := Lib.hid hroom
        clear hroom
        have hap := append_sure HJ.out.1 HJ.out.2.1 HJ.out.2.2.1 s (by rw [← HS.out.2]; omega) HRM.out
        rw [← HS.out.1] at hap
        have HAP := Lib.hid hap
        clear hap
        go_wp2_with fail
        refine HAP.out.mono ?_
        rintro e w3 ⟨rfl, d3, hJ3, hd3', ha3, hl3, hc3⟩
        dsimp only
        have hb3 := hR.out.below.trans (chg_below HJ.out.1.disk.1 HJ.out.1.low hc3)
        have ho3 := str_keepJ hR.out.own HJ.out.1.jb hc3
        have hca3 : w3.cell? (ad.add i) = some (.string S) := by
          have hb1 : (ad.add i).block = ad.block := by unfold Addr.add; split <;> rfl
          rw [(chg_below HJ.out.1.disk.1 HJ.out.1.low hc3).cell (by rw [hb1]; exact hadl)]; exact hca
        have hO1 := ho3.alloc (.cells #[.string S] 9)
        have hn1 := World.news_of_block (cs := #[.string S]) (t := 9) (fr := (0, 0)) (heap_alloc_new w3 _)
        have HO := Lib.hid (And.intro hO1 (And.intro hn1 (And.intro hb3 (And.intro ho3 (show rs.length + 1 ≤ maxLen ∧ (rs.length + 1) * 16 ≤ 140737488355328 ∧ w.heap.size ≤ (w3.alloc (.cells #[.string S] 9)).heap.size from ⟨by simp only [maxLen]; omega, by omega, by have := hb3.size; simp; omega⟩)))))
        have H3 := Lib.hid (And.intro hJ3 (And.intro hd3' (And.intro ha3 (hl3.trans HJ.out.2.2.2))))
        clear hJ3 hd3' ha3 hl3 hc3 hb3 ho3 hO1 hn1
        go_wp2_with (first
          | ((with_reducible refine wpList_append_lies (o := ⟨some 97, _, _, _, _, _⟩) _ rfl (.tmp 91) (.tmp 96) 44 rfl w.heap.size 9 i0 (.string ⟨#[]⟩) 1 16 Try.underlying44 HI0.out.1 HI0.out.2.1 HI0.out.2.2.1 HI0.out.2.2.2 size_strz Nat.one_pos (.slice B rs.length cw) rs.length (svs rs) rfl HO.out.1 ⟨w3.heap.size, 0, none⟩ 1 1 [.string S] rfl rfl HO.out.2.1 (one_str S) Nat.one_pos HO.out.2.2.2.2.1 HO.out.2.2.2.2.2.1 HO.out.2.2.2.2.2.2 _ rfl ?_); intro g' cap w6 hown hgrow hat6 hlt6)
          | fail)
        simp only [Act.put, List.setIfInBounds_toArray, List.set_cons_zero, List.set_cons_succ]
        go_wp2
        have C6 : Chg (fun i => (Value.slice B rs.length cw).ownBlock = some i) w3 w6 := ((Chg.refl _ w3).alloc _).trans (Chg.of_grownBy (fp := fun i => (Value.slice B rs.length cw).ownBlock = some i) hgrow (fun k hk => .inl hk)) (fun i hi => .inl hi)
        go_roundg (gk - 1)
        case measure => omega
        case rel =>
          refine ⟨i + 1, left - 1 - sl / 32, rs ++ [s], some ⟨g', 0, none⟩, cap, by congr 1; omega, by simp, by go_num, by omega, by omega, by simp; omega, by omega, Lib.hid ⟨⟨d3, ?_, H3.out.2⟩, ?_, ?_, ?_⟩⟩
          · obtain ⟨⟨hb, vd', vn', vw', hD'⟩, hlow, hJ', hcore⟩ := H3.out.1
            exact ⟨⟨Nat.le_trans hb C6.size, vd', vn', vw', hD'.keep C6 (fun k hk e => str_apart HO.out.2.2.2.1 hD' k e hk)⟩, hlow, C6.blk hJ' (fun e => own_ne_blk HO.out.2.2.2.1 hJ' (by decide) jb e rfl), hcore⟩
          · rw [List.length_append, svs_snoc, show sv s = .string S from by rw [HS.out.1]]
            exact hown
          · exact HO.out.2.2.1.trans (C6.below (fun i hi => (HO.out.2.2.2.1.lt i hi).1) HO.out.2.2.1.size)
          · have h1 := hR.out.cost
            have h2 := many_cost s.length
            rw [Dk.encs_append, Dk.encs_one, List.length_append, Dk.length_encR]
            have := HS.out.2
            rw [this] at hcost ⊢
            omega
      · rcases (show (¬ i < n) ∨ (i < n ∧ ¬ i < 2000) from by omega) with hx | ⟨hx, hy⟩
        · have hd1 : decide ((i : Int) < (n : Int)) = false := by simp; omega
          go_wp2_with fail
          go_meet
          exact ⟨rs, B, cw, left, rfl, hR⟩
        · have hd1 : decide ((i : Int) < (n : Int)) = true := by simp; omega
          have hd2 : decide ((i : Int) < 2000) = false := by simp; omega
          go_wp2_with fail
          go_meet
          exact ⟨rs, B, cw, left, rfl, hR⟩
  case rest =>
    obtain ⟨rs, B, cw, left, rfl, hR⟩ := hcut
    obtain ⟨d, hJ, hdd, hda, hdl⟩ := hR.out.j
    have HJ := Lib.hid (And.intro hJ (And.intro hdd (And.intro hda hdl)))
    clear hJ hdd hda hdl HT HI0
    go_wp2_with fail
    refine (sync_sure HJ.out.1 HJ.out.2.1 HJ.out.2.2.1).mono ?_
    rintro e w3 ⟨rfl, d3, hJ3, hd3, ha3, hl3, hc3⟩
    have ho3 := str_keepJ hR.out.own HJ.out.1.jb hc3
    have H3 := Lib.hid (And.intro hJ3 (And.intro ho3 (hR.out.below.trans (chg_below HJ.out.1.disk.1 HJ.out.1.low hc3))))
    clear hJ3 hd3 ha3 hl3 hc3 ho3
    go_wp2_with fail
    refine (crash_on none 0 0 [] H3.out.1.disk rfl (fun v _ => .inl rfl)).mono ?_
    rintro e w5 ⟨rfl, hD5, hc5⟩
    obtain ⟨m, hm1, hm2, hcl⟩ := Dk.Core.crash H3.out.1.core (.inl rfl) []
    rw [List.take_of_length_le hm1] at hcl
    have H5 := Lib.hid (And.intro hD5 (And.intro hcl (And.intro (str_keep H3.out.2.1 hc5) (H3.out.2.2.trans (chg_below' H3.out.1.disk.1 hc5)))))
    clear hD5 hc5 hm1 hm2 hcl
    go_wp2_with fail
    refine (open_clean H5.out.1 H5.out.2.1 rfl).mono ?_
    rintro e w6 ⟨jb2, vl2, d6, rfl, hJ6, hd6, ha6, hl6, ho6, hB6, hc6⟩
    obtain ⟨A6, c6, rfl, hT6⟩ := own_texts ho6 rfl
    obtain ⟨_, _, hv, hTw⟩ := own_texts (str_keep H5.out.2.2.1 hc6) rfl
    obtain ⟨rfl, _, rfl⟩ : B = _ ∧ rs.length = rs.length ∧ cw = _ := by injection hv with h1 h2 h3; exact ⟨h1, h2, h3⟩
    have H6 := Lib.hid (And.intro hT6 (And.intro hTw (H5.out.2.2.2.trans hB6)))
    clear hJ6 hd6 ha6 hl6 ho6 hB6 hc6 hT6 hTw hv
    go_wp2_with fail
    refine (journals_calls w6).mono ?_
    rintro e w7 ⟨rfl, hB7⟩
    have H7 := Lib.hid hB7
    clear hB7
    go_wp2_with fail
    refine (same_calls _ _ _ _ _ _ rs rs w7 (H6.out.1.below H7.out) (H6.out.2.1.below H7.out)).mono ?_
    rintro e w8 ⟨rfl, hc8⟩
    have hdt : decide (rs = rs) = true := by simp
    rw [hdt]
    have H8 := Lib.hid (H6.out.2.2.trans ((H7.out.mono H6.out.2.2.size).trans (hc8.below (fun _ h => h.elim) (Nat.le_trans H6.out.2.2.size H7.out.size))))
    clear hc8
    go_wp2
    go_ret
    exact ⟨rfl, H8.out⟩

end Go.Proofs.Ytdnjelggdjimhaa
