/-
  CustodyPrefix: the walk.
-/
import Derived.Test.YtdnjelggdjimhaaJl4
import Derived.Deep.DeepCutAuto
import Derived.Deep.CutBlock
namespace Go.Proofs.Ytdnjelggdjimhaa
open Go.RowKit

def costOf (l : List (List UInt8)) : Nat := (l.map fun s => 32 + s.length).sum
theorem cost_append (a b : List (List UInt8)) : costOf (a ++ b) = costOf a + costOf b := by simp [costOf]
theorem cost_take (l : List (List UInt8)) (i : Nat) : costOf (l.take i) ≤ costOf l := by
  conv => rhs; rw [← List.take_append_drop i l, cost_append]
  omega
theorem take_snoc {l : List (List UInt8)} {i : Nat} {s : List UInt8} (h : l[i]? = some s) : l.take (i + 1) = l.take i ++ [s] := by
  rw [List.take_add_one, h]; rfl
theorem cost_one (s : List UInt8) : costOf [s] = 32 + s.length := by simp [costOf]
theorem encs_cost (l : List (List UInt8)) : 16 * (Dk.encs l).length ≤ costOf l := by
  induction l with
  | nil => simp [Dk.encs, costOf]
  | cons s l ih =>
    have e : s :: l = [s] ++ l := rfl
    rw [e, Dk.encs_append, cost_append, Dk.encs_one, List.length_append, Dk.length_encR, cost_one]
    have : Dk.manyOf s.length = max 1 ((s.length + 58) / 59) := rfl
    omega
theorem KeepAt_of {W0 w : World} {A : Option Addr} {n : Nat} {l : List Int} (hl : IntsAt W0 A n l) (hb : Below W0.heap.size W0 w) (v : Value) (hv : ∀ k, v.ownBlock = some k → W0.heap.size ≤ k) : KeepAt w v A l := by
  rcases hl.2 with h0 | ⟨ad, hA, hlt, hc⟩
  · exact .inl h0
  · refine .inr ⟨ad, hA, fun e => ?_, fun j hj => ?_⟩
    · exact absurd hlt (Nat.not_lt.2 (hv _ e))
    · have hbl : (ad.add j).block = ad.block := by unfold Addr.add; split <;> rfl
      rw [hb.cell (by rw [hbl]; exact hlt)]
      exact hc j hj

theorem TextsAt.take {w : World} {A : Option Addr} {n : Nat} {l : List (List UInt8)} (h : TextsAt w A n l) (q : Nat) (hq : q ≤ n) : TextsAt w A q (l.take q) := by
  refine ⟨by rw [List.length_take]; have := h.len; omega, by have := h.most; omega, h.at_.imp (fun e => by rw [e, List.take_nil]) ?_⟩
  rintro ⟨ad, hA, hl, hc⟩
  refine ⟨ad, hA, hl, fun i s hi => ?_⟩
  rw [List.getElem?_take] at hi
  split at hi
  · exact hc i s hi
  · cases hi

/-- Where the appends stand. -/
structure PreRel (w wr : World) (g jb : Nat) (l : List (List UInt8)) (i k : Nat) (synced t : Int) : Prop where
  j : ∃ d, JOn wr w.heap.size g jb d (l.take i) k [] ∧ d.down = false ∧ (d.armed = true → synced < t) ∧ d.now.length = 8000
  below : Below w.heap.size w wr
/-- What the appends leave. -/
structure PreEnd (w wr : World) (g jb : Nat) (l : List (List UInt8)) (i k : Nat) : Prop where
  j : ∃ d part, Dk.PartOf part ∧ JOn wr w.heap.size g jb d (l.take i) k part
  below : Below w.heap.size w wr

set_option maxRecDepth 1000000 in
set_option maxHeartbeats 4000000 in
theorem prefix_law (A B C : Option Addr) (n c nb cb nc cc : Nat) (synced stop : Int) (l : List (List UInt8)) (one two : List Int) (w : World) (h : TextsAt w A n l) (hcap : (A = none ∧ n = 0 ∧ c = 0) ∨ (A ≠ none ∧ n ≤ c)) (h1 : IntsAt w B nb one) (h2 : IntsAt w C nc two) :
    Calls Try.prog 6 #[.slice A n c, .int .i64 synced, .int .i64 stop, .slice B nb cb, .slice C nc cc] w fun e w' => e = .returned (.bool true) ∧ Below w.heap.size w w' := by
  have HT := Lib.hid (And.intro h (And.intro hcap (And.intro h1 h2)))
  have hmost := h.most
  clear h h1 h2 hcap
  go_enter Try.func6, Try.ntmps6
  go_upto_block 0 with fail
  go_cut [11] (fun s11 wr => ∃ (i m : Nat), s11 = .int .i64 (m : Int) ∧ (i = n ∨ i = 201) ∧ i ≤ n ∧ m = costOf (l.take i) ∧ (∀ s ∈ l.take i, s.length ≤ 60000) ∧ wr = w)
  case first =>
    go_wp2_with fail
    go_loopg [11, 12] n (fun q s11 s12 wr => ∃ (i m : Nat), s11 = .int .i64 (m : Int) ∧ s12 = .int .i64 (i : Int) ∧ i + q = n ∧ i ≤ 201 ∧ m ≤ i * 60032 ∧ wr = w ∧ Hid (m = costOf (l.take i) ∧ ∀ s ∈ l.take i, s.length ≤ 60000))
    case atStart => exact ⟨0, 0, by go_num, by go_num, by omega, by omega, by omega, rfl, Lib.hid ⟨by simp [costOf], by simp⟩⟩
    case round =>
      obtain ⟨i, m, rfl, rfl, hi, hi2, hm, rfl, hR⟩ := hrel
      by_cases hgo : i < n ∧ i ≤ 200
      · obtain ⟨hin, hi200⟩ := hgo
        have hd1 : decide ((i : Int) < (n : Int)) = true := by simp; omega
        have hd2 : decide ((i : Int) ≤ 200) = true := by simp; omega
        obtain ⟨s, hs⟩ : ∃ s, l[i]? = some s := ⟨_, List.getElem?_eq_getElem (by have := HT.out.1.len; omega)⟩
        obtain ⟨ad, rfl, hadl, hc1⟩ := HT.out.1.at_.resolve_left (fun e => by rw [e] at hs; cases hs)
        have hca : wr.cell? (ad.add i) = some (.string (bs s)) := hc1 i s hs
        obtain ⟨S, hS⟩ : ∃ S, S = bs s := ⟨_, rfl⟩
        have hSz : S.size = s.length := by rw [hS, bs_size]
        obtain ⟨sl, hsl⟩ : ∃ sl, sl = s.length := ⟨_, rfl⟩
        rw [← hS] at hca
        rw [← hsl] at hSz
        have HS := Lib.hid (And.intro hsl hs)
        clear hS hsl hs hc1
        by_cases hbig : 60000 < sl
        · have hd3 : decide ((60000 : Int) < (sl : Int)) = true := by simp; omega
          go_wp2_with fail
          refine (journals_calls wr).mono ?_
          rintro e w7 ⟨rfl, hB7⟩
          have H7 := Lib.hid hB7
          clear hB7
          go_wp2
          go_ret
          exact ⟨rfl, H7.out⟩
        have hd3 : decide ((60000 : Int) < (sl : Int)) = false := by simp; omega
        go_wp2
        go_roundg (gk - 1)
        case measure => omega
        case rel =>
          refine ⟨i + 1, m + 32 + sl, by congr 1, by go_num, by omega, by omega, by omega, rfl, Lib.hid ⟨?_, ?_⟩⟩
          · rw [take_snoc HS.out.2, cost_append, cost_one, ← hR.out.1, ← HS.out.1]; omega
          · intro x hx
            rw [take_snoc HS.out.2] at hx
            rcases List.mem_append.1 hx with hx | hx
            · exact hR.out.2 x hx
            · rw [List.mem_singleton.1 hx, ← HS.out.1]; omega
      · rcases (show (¬ i < n) ∨ (i < n ∧ ¬ i ≤ 200) from by omega) with hx | ⟨hx, hy⟩
        · have hd1 : decide ((i : Int) < (n : Int)) = false := by simp; omega
          go_wp2_with fail
          go_meet
          exact ⟨i, m, rfl, by omega, by omega, hR.out.1, hR.out.2, rfl⟩
        · have hd1 : decide ((i : Int) < (n : Int)) = true := by simp; omega
          have hd2 : decide ((i : Int) ≤ 200) = false := by simp; omega
          go_wp2_with fail
          go_meet
          exact ⟨i, m, rfl, by omega, by omega, hR.out.1, hR.out.2, rfl⟩
  case rest =>
    obtain ⟨i, m, rfl, hi, hin, hm, hsh, hweq⟩ := hcut
    have hweq' := hweq.symm
    subst hweq'
    have HM := Lib.hid (And.intro hm hsh)
    clear hm hsh
    by_cases hok : n ≤ 200 ∧ m ≤ 100000 ∧ nb ≤ 200 ∧ nc ≤ 200
    case neg =>
      have hways : (200 < n) ∨ (n ≤ 200 ∧ 100000 < m) ∨ (n ≤ 200 ∧ m ≤ 100000 ∧ 200 < nb) ∨ (n ≤ 200 ∧ m ≤ 100000 ∧ nb ≤ 200 ∧ 200 < nc) := by omega
      clear hok
      rcases hways with hx | ⟨ha, hx⟩ | ⟨ha, hb, hx⟩ | ⟨ha, hb, hc, hx⟩
      · have hd1 : decide ((200 : Int) < (n : Int)) = true := by simp; omega
        go_wp2_with fail
        refine (journals_calls w).mono ?_
        rintro e w7 ⟨rfl, hB7⟩
        have H7 := Lib.hid hB7
        clear hB7
        go_wp2
        go_ret
        exact ⟨rfl, H7.out⟩
      · have hd1 : decide ((200 : Int) < (n : Int)) = false := by simp; omega
        have hd2 : decide ((100000 : Int) < (m : Int)) = true := by simp; omega
        go_wp2_with fail
        refine (journals_calls w).mono ?_
        rintro e w7 ⟨rfl, hB7⟩
        have H7 := Lib.hid hB7
        clear hB7
        go_wp2
        go_ret
        exact ⟨rfl, H7.out⟩
      · have hd1 : decide ((200 : Int) < (n : Int)) = false := by simp; omega
        have hd2 : decide ((100000 : Int) < (m : Int)) = false := by simp; omega
        have hd3 : decide ((200 : Int) < (nb : Int)) = true := by simp; omega
        go_wp2_with fail
        refine (journals_calls w).mono ?_
        rintro e w7 ⟨rfl, hB7⟩
        have H7 := Lib.hid hB7
        clear hB7
        go_wp2
        go_ret
        exact ⟨rfl, H7.out⟩
      · have hd1 : decide ((200 : Int) < (n : Int)) = false := by simp; omega
        have hd2 : decide ((100000 : Int) < (m : Int)) = false := by simp; omega
        have hd3 : decide ((200 : Int) < (nb : Int)) = false := by simp; omega
        have hd4 : decide ((200 : Int) < (nc : Int)) = true := by simp; omega
        go_wp2_with fail
        refine (journals_calls w).mono ?_
        rintro e w7 ⟨rfl, hB7⟩
        have H7 := Lib.hid hB7
        clear hB7
        go_wp2
        go_ret
        exact ⟨rfl, H7.out⟩
    obtain ⟨hn, hm, hnb, hnc⟩ := hok
    obtain rfl : i = n := by omega
    have HC : Hid ((∀ s ∈ l, s.length ≤ 60000) ∧ costOf l ≤ 100000) := Lib.hid (by
      have h1 := HM.out
      rw [List.take_of_length_le (by have := HT.out.1.len; omega)] at h1
      exact ⟨h1.2, by omega⟩)
    have hd1 : decide ((200 : Int) < (i : Int)) = false := by simp; omega
    have hd2 : decide ((100000 : Int) < (m : Int)) = false := by simp; omega
    have hd3 : decide ((200 : Int) < (nb : Int)) = false := by simp; omega
    have hd4 : decide ((200 : Int) < (nc : Int)) = false := by simp; omega
    clear hi hin
    go_wp2_with fail
    refine (new_yes 8000 _ (by omega) (by omega)).mono ?_
    rintro e w1 ⟨g, vd, vn, vw, rfl, hD, hB⟩
    have H1 := Lib.hid (And.intro (show DOn w1 w.heap.size g (Dk.new 8000) from ⟨hB.size, vd, vn, vw, hD⟩) hB)
    clear hD hB hd1 hd2 hd3 hd4
    go_wp2_with fail
    refine (open_clean H1.out.1 (Dk.new_clean 8000 (by omega) (by omega)) rfl).mono ?_
    rintro e w2 ⟨jb, vl, d2, rfl, hJ2, hd2, ha2, hl2, ho2, hB2, _⟩
    have H2 := Lib.hid (show PreRel w w2 g jb l 0 0 synced 0 from ⟨⟨d2, hJ2, hd2, fun h => by rw [ha2] at h; (cases h), by rw [hl2]; rfl⟩, H1.out.2.trans hB2⟩)
    clear hJ2 hd2 ha2 hl2 ho2 hB2
    go_upto_block 2 with fail
    go_cut [18, 19] (fun s18 s19 wx => ∃ (i' k : Nat), s18 = .int .i64 (k : Int) ∧ s19 = .int .i64 (i' : Int) ∧ k ≤ i' ∧ i' ≤ i ∧ Hid (PreEnd w wx g jb l i' k))
    case first =>
      go_wp2_with fail
      go_loopg [18, 19, 20] i (fun q s18 s19 s20 wx => ∃ (i' k : Nat), s18 = .int .i64 (k : Int) ∧ s19 = .int .i64 (i' : Int) ∧ s20 = .int .i64 (i' : Int) ∧ i' + q = i ∧ k ≤ i' ∧ Hid (PreRel w wx g jb l i' k synced (i' : Int)))
      case atStart => exact ⟨0, 0, by go_num, by go_num, by go_num, by omega, by omega, H2⟩
      case round =>
        obtain ⟨i', k, rfl, rfl, rfl, hi, hk, hR⟩ := hrel
        by_cases hgo : i' < i
        case neg =>
          have hd1 : decide ((i' : Int) < (i : Int)) = false := by simp; omega
          go_wp2_with fail
          go_meet
          refine ⟨i', k, rfl, rfl, hk, by omega, Lib.hid ⟨?_, hR.out.below⟩⟩
          obtain ⟨d, hJ, _⟩ := hR.out.j
          exact ⟨d, [], .inl rfl, hJ⟩
        have hd1 : decide ((i' : Int) < (i : Int)) = true := by simp; omega
        obtain ⟨s, hs⟩ : ∃ s, l[i']? = some s := ⟨_, List.getElem?_eq_getElem (by have := HT.out.1.len; omega)⟩
        obtain ⟨ad, rfl, hadl, hc1⟩ := HT.out.1.at_.resolve_left (fun e => by rw [e] at hs; cases hs)
        have hb1 : (ad.add i').block = ad.block := by unfold Addr.add; split <;> rfl
        have hcw : w.cell? (ad.add i') = some (.string (bs s)) := hc1 i' s hs
        obtain ⟨S, hS⟩ : ∃ S, S = bs s := ⟨_, rfl⟩
        rw [← hS] at hcw
        have HS := Lib.hid (And.intro hS (And.intro hs (And.intro hb1 hadl)))
        have HCW := Lib.hid hcw
        clear hS hs hc1 hb1 hadl hcw
        go_upto_if 95 with fail
        go_cut [] (fun wx => Hid (PreRel w wx g jb l i' k synced ((i' : Int) + 1)))
        case first =>
          by_cases hsy : (i' : Int) = synced
          · have hd2 : ((i' : Int) == synced) = true := by simpa using hsy
            have HSY := Lib.hid hsy
            clear hsy
            obtain ⟨d, hJ, hdd, hda, hdl⟩ := hR.out.j
            have HJ := Lib.hid (And.intro hJ (And.intro hdd (And.intro hda hdl)))
            clear hJ hdd hda hdl
            go_wp2_with fail
            refine (stop_on HJ.out.1 _ (by unfold wrap64; omega)).mono ?_
            rintro e w3 ⟨rfl, hJ3, hd3, hc3⟩
            have H3 := Lib.hid (show PreRel w w3 g jb l i' k synced ((i' : Int) + 1) from ⟨⟨_, hJ3, hd3.trans HJ.out.2.1, fun _ => by have := HSY.out; omega, by rw [stop_len]; exact HJ.out.2.2.2⟩, hR.out.below.trans (chg_below' HJ.out.1.disk.1 hc3)⟩)
            clear hJ3 hd3 hc3
            go_wp2
            go_meet
            exact H3
          · have hd2 : ((i' : Int) == synced) = false := by simpa using hsy
            go_wp2
            go_meet
            obtain ⟨d, hJ, hdd, hda, hdl⟩ := hR.out.j
            exact Lib.hid ⟨⟨d, hJ, hdd, fun h => by have := hda h; omega, hdl⟩, hR.out.below⟩
        case rest =>
          have HR := hcut
          clear hR hcut
          obtain ⟨d, hJ, hdd, hda, hdl⟩ := HR.out.j
          have HJ := Lib.hid (And.intro hJ (And.intro hdd (And.intro hda hdl)))
          clear hJ hdd hda hdl
          have hsl : s.length ≤ 60000 := HC.out.1 s (List.mem_of_getElem? HS.out.2.1)
          have hroom : (Dk.encs (l.take i')).length + Dk.manyOf s.length ≤ d.now.length := by
            have h1 := encs_cost (l.take (i' + 1))
            have h2 := cost_take l (i' + 1)
            rw [take_snoc HS.out.2.1] at h1 h2
            rw [Dk.encs_append, Dk.encs_one, List.length_append, Dk.length_encR] at h1
            have h3 := HC.out.2
            have h4 := HJ.out.2.2.2
            omega
          have hap := append_up HJ.out.1 HJ.out.2.1 s hsl hroom
          rw [← HS.out.1] at hap
          have HAP := Lib.hid hap
          clear hap hroom hsl
          have hca := HCW.out
          rw [← HR.out.below.cell (by rw [HS.out.2.2.1]; exact HS.out.2.2.2)] at hca
          go_wp2_with fail
          refine HAP.out.mono ?_
          rintro e w3 ⟨d3, hc3, hl3, hor⟩
          have hB3 := Lib.hid (HR.out.below.trans (chg_below HJ.out.1.disk.1 HJ.out.1.low hc3))
          rcases hor with ⟨rfl, hJ3, hd3, ha3⟩ | ⟨ha, rfl, hd3, part, hp, hJ3⟩
          case inr =>
            have H3 := Lib.hid (show PreEnd w w3 g jb l i' k from ⟨⟨d3, part, hp, hJ3⟩, hB3.out⟩)
            have hle := HJ.out.2.2.1 ha
            have hd4 : decide ((i' : Int) < synced) = false := by simp; omega
            clear hJ3 hd3 ha hp hc3 hl3 hca hle
            dsimp only
            go_wp2_with fail
            go_meet
            exact ⟨i', k, rfl, rfl, hk, by omega, H3⟩
          rw [← take_snoc HS.out.2.1] at hJ3
          by_cases hsy : (i' : Int) < synced
          · have hna : d3.armed = false := by
              cases hda : d3.armed with
              | false => rfl
              | true => rw [hda] at ha3; have := HJ.out.2.2.1 ha3.symm; omega
            have hd4 : decide ((i' : Int) < synced) = true := by simp; omega
            have H3 := Lib.hid (And.intro hJ3 (And.intro hd3 (And.intro hna (hl3.trans HJ.out.2.2.2))))
            clear hJ3 hd3 ha3 hc3 hl3 hca hna
            dsimp only
            go_wp2_with fail
            refine (sync_sure H3.out.1 H3.out.2.1 H3.out.2.2.1).mono ?_
            rintro e w4 ⟨rfl, d4, hJ4, hd4', ha4, hl4, hc4⟩
            have hlen : (l.take (i' + 1)).length = i' + 1 := by rw [List.length_take]; have := HT.out.1.len; omega
            rw [hlen] at hJ4
            have H4 := Lib.hid (show PreRel w w4 g jb l (i' + 1) (i' + 1) synced ((i' + 1 : Nat) : Int) from ⟨⟨d4, hJ4, hd4', fun h => by rw [ha4] at h; (cases h), hl4.trans H3.out.2.2.2⟩, hB3.out.trans (chg_below H3.out.1.disk.1 H3.out.1.low hc4)⟩)
            clear hJ4 hd4' ha4 hl4 hc4 hlen
            go_wp2
            go_roundg (gk - 1)
            case measure => omega
            case rel => exact ⟨i' + 1, i' + 1, by go_num, by go_num, by go_num, by omega, Nat.le_refl _, H4⟩
          · have hd4 : decide ((i' : Int) < synced) = false := by simp; omega
            have H3 := Lib.hid (show PreRel w w3 g jb l (i' + 1) k synced ((i' + 1 : Nat) : Int) from ⟨⟨d3, hJ3, hd3, fun h => by rw [ha3] at h; have := HJ.out.2.2.1 h; omega, hl3.trans HJ.out.2.2.2⟩, hB3.out⟩)
            clear hJ3 hd3 ha3 hc3 hl3 hca
            dsimp only
            go_wp2
            go_roundg (gk - 1)
            case measure => omega
            case rel => exact ⟨i' + 1, k, rfl, by go_num, by go_num, by omega, by omega, H3⟩
    case rest =>
      obtain ⟨i', k, rfl, rfl, hk, hi', hE⟩ := hcut
      obtain ⟨d, part, hp, hJ⟩ := hE.out.j
      have HJ := Lib.hid (And.intro hp hJ)
      clear hp hJ hmost hm hnb hnc HM
      have hbk := hE.out.below
      go_wp2_with fail
      refine (crash_on B nb cb one HJ.out.2.disk HT.out.2.2.1.1 (fun v hv => KeepAt_of HT.out.2.2.1 hbk v hv)).mono ?_
      rintro e w5 ⟨rfl, hD5, hc5⟩
      obtain ⟨q, hq1, hq2, hcl⟩ := Dk.Core.crash HJ.out.2.core HJ.out.1 one
      have hqi : q ≤ i' := by rw [List.length_take] at hq2; omega
      rw [List.take_take, Nat.min_eq_left hqi] at hcl
      have hB5 := hbk.trans (chg_below' HJ.out.2.disk.1 hc5)
      have H5 := Lib.hid (And.intro hD5 (And.intro hcl hB5))
      clear hD5 hc5 hq2 hcl hB5 hbk
      go_wp2_with fail
      refine (open_clean H5.out.1 H5.out.2.1 rfl).mono ?_
      rintro e w6 ⟨jb2, vl2, d6, rfl, hJ6, hd6, ha6, hl6, ho6, hB6, hc6⟩
      obtain ⟨A6, c6, rfl, hT6⟩ := own_texts ho6 rfl
      have hlq : (l.take q).length = q := by rw [List.length_take]; have := HT.out.1.len; omega
      rw [hlq] at hT6 hJ6 ho6 ⊢
      have H6 := Lib.hid (And.intro hJ6 (And.intro ho6 (H5.out.2.2.trans hB6)))
      clear hJ6 hd6 ha6 hl6 ho6 hB6 hc6 hT6
      dsimp only
      go_wp2_with fail
      refine (crash_on C nc cc two H6.out.1.disk HT.out.2.2.2.1 (fun v hv => KeepAt_of HT.out.2.2.2 H6.out.2.2 v hv)).mono ?_
      rintro e w7 ⟨rfl, hD7, hc7⟩
      obtain ⟨q2, hq3, hq4, hcl⟩ := Dk.Core.crash H6.out.1.core (.inl rfl) two
      rw [List.take_of_length_le (by omega)] at hcl
      have H7 := Lib.hid (And.intro hD7 (And.intro hcl (And.intro (str_keep H6.out.2.1 hc7) (H6.out.2.2.trans (chg_below' H6.out.1.disk.1 hc7)))))
      clear hD7 hc7 hq3 hq4 hcl
      go_wp2_with fail
      refine (open_clean H7.out.1 H7.out.2.1 rfl).mono ?_
      rintro e w8 ⟨jb3, vl3, d8, rfl, hJ8, hd8, ha8, hl8, ho8, hB8, hc8⟩
      obtain ⟨A8, c8, rfl, hT8⟩ := own_texts ho8 rfl
      obtain ⟨_, _, hv, hTw⟩ := own_texts (str_keep H7.out.2.2.1 hc8) hlq.symm
      obtain ⟨rfl, _, rfl⟩ : A6 = _ ∧ q = q ∧ c6 = _ := by injection hv with h1 h2 h3; exact ⟨h1, h2, h3⟩
      rw [hlq] at hT8 ⊢
      have H8 := Lib.hid (And.intro hT8 (And.intro hTw (H7.out.2.2.2.trans hB8)))
      clear hJ8 hd8 ha8 hl8 ho8 hB8 hc8 hT8 hTw hv
      have hd1 : decide ((q : Int) < (k : Int)) = false := by simp; omega
      have hd2 : decide ((i' : Int) + 1 < (q : Int)) = false := by simp; omega
      have hd3 : decide ((i : Int) < (q : Int)) = false := by simp; omega
      have hqc : q ≤ c := by have := HT.out.2.1; omega
      dsimp only
      go_wp2_with fail
      refine (journals_calls w8).mono ?_
      rintro e w9 ⟨rfl, hB9⟩
      have H9 := Lib.hid hB9
      clear hB9
      go_wp2_with fail
      have hb9 := H8.out.2.2.trans (H9.out.mono H8.out.2.2.size)
      refine (same_calls _ _ _ _ _ _ (l.take q) (l.take q) w9 (H8.out.2.1.below H9.out) ((HT.out.1.take q (by omega)).below hb9)).mono ?_
      rintro e w10 ⟨rfl, hc10⟩
      have hdt : decide (l.take q = l.take q) = true := by simp
      rw [hdt]
      have H10 := Lib.hid (And.intro (H9.out.trans (hc10.below (fun _ h => h.elim) (Nat.le_refl _) |>.mono H9.out.size)) (hb9.trans (hc10.below (fun _ h => h.elim) hb9.size)))
      clear hc10 hb9
      dsimp only
      go_wp2_with fail
      refine (same_calls _ _ _ _ _ _ (l.take q) (l.take q) w10 (H8.out.1.below H10.out.1) (H8.out.2.1.below H10.out.1)).mono ?_
      rintro e w11 ⟨rfl, hc11⟩
      have hdt2 : decide (l.take q = l.take q) = true := decide_eq_true rfl
      rw [hdt2]
      have H11 := Lib.hid (H10.out.2.trans (hc11.below (fun _ h => h.elim) H10.out.2.size))
      clear hc11
      dsimp only
      go_wp2
      go_ret
      exact ⟨rfl, H11.out⟩

end Go.Proofs.Ytdnjelggdjimhaa
