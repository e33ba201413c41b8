/-
  Between two changes nothing changes: the law's walk. PeopleStays: between two changes nothing changes (lists of at most 60 entries); the law returns true and leaves its argument as it was. No condition of ours; the library's variables that the row lists hold what the row says.
-/
import Derived.Test.YtnphlekailodkaaGreatDoorCl
import Derived.Test.YtnphlekailodkaaGreatDoorLw
import Derived.Test.YtnphlekailodkaaGreatDoorCards
import Derived.Test.YtnphlekailodkaaGreatDoorTie
import Derived.Test.YtnphlekailodkaaGreatDoorRk
import Derived.SizedLaws
import Derived.SevenTiedAt
namespace Go.Proofs.YtnphlekailodkaaGreatDoor
open Go.RowKit

set_option maxRecDepth 1000000 in
set_option maxHeartbeats 16000000 in
theorem stays_law (A : Option Addr) (n c : Nat) (l : List Pe.Ent) (p d : Int) (w : World) (h : EntsAt w A n l) (hL : Laid w) :
    Calls Tryz.prog 12 #[.slice A n c, .int .i64 p, .int .i64 d] w (Law w) := by
  have H := Lib.hid (And.intro h hL)
  clear h hL
  have hfe := fun w0 => Few_calls A n c w0
  have HFE := Lib.hid hfe
  clear hfe
  go_enter Tryz.func12, Tryz.ntmps12
  go_wp2_with fail
  refine (HFE.out w).mono ?_
  rintro e w2 ⟨rfl, rfl⟩
  by_cases hfew : n ≤ 60
  case neg =>
    rw [show decide (n ≤ 60) = false by simpa using hfew]
    dsimp only
    clear hfew
    go_wp2_with fail
    refine (alive_calls w2 (H.out.2.below (Below.refl w2.heap.size w2))).mono ?_
    rintro e wy ⟨rfl, hby⟩
    have HY := Lib.hid (((Below.refl w2.heap.size w2)).trans (hby.mono ((Below.refl w2.heap.size w2)).size))
    clear hby
    dsimp only
    go_wp2
    go_ret
    exact ⟨rfl, HY.out⟩
  rw [show decide (n ≤ 60) = true by simpa using hfew]
  dsimp only
  have hn : n ≤ 50000 := by omega
  by_cases hd1 : d < 1
  · have q1 : decide (d < 1) = true := by simpa using hd1
    clear hd1
    go_wp2_with fail
    refine (alive_calls w2 (H.out.2.below (Below.refl w2.heap.size w2))).mono ?_
    rintro e wy ⟨rfl, hby⟩
    have HY := Lib.hid (((Below.refl w2.heap.size w2)).trans (hby.mono ((Below.refl w2.heap.size w2)).size))
    clear hby
    dsimp only
    go_wp2
    go_ret
    exact ⟨rfl, HY.out⟩
  have q1 : decide (d < 1) = false := by simpa using hd1
  by_cases hd2 : 100000 < d
  · have q2 : decide (100000 < d) = true := by simpa using hd2
    clear hd1 hd2
    go_wp2_with fail
    refine (alive_calls w2 (H.out.2.below (Below.refl w2.heap.size w2))).mono ?_
    rintro e wy ⟨rfl, hby⟩
    have HY := Lib.hid (((Below.refl w2.heap.size w2)).trans (hby.mono ((Below.refl w2.heap.size w2)).size))
    clear hby
    dsimp only
    go_wp2
    go_ret
    exact ⟨rfl, HY.out⟩
  have q2 : decide (100000 < d) = false := by simpa using hd2
  have hw1 : IntKind.i64.wrap (d - 1) = d - 1 := by simp [IntKind.wrap, IntKind.bits, IntKind.signed]; omega
  have hch := Changes_calls A n c l p w2 H.out.1 hn
  have hst := fun hh => Pe.stays (l := l) (p := p) (d := d) (by omega) (by omega) hh
  have hcl := Pe.changes_length l p
  have hln := H.out.1.len
  obtain ⟨cs, hcs⟩ : ∃ cs, cs = Pe.changes l p := ⟨_, rfl⟩
  rw [← hcs] at hch hst hcl
  obtain ⟨cn, hcn⟩ : ∃ cn, cn = cs.length := ⟨_, rfl⟩
  rw [← hcn] at hch hcl
  have hcm : cn ≤ 1000000 := by omega
  have HC := Lib.hid hch
  have HS := Lib.hid (And.intro hst hcn)
  clear hch hst hcl hcs hcn hd1 hd2 hln
  go_wp2_with fail
  refine HC.out.mono ?_
  rintro e w3 ⟨v, rfl, hown, hb⟩
  obtain ⟨A3, c3, rfl, hN⟩ := own_nums hown HS.out.2
  have H3 := Lib.hid (And.intro hb hN)
  clear hb hown hN
  dsimp only
  go_wp2_with fail
  go_loopg [33] cn (fun q s33 wr => ∃ i : Nat, s33 = .int .i64 (i : Int) ∧ i + q = cn ∧ Hid (Below w2.heap.size w2 wr ∧ NumsAt wr A3 cn cs ∧ d ∉ cs.take i))
  case atStart => exact ⟨0, by go_num, by omega, Lib.hid ⟨H3.out.1, H3.out.2, by simp⟩⟩
  case round =>
    obtain ⟨i, rfl, hi, hR⟩ := hrel
    by_cases hgo : i < cn
    case pos =>
      have hd1 : decide ((i : Int) < (cn : Int)) = true := by simp; omega
      obtain ⟨y, ad, hy, rfl, hcy⟩ := hR.out.2.1.one hgo
      have HY := Lib.hid hy
      clear hy
      by_cases hyd : y = d
      · have q3 : (y == d) = true := by simpa using hyd
        clear hyd
        go_wp2_with fail
        refine (alive_calls wr (H.out.2.below hR.out.1)).mono ?_
        rintro e wy ⟨rfl, hby⟩
        have HY := Lib.hid ((hR.out.1).trans (hby.mono (hR.out.1).size))
        clear hby
        dsimp only
        go_wp2
        go_ret
        exact ⟨rfl, HY.out⟩
      have q3 : (y == d) = false := by simpa using hyd
      have HYD := Lib.hid hyd
      clear hyd
      go_wp2
      go_roundg (gk - 1)
      case measure => omega
      case rel =>
        refine ⟨i + 1, by go_num, by omega, Lib.hid ⟨hR.out.1, hR.out.2.1, fun hm => ?_⟩⟩
        rw [List.take_add_one, HY.out] at hm
        rcases List.mem_append.1 hm with hm | hm
        · exact hR.out.2.2 hm
        · simp at hm
          exact HYD.out hm.symm
    have hd1 : decide ((i : Int) < (cn : Int)) = false := by simp; omega
    have heq : Pe.st l p d = Pe.st l p (d - 1) := HS.out.1 (by
      have h1 := hR.out.2.2
      rwa [List.take_of_length_le (by have := HS.out.2; omega)] at h1)
    obtain ⟨S, hS⟩ : ∃ S, S = Pe.st l p d := ⟨_, rfl⟩
    rw [← hS] at heq
    have h11 := fun w0 (hb : Below w2.heap.size w2 w0) => Names_calls A n c l p d w0 (H.out.1.below hb) (by omega)
    have h12 := fun w0 (hb : Below w2.heap.size w2 w0) => Names_calls A n c l p (d - 1) w0 (H.out.1.below hb) (by omega)
    have h21 := fun w0 (hb : Below w2.heap.size w2 w0) => Places_calls A n c l p d w0 (H.out.1.below hb) (by omega)
    have h22 := fun w0 (hb : Below w2.heap.size w2 w0) => Places_calls A n c l p (d - 1) w0 (H.out.1.below hb) (by omega)
    have h31 := fun w0 (hb : Below w2.heap.size w2 w0) => Home_calls A n c l p d w0 (H.out.1.below hb)
    have h32 := fun w0 (hb : Below w2.heap.size w2 w0) => Home_calls A n c l p (d - 1) w0 (H.out.1.below hb)
    have h41 := fun w0 (hb : Below w2.heap.size w2 w0) => Heir_calls A n c l p d w0 (H.out.1.below hb)
    have h42 := fun w0 (hb : Below w2.heap.size w2 w0) => Heir_calls A n c l p (d - 1) w0 (H.out.1.below hb)
    have h51 := fun w0 (hb : Below w2.heap.size w2 w0) => Dead_calls A n c l p d w0 (H.out.1.below hb)
    have h52 := fun w0 (hb : Below w2.heap.size w2 w0) => Dead_calls A n c l p (d - 1) w0 (H.out.1.below hb)
    have hln := H.out.1.len
    have hl1 : S.names.length ≤ 1000000 := by rw [hS]; have := Pe.gatherS_length (fun x => x.kind == 1 && x.person == p && x.on d) l; show (Pe.names l p d).length ≤ _; unfold Pe.names; omega
    have hl2 : S.places.length ≤ 1000000 := by
      rw [hS]
      show (Pe.places l p d).length ≤ _
      have h1 := List.length_filter_le (fun c : Pe.Pair => c.1 == p) (Pe.pairs l d)
      have h2 := Pe.pairs_length l d
      unfold Pe.places
      rw [List.length_map]
      omega
    rw [show Pe.names l p d = S.names by rw [hS]; rfl] at h11
    rw [show Pe.names l p (d - 1) = S.names by rw [heq]; rfl] at h12
    rw [show Pe.places l p d = S.places by rw [hS]; rfl] at h21
    rw [show Pe.places l p (d - 1) = S.places by rw [heq]; rfl] at h22
    rw [show Pe.home? l p d = S.home by rw [hS]; rfl] at h31
    rw [show Pe.home? l p (d - 1) = S.home by rw [heq]; rfl] at h32
    rw [show Pe.heir? l p d = S.heir by rw [hS]; rfl] at h41
    rw [show Pe.heir? l p (d - 1) = S.heir by rw [heq]; rfl] at h42
    rw [show Pe.dead l p d = S.dead by rw [hS]; rfl] at h51
    rw [show Pe.dead l p (d - 1) = S.dead by rw [heq]; rfl] at h52
    clear hS heq hln
    obtain ⟨D, hD⟩ : ∃ D, D = S.dead := ⟨_, rfl⟩
    obtain ⟨hm, hhm⟩ : ∃ hm, hm = S.home.getD 0 := ⟨_, rfl⟩
    obtain ⟨hz, hhz⟩ : ∃ hs, hs = S.home.isSome := ⟨_, rfl⟩
    obtain ⟨xm, hxm⟩ : ∃ xm, xm = S.heir.getD 0 := ⟨_, rfl⟩
    obtain ⟨xz, hxz⟩ : ∃ xs, xs = S.heir.isSome := ⟨_, rfl⟩
    rw [← hD] at h51 h52
    rw [← hhm, ← hhz] at h31 h32
    rw [← hxm, ← hxz] at h41 h42
    obtain ⟨ns, hns⟩ : ∃ x, x = S.names := ⟨_, rfl⟩
    obtain ⟨ps, hps⟩ : ∃ x, x = S.places := ⟨_, rfl⟩
    rw [← hns] at h11 h12 hl1
    rw [← hps] at h21 h22 hl2
    obtain ⟨nn, hnn⟩ : ∃ x, x = ns.length := ⟨_, rfl⟩
    obtain ⟨pn, hpn⟩ : ∃ x, x = ps.length := ⟨_, rfl⟩
    rw [← hnn] at h11 h12 hl1
    rw [← hpn] at h21 h22 hl2
    have HQ := Lib.hid (And.intro hnn hpn)
    have HK := Lib.hid (And.intro h11 (And.intro h12 (And.intro h21 (And.intro h22 (And.intro h31 (And.intro h32 (And.intro h41 (And.intro h42 (And.intro h51 h52)))))))))
    clear h11 h12 h21 h22 h31 h32 h41 h42 h51 h52 hD hhm hhz hxm hxz hns hps hnn hpn
    go_wp2_with fail
    refine ((HK.out.2.2.2.2.1 _ hR.out.1)).mono ?_
    rintro e w4 ⟨rfl, hb⟩
    have H4 := Lib.hid (Below.trans (hR.out.1) (Below.mono hb (Below.size hR.out.1)))
    clear hb
    dsimp only
    go_wp2_with fail
    refine ((HK.out.2.2.2.2.2.1 _ H4.out)).mono ?_
    rintro e w5 ⟨rfl, hb⟩
    have H5 := Lib.hid (Below.trans (H4.out) (Below.mono hb (Below.size H4.out)))
    clear hb
    dsimp only
    go_wp2_with fail
    refine ((HK.out.2.2.2.2.2.2.1 _ H5.out)).mono ?_
    rintro e w6 ⟨rfl, hb⟩
    have H6 := Lib.hid (Below.trans (H5.out) (Below.mono hb (Below.size H5.out)))
    clear hb
    dsimp only
    go_wp2_with fail
    refine ((HK.out.2.2.2.2.2.2.2.1 _ H6.out)).mono ?_
    rintro e w7 ⟨rfl, hb⟩
    have H7 := Lib.hid (Below.trans (H6.out) (Below.mono hb (Below.size H6.out)))
    clear hb
    dsimp only
    have e1 : (hm != hm) = false := by simp
    have e2 : (hz != hz) = false := by simp
    have e3 : (xm != xm) = false := by simp
    have e4 : (xz != xz) = false := by simp
    have e5 : (D != D) = false := by simp
    go_wp2_with fail
    refine ((HK.out.2.2.2.2.2.2.2.2.1 _ H7.out)).mono ?_
    rintro e w8 ⟨rfl, hb⟩
    have H8 := Lib.hid (Below.trans (H7.out) (Below.mono hb (Below.size H7.out)))
    clear hb
    dsimp only
    go_wp2_with fail
    refine ((HK.out.2.2.2.2.2.2.2.2.2 _ H8.out)).mono ?_
    rintro e w9 ⟨rfl, hb⟩
    have H9 := Lib.hid (Below.trans (H8.out) (Below.mono hb (Below.size H8.out)))
    clear hb
    dsimp only
    go_wp2_with fail
    refine (alive_calls w9 (H.out.2.below H9.out)).mono ?_
    rintro e w10 ⟨rfl, hb⟩
    have H10 := Lib.hid (H9.out.trans (hb.mono H9.out.size))
    clear hb
    dsimp only
    go_wp2_with fail
    refine (HK.out.1 _ H10.out).mono ?_
    rintro e w11 ⟨v, rfl, hown, hb⟩
    obtain ⟨A11, c11, rfl, hN⟩ := own_strs hown (HQ.out.1)
    have H11 := Lib.hid (And.intro (Below.trans (H10.out) (Below.mono hb (Below.size H10.out))) (And.intro hN hb))
    clear hb hown hN
    dsimp only
    go_wp2_with fail
    refine (HK.out.2.1 _ H11.out.1).mono ?_
    rintro e w12 ⟨v, rfl, hown, hb⟩
    obtain ⟨A12, c12, rfl, hN⟩ := own_strs hown (HQ.out.1)
    have H12 := Lib.hid (And.intro (Below.trans (H11.out.1) (Below.mono hb (Below.size H11.out.1))) (And.intro hN hb))
    clear hb hown hN
    dsimp only
    have hs1 := rSameStrings_calls A11 A12 nn c11 nn c12 ns ns w12 (H11.out.2.1.below H12.out.2.2) H12.out.2.1 hl1
    rw [decide_eq_true rfl] at hs1
    have HSS := Lib.hid hs1
    clear hs1
    go_wp2_with fail
    refine (HSS.out).mono ?_
    rintro e w13 ⟨rfl, hb⟩
    have H13 := Lib.hid (Below.trans (H12.out.1) (Below.mono hb (Below.size H12.out.1)))
    clear hb
    dsimp only
    go_wp2_with fail
    refine (HK.out.2.2.1 _ H13.out).mono ?_
    rintro e w14 ⟨v, rfl, hown, hb⟩
    obtain ⟨A14, c14, rfl, hN⟩ := own_nums hown (HQ.out.2)
    have H14 := Lib.hid (And.intro (Below.trans (H13.out) (Below.mono hb (Below.size H13.out))) (And.intro hN hb))
    clear hb hown hN
    dsimp only
    go_wp2_with fail
    refine (HK.out.2.2.2.1 _ H14.out.1).mono ?_
    rintro e w15 ⟨v, rfl, hown, hb⟩
    obtain ⟨A15, c15, rfl, hN⟩ := own_nums hown (HQ.out.2)
    have H15 := Lib.hid (And.intro (Below.trans (H14.out.1) (Below.mono hb (Below.size H14.out.1))) (And.intro hN hb))
    clear hb hown hN
    dsimp only
    have hs1 := rSameInts_calls A14 A15 pn c14 pn c15 ps ps w15 (H14.out.2.1.below H15.out.2.2) H15.out.2.1 hl2
    rw [decide_eq_true rfl] at hs1
    have HSI := Lib.hid hs1
    clear hs1
    go_wp2_with fail
    refine (HSI.out).mono ?_
    rintro e w16 ⟨rfl, hb⟩
    have H16 := Lib.hid (Below.trans (H15.out.1) (Below.mono hb (Below.size H15.out.1)))
    clear hb
    dsimp only
    go_wp2
    go_ret
    exact ⟨rfl, H16.out⟩

end Go.Proofs.YtnphlekailodkaaGreatDoor

namespace Go.Proofs.YtnphlekailodkaaGreatDoor.peopleStays
open Go.ChangeShapes Go.WideShapes Go.ChangeAt Go.RowKit Go.Deep
set_option linter.unusedVariables false

theorem own : ownKnob Tryz.prog.godebug = none := by kernel_rfl
theorem laidOut : laidOutB Tryz.prog = true := by kernel_rfl

set_option maxRecDepth 100000 in
set_option maxHeartbeats 1000000 in
theorem lifted (os : Os) (started : os.Started) (H : Type) (enc : TypeId × Value → H) :
    ReturnsInHanded {} Tryz.checked os 12 .any (fun w args => (Rows.peopleStaysSpec.pre enc Tryz.prog Tryz.f12 Rows.peopleStaysRow.domain false w args ∧ laidMetH Tryz.prog Rows.peopleStaysRow.laid w) ∧ sizedMet enc Tryz.prog Tryz.f12 (OpenSpec.ofChange Rows.peopleStaysSpec) false w args)
      (Rows.peopleStaysSpec.post enc Tryz.prog Tryz.f12 false true false false) := by
  refine returnsInHanded_of_change_and (C := Tryz.checked) (X := fun w _ => laidMetH Tryz.prog Rows.peopleStaysRow.laid w) (fun _ _ _ hh h => h.of_heap hh) own started (by kernel_rfl) Tryz.func12
    (ChangeSpec.witness_at (enc := enc) (C := Tryz.checked) (os := os) (X := fun w _ => laidMetH Tryz.prog Rows.peopleStaysRow.laid w) false (laidWorld os) #[.slice none 0 0, .int .i64 0, .int .i64 0] 8 rfl (by kernel_rfl) (by kernel_rfl) (by kernel_rfl) (by kernel_rfl) (by kernel_rfl) (laid_met os _)) ?_
  intro W base args ds gs before hval0 hW _ hsz0 hL0 _
  have hL : Laid W := laid_of hL0
  have hsz : (DataW.weightsEach Tryz.prog (Tryz.f12.params.toList ++ Rows.peopleStaysSpec.plain.varTypes Tryz.prog) (ds ++ gs)).all (· ≤ reachBytes) = true := hsz0
  have hval : ∀ (j : Nat) t v, Tryz.f12.params[j]? = some t → args[j]? = some v → Value.okWide Tryz.prog W .any base t v := hval0
  have hW' := hW
  obtain ⟨p, q, hA0, hV, rfl, hfz, hnd⟩ := hW
  have hA : DataW.TrodAll enc Tryz.prog W 0 (fun _ => true) true Tryz.f12.params.toList args.toList ds p := hA0
  rw [Tryz.params12] at hA hval hsz
  obtain ⟨v0, vs0, d0, ds0, p0, q0, hargs, rfl, rfl, h0, r0⟩ := trodAll_cons hA
  obtain ⟨v1, vs1, d1, ds1, p1, q1, rfl, rfl, rfl, h1, r1⟩ := trodAll_cons r0
  obtain ⟨v2, vs2, d2, ds2, p2, q2, rfl, rfl, rfl, h2, r2⟩ := trodAll_cons r1
  obtain ⟨rfl, rfl, rfl⟩ := trodAll_nil r2
  obtain rfl : args = #[v0, v1, v2] := by cases args; simp_all
  obtain ⟨rfl, rfl⟩ := trodVars_none hV
  obtain ⟨A0, n0, c0, rfl⟩ := okWide_slice Tryz.underlying22 (hval 0 22 v0 rfl rfl)
  have k0 := h0
  have lt0 : ∀ x ∈ p0, x.block < W.heap.size := by obtain ⟨m, hm⟩ := k0; exact DataW.trod_lt m _ _ _ hm
  obtain ⟨l0, hE0, hnc0, hAn0⟩ : ∃ l, EntsAt W A0 n0 l ∧ n0 ≤ c0 ∧ (A0 = none → n0 = 0 ∧ c0 = 0) := by
    obtain ⟨fuel, hf⟩ := h0
    exact ents_in hf
  have hbytes0 : n0 * 88 ≤ 140737488355328 := by
    obtain ⟨fuel, hf⟩ := h0
    rcases open_slice Tryz.underlying22 hf with ⟨hcs, _⟩ | ⟨a, len, cap, m, n', D, Pl, hcs, hb, hl, hm, hmm, hx, hi⟩
    · cases hcs; omega
    · cases hcs
      cases hx
      have hs := sized_slice hsz (j := 0) (t := 22) (e := 31) rfl rfl Tryz.underlying22
      rw [show Tryz.prog.bytesOf 31 = 88 by kernel_rfl] at hs
      simp only [List.length_map, List.length_range, reachBytes] at hs
      omega
  obtain ⟨a1, rfl, rfl, rfl, w1⟩ := open_int Tryz.underlying3 (hval 1 3 v1 rfl rfl) h1
  obtain ⟨a2, rfl, rfl, rfl, w2⟩ := open_int Tryz.underlying3 (hval 2 3 v2 rfl rfl) h2
  clear hA0 hval0
  refine (stays_law A0 n0 c0 l0 a1 a2 W hE0 hL).mono fun e W' ⟨he, bel⟩ => ?_
  subst he
  exact ⟨_, rfl, _, _, _, [], _, [], hW', trodAll_mk1 (shut_bool Tryz.underlying4 _), (trodAll_cons_mk (Below.trod laidOut (by kernel_rfl) (of_decide_eq_true (by kernel_rfl)) k0 bel lt0) (trodAll_cons_mk (shut_int Tryz.underlying3 w1) (trodAll_cons_mk (shut_int Tryz.underlying3 w2) trodAll_mk0))), rfl, bel.frame _, fun h => by cases h⟩

theorem over : Rows.PeopleStaysSaid :=
  OpenClaim.holds_of_wide 12 Tryz.f12 rfl rfl rfl rfl rfl rfl rfl ⟨rfl, rfl, rfl, rfl, rfl⟩ rfl rfl rfl rfl rfl (by kernel_rfl) Tryz.func12 (by kernel_rfl)
    (of_decide_eq_true (by kernel_rfl)) (by unfold Func.isWrapper; first | (rw [if_pos (by decide +kernel)]; kernel_rfl) | (rw [if_neg (by decide +kernel)]; exact ⟨rfl, rfl⟩))
    (fun os started H enc _ => lifted os started H enc)

/-- ████ THE STATEMENT ████ -/
theorem proved : Rows.PeopleStaysCardSaid :=
  Claim7.holds_tied_plain_at .later [] [.data, .data, .data, .sentinel, .sentinel] true (true, "e94c224d259d7d68563a559e2eeda0c04d477e56aaefc5e5d429c3bc99e6f494") true
    over (fun _ h => by cases h) (by kernel_rfl) (fun _ h => by cases h) peopleStays_row_tie rfl ⟨rfl, rfl⟩ (by kernel_rfl) rfl
    (fun f fn hf hfn => by
      obtain rfl : f = 12 := Option.some.inj ((show Tryz.prog.funcNamed "restante/restantelaw03.PeopleStays" = some 12 by kernel_rfl).symm.trans hf) |>.symm
      obtain rfl : fn = Tryz.f12 := (Option.some.inj (Tryz.func12.symm.trans hfn)).symm
      exact ⟨by kernel_rfl, fun j t ht => by
        rw [Tryz.params12] at ht
        rcases j with _ | _ | _ | j
        · obtain rfl : t = 22 := by simpa using ht.symm
          exact (show Tryz.prog.wantsStandIn 22 = false by kernel_rfl)
        · obtain rfl : t = 3 := by simpa using ht.symm
          exact (show Tryz.prog.wantsStandIn 3 = false by kernel_rfl)
        · obtain rfl : t = 3 := by simpa using ht.symm
          exact (show Tryz.prog.wantsStandIn 3 = false by kernel_rfl)
        · simp at ht⟩)
    (by kernel_rfl)
#print axioms proved
end Go.Proofs.YtnphlekailodkaaGreatDoor.peopleStays
