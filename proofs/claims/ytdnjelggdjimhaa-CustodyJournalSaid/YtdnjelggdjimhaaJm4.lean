/-
  A journal and its reference side by side: append2; light.
-/
import Derived.Test.YtdnjelggdjimhaaJm3
namespace Go.Proofs.Ytdnjelggdjimhaa
open Go.RowKit

theorem core_len {d : Dk.D} {rs : List (List UInt8)} {k : Nat} {part : List Dk.Sec} (h : Dk.Core d rs k part) : rs.length ≤ 65536 ∧ costJ rs ≤ 262144 := by
  have h1 := h.room
  have h2 := h.ok.same
  have h3 := h.ok.many
  have h4 := Dk.length_encs rs
  have h5 := costJ_encs rs
  rw [List.length_append] at h1
  omega

/-- A journal on its disk and its reference. -/
structure JSt (w : World) (base g jb m : Nat) (d : Dk.D) (rs : List (List UInt8)) (k : Nat) : Prop where
  j : ∃ part, Dk.PartOf part ∧ (d.down = false → part = []) ∧ JOn w base g jb d rs k part
  m : ∃ vr failed P, MJat w base m vr rs k failed P

set_option maxRecDepth 100000 in
set_option maxHeartbeats 2000000 in
theorem append2_calls {base g jb m : Nat} {w : World} {d : Dk.D} {rs : List (List UInt8)} {k : Nat} (s : List UInt8) (h : JSt w base g jb m d rs k) (half : Nat) (hh : half = d.now.length / 2) (hs : s.length ≤ 61000) :
    Calls Try.prog 26 #[.pointer (some ⟨g, 0, none⟩), .pointer (some ⟨jb, 0, none⟩), .pointer (some ⟨m, 0, none⟩), .string (bs s), .int .i64 (costJ rs : Int), .int .i64 (half : Int)] w fun e w' => e = .returned (.bool true) ∧ Below base w w' ∧
      ∃ d' rs', JSt w' base g jb m d' rs' k ∧ d'.now.length = d.now.length := by
  obtain ⟨⟨part, hp, hpd, hJ⟩, vr, failed, P, hM⟩ := h
  obtain ⟨hlen, hcm⟩ := core_len hJ.core
  obtain ⟨_, vd, vn, vw, hD⟩ := hJ.disk
  have hg3 : w.cell? ⟨g, 3, none⟩ = some (.bool d.down) := hD.blk.cell 3
  have hb := hJ.disk.1
  obtain ⟨S, hS⟩ : ∃ S, S = bs s := ⟨_, rfl⟩
  have hSz : S.size = s.length := by rw [hS, bs_size]
  obtain ⟨sl, hsl⟩ : ∃ sl, sl = s.length := ⟨_, rfl⟩
  obtain ⟨cc, hcc⟩ : ∃ cc, cc = costJ rs := ⟨_, rfl⟩
  rw [← hS, ← hcc]
  rw [← hsl] at hSz
  have H := Lib.hid (And.intro hp (And.intro hpd (And.intro hJ (And.intro hM (And.intro hlen (And.intro hb (And.intro hS (And.intro hsl (And.intro hh hcc)))))))))
  rw [← hcc] at hcm
  have hsl61 : sl ≤ 61000 := by rw [hsl]; exact hs
  have hhalf : half ≤ 65536 := by have := hD.ok.many; omega
  clear hp hpd hJ hM hlen hb hS hsl hh hD hcc hs
  by_cases hbig : 60000 < sl
  · -- too long
    have hd1 : decide ((60000 : Int) < (sl : Int)) = true := by simp; omega
    have hap := append_not H.out.2.2.1 s (by rw [← H.out.2.2.2.2.2.2.2.1]; omega) (.inl (by rw [← H.out.2.2.2.2.2.2.2.1]; exact hbig))
    rw [← H.out.2.2.2.2.2.2.1] at hap
    have HA := Lib.hid hap
    clear hap
    go_enter Try.func26, Try.ntmps26
    go_wp2_with fail
    refine (down_calls g _ _ hg3).mono ?_
    rintro e w1 ⟨rfl, rfl⟩
    dsimp only
    go_wp2_with fail
    refine HA.out.mono ?_
    rintro e w1 ⟨hJ1, hc1, hor⟩
    rcases hor with ⟨_, rfl⟩ | ⟨hx, _⟩ | ⟨hx, _⟩
    · have H1 := Lib.hid (And.intro hJ1 hc1)
      clear hJ1 hc1
      dsimp only
      go_wp2
      go_ret
      exact ⟨rfl, below_0 H.out.2.2.2.2.2.1 H1.out.2, d, rs, ⟨⟨part, H.out.1, H.out.2.1, H1.out.1⟩, vr, failed, P, H.out.2.2.2.1.keep H1.out.2 (fun h => h) (fun _ _ h => h)⟩, rfl⟩
    · rw [← H.out.2.2.2.2.2.2.2.1] at hx; omega
    · rw [← H.out.2.2.2.2.2.2.2.1] at hx; omega
  have hd1 : decide ((60000 : Int) < (sl : Int)) = false := by simp; omega
  cases hdn : d.down
  case true =>
    rw [hdn] at hg3
    have hap := append_not H.out.2.2.1 s (by rw [← H.out.2.2.2.2.2.2.2.1]; omega) (.inr (.inl hdn))
    rw [← H.out.2.2.2.2.2.2.1] at hap
    have HA := Lib.hid (And.intro hap hdn)
    clear hap hdn
    go_enter Try.func26, Try.ntmps26
    go_wp2_with fail
    refine (down_calls g _ _ hg3).mono ?_
    rintro e w1 ⟨rfl, rfl⟩
    dsimp only
    go_wp2_with fail
    refine HA.out.1.mono ?_
    rintro e w1 ⟨hJ1, hc1, hor⟩
    rcases hor with ⟨hx, _⟩ | ⟨_, _, rfl⟩ | ⟨_, hx, _⟩
    · rw [← H.out.2.2.2.2.2.2.2.1] at hx; omega
    · have hM1 := H.out.2.2.2.1.keep hc1 (fun h => h) (fun _ _ h => h)
      have H1 := Lib.hid (And.intro hJ1 (And.intro hc1 hM1))
      clear hJ1 hc1 hM1
      have hma := mAppend_down s H1.out.2.2
      rw [← H.out.2.2.2.2.2.2.1] at hma
      have HMA := Lib.hid hma
      clear hma
      dsimp only
      go_wp2_with fail
      refine HMA.out.mono ?_
      rintro e w2 ⟨rfl, ⟨failed', P', hM2⟩, hc2⟩
      have hJ2 := H1.out.1.keepM H1.out.2.2 (chg_m hc2)
      obtain ⟨_, vd2, vn2, vw2, hD2⟩ := hJ2.disk
      have hg32 : w2.cell? ⟨g, 3, none⟩ = some (.bool true) := by rw [← HA.out.2]; exact hD2.blk.cell 3
      have H2 := Lib.hid (And.intro hM2 (And.intro hJ2 (H1.out.2.1 |> below_0 H.out.2.2.2.2.2.1 |>.trans (below_m H1.out.1.disk.1 H1.out.2.2 (chg_m hc2)))))
      clear hM2 hJ2 hD2 hc2
      dsimp only
      go_wp2_with fail
      refine (down_calls g _ _ hg32).mono ?_
      rintro e w3 ⟨rfl, rfl⟩
      dsimp only
      go_wp2
      go_ret
      exact ⟨rfl, H2.out.2.2, d, rs, ⟨⟨part, H.out.1, H.out.2.1, H2.out.2.1⟩, vr, failed', P', H2.out.1⟩, rfl⟩
    · rw [HA.out.2] at hx; cases hx
  obtain rfl := H.out.2.1 hdn
  rw [hdn] at hg3
  by_cases hroom : (Dk.encs rs).length + Dk.manyOf s.length ≤ d.now.length
  case neg =>
    have hap := append_not H.out.2.2.1 s (by rw [← H.out.2.2.2.2.2.2.2.1]; omega) (.inr (.inr (by omega)))
    rw [← H.out.2.2.2.2.2.2.1] at hap
    have hfull : half < cc + (1 + sl / 32) := by
      have h1 := encs_costJ rs
      have h2 : Dk.manyOf s.length = max 1 ((s.length + 58) / 59) := rfl
      have h3 := H.out.2.2.2.2.2.2.2.1
      have h4 := H.out.2.2.2.2.2.2.2.2.1
      have h5 := H.out.2.2.2.2.2.2.2.2.2
      rw [← h3] at h2 hroom
      omega
    have HA := Lib.hid (And.intro hap (And.intro hdn hroom))
    clear hap hdn hroom
    go_enter Try.func26, Try.ntmps26
    go_wp2_with fail
    refine (down_calls g _ _ hg3).mono ?_
    rintro e w1 ⟨rfl, rfl⟩
    dsimp only
    go_wp2_with fail
    refine HA.out.1.mono ?_
    rintro e w1 ⟨hJ1, hc1, hor⟩
    rcases hor with ⟨hx, _⟩ | ⟨_, hx, _⟩ | ⟨_, _, _, rfl⟩
    · rw [← H.out.2.2.2.2.2.2.2.1] at hx; omega
    · rw [HA.out.2.1] at hx; cases hx
    · have H1 := Lib.hid (And.intro hJ1 hc1)
      clear hJ1 hc1
      dsimp only
      go_wp2_with fail
      refine (Cost_calls sl w1 (by omega)).mono ?_
      rintro e w2 ⟨rfl, rfl⟩
      obtain ⟨c1, hc1⟩ : ∃ c1 : Nat, c1 = 1 + sl / 32 := ⟨_, rfl⟩
      rw [← hc1] at hfull ⊢
      have hc1b : c1 ≤ 61000 := by omega
      clear hc1
      have hd2 : decide ((half : Int) < (cc : Int) + (c1 : Int)) = true := by simp; omega
      dsimp only
      go_wp2
      go_ret
      exact ⟨rfl, below_0 H.out.2.2.2.2.2.1 H1.out.2, d, rs, ⟨⟨[], .inl rfl, fun _ => rfl, H1.out.1⟩, vr, failed, P, H.out.2.2.2.1.keep H1.out.2 (fun h => h) (fun _ _ h => h)⟩, rfl⟩
  have hap := append_up H.out.2.2.1 hdn s (by rw [← H.out.2.2.2.2.2.2.2.1]; omega) hroom
  rw [← H.out.2.2.2.2.2.2.1] at hap
  have HA := Lib.hid (And.intro hap (And.intro hdn hroom))
  clear hap hdn hroom
  go_enter Try.func26, Try.ntmps26
  go_wp2_with fail
  refine (down_calls g _ _ hg3).mono ?_
  rintro e w1 ⟨rfl, rfl⟩
  dsimp only
  go_wp2_with fail
  refine HA.out.1.mono ?_
  rintro e w1 ⟨d1, hc1, hl1, hor⟩
  have hM1 := H.out.2.2.2.1.keepJ H.out.2.2.1.jb hc1
  have hB1 := chg_below H.out.2.2.2.2.2.1 H.out.2.2.1.low hc1
  rcases hor with ⟨rfl, hJ1, hd1, ha1⟩ | ⟨ha, rfl, hd1, part, hp, hJ1⟩
  · have H1 := Lib.hid (And.intro hJ1 (And.intro hM1 (And.intro hB1 (And.intro hl1 hd1))))
    clear hJ1 hM1 hB1 hl1 hd1 hc1 ha1
    have hma := mAppend_ok s H1.out.1.disk.1 H1.out.2.1 (by have := H.out.2.2.2.2.1; omega)
    rw [← H.out.2.2.2.2.2.2.1] at hma
    have HMA := Lib.hid hma
    clear hma
    dsimp only
    go_wp2_with fail
    refine HMA.out.mono ?_
    rintro e w2 ⟨rfl, ⟨vr', hM2⟩, hc2⟩
    have H2 := Lib.hid (And.intro hM2 (And.intro (H1.out.1.keepM H1.out.2.1 hc2) (H1.out.2.2.1.trans (below_m H1.out.1.disk.1 H1.out.2.1 hc2))))
    clear hM2 hc2
    dsimp only
    go_wp2
    go_ret
    exact ⟨rfl, H2.out.2.2, d1, rs ++ [s], ⟨⟨[], .inl rfl, fun _ => rfl, H2.out.2.1⟩, vr', failed, P, H2.out.1⟩, H1.out.2.2.2.1⟩
  · have H1 := Lib.hid (And.intro hJ1 (And.intro hM1 (And.intro hB1 (And.intro hl1 (And.intro hd1 hp)))))
    clear hJ1 hM1 hB1 hl1 hd1 hc1 ha hp
    have hma := mAppend_down s H1.out.2.1
    rw [← H.out.2.2.2.2.2.2.1] at hma
    have HMA := Lib.hid hma
    clear hma
    dsimp only
    go_wp2_with fail
    refine HMA.out.mono ?_
    rintro e w2 ⟨rfl, ⟨failed', P', hM2⟩, hc2⟩
    have hJ2 := H1.out.1.keepM H1.out.2.1 (chg_m hc2)
    obtain ⟨_, vd2, vn2, vw2, hD2⟩ := hJ2.disk
    have hg32 : w2.cell? ⟨g, 3, none⟩ = some (.bool true) := by rw [← H1.out.2.2.2.2.1]; exact hD2.blk.cell 3
    have H2 := Lib.hid (And.intro hM2 (And.intro hJ2 (H1.out.2.2.1.trans (below_m H1.out.1.disk.1 H1.out.2.1 (chg_m hc2)))))
    clear hM2 hJ2 hD2 hc2
    dsimp only
    go_wp2_with fail
    refine (down_calls g _ _ hg32).mono ?_
    rintro e w3 ⟨rfl, rfl⟩
    dsimp only
    go_wp2
    go_ret
    exact ⟨rfl, H2.out.2.2, d1, rs, ⟨⟨part, H1.out.2.2.2.2.2, fun h => (by rw [H1.out.2.2.2.2.1] at h; cases h), H2.out.2.1⟩, vr, failed', P', H2.out.1⟩, H1.out.2.2.2.1⟩

end Go.Proofs.Ytdnjelggdjimhaa
