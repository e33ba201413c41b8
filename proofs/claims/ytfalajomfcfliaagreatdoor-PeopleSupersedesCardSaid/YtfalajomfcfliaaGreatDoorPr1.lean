/-
  The reference's small functions.
-/
import Derived.Test.YtfalajomfcfliaaGreatDoorPw2
namespace Go.Proofs.YtfalajomfcfliaaGreatDoor
open Go.RowKit

theorem rid_calls (n : Int) (w : World) : Calls Tryz.prog 61 #[.int .i64 n] w fun e w' => e = .returned (.bool (Pe.isId n)) ∧ w = w' := by
  obtain ⟨B, hB⟩ : ∃ B, B = Pe.isId n := ⟨_, rfl⟩
  rw [← hB]
  have HB := Lib.hid hB
  clear hB
  go_enter Tryz.func61, Tryz.ntmps61
  go_wp2
  all_goals
    go_ret
    refine ⟨?_, rfl⟩
    rw [HB.out]
    refine congrArg Ending.returned (congrArg Value.bool ?_)
    unfold Pe.isId
    rw [Bool.eq_iff_iff]
    simp only [Bool.and_eq_true, decide_eq_true_eq]
    first | omega | (simp; omega)
theorem ridOrNone_calls (n : Int) (w : World) : Calls Tryz.prog 62 #[.int .i64 n] w fun e w' => e = .returned (.bool (Pe.idOr' n)) ∧ w = w' := by
  obtain ⟨B, hB⟩ : ∃ B, B = Pe.idOr' n := ⟨_, rfl⟩
  rw [← hB]
  have HB := Lib.hid hB
  clear hB
  go_enter Tryz.func62, Tryz.ntmps62
  go_wp2
  all_goals
    go_ret
    refine ⟨?_, rfl⟩
    rw [HB.out]
    refine congrArg Ending.returned (congrArg Value.bool ?_)
    unfold Pe.idOr'
    rw [Bool.eq_iff_iff]
    simp only [Bool.and_eq_true, decide_eq_true_eq]
    first | omega | (simp; omega)

def alphabet : List UInt8 := [32, 45, 48, 49, 50, 51, 52, 53, 54, 55, 56, 57, 97, 98, 99, 100, 101, 102, 103, 104, 105, 106, 107, 108, 109, 110, 111, 112, 113, 114, 115, 116, 117, 118, 119, 120, 121, 122]
theorem letter_mem (c : UInt8) : Pe.isLetter c = alphabet.contains c := by
  have : ∀ c : Fin 256, Pe.isLetter (UInt8.ofNat c.val) = alphabet.contains (UInt8.ofNat c.val) := by decide +kernel
  have h := this ⟨c.toNat, c.toNat_lt⟩
  simpa using h

set_option maxHeartbeats 2000000 in
theorem place_calls (c : UInt8) (w : World) : Calls Tryz.prog 119 #[.int .u8 (c.toNat : Int)] w fun e w' => ∃ p : Int, e = .returned (.int .i64 p) ∧ decide (p < 0) = !Pe.isLetter c ∧ w = w' := by
  obtain ⟨n, hn⟩ : ∃ n, n = c.toNat := ⟨_, rfl⟩
  rw [← hn]
  have HN := Lib.hid hn
  clear hn
  go_enter Tryz.func119, Tryz.ntmps119
  go_wp2_with fail
  go_loopg [3] 38 (fun q s3 wr => ∃ i : Nat, s3 = .int .i64 (i : Int) ∧ i + q = 38 ∧ wr = w ∧ Hid (∀ j, j < i → alphabet.getD j 0 ≠ c))
  case atStart => exact ⟨0, by go_num, by omega, rfl, Lib.hid (by intro j hj; omega)⟩
  case round =>
    obtain ⟨i, rfl, hi, rfl, hR⟩ := hrel
    by_cases hgo : i < 38
    · have hd1 : decide ((i : Int) < 38) = true := by simp; omega
      have hin : i < (bs alphabet).size := by rw [bs_size]; exact hgo
      have HG := Lib.hid (bs_getElem alphabet i hin)
      go_wp2
      · rename_i _ heq
        go_ret
        have he : ((bs alphabet)[i]'hin).toNat = n := Int.ofNat_inj.1 (beq_iff_eq.1 heq)
        rw [HG.out] at he
        refine ⟨(i : Int), rfl, ?_, rfl⟩
        have hc : alphabet.getD i 0 = c := UInt8.toNat_inj.1 (he.trans HN.out)
        have hm : alphabet.contains c = true := by
          rw [List.contains_iff_mem, ← hc, List.getD_eq_getElem?_getD, List.getElem?_eq_getElem hgo]
          exact List.getElem_mem _
        rw [letter_mem, hm]
        simp
      · rename_i _ hne
        go_roundg (gk - 1)
        case measure => omega
        case rel =>
          refine ⟨i + 1, by go_num, by omega, rfl, Lib.hid (fun j hj e => ?_)⟩
          by_cases hji : j < i
          · exact hR.out j hji e
          · obtain rfl : j = i := by omega
            have h1 : ¬ ((bs alphabet)[j]'hin).toNat = n := fun h => by
              have : ((((bs alphabet)[j]'hin).toNat : Int) == (n : Int)) = true := by rw [h]; simp
              exact absurd (hne.symm.trans this) (by decide)
            rw [HG.out, e] at h1
            exact h1 HN.out.symm
    · have hd1 : decide ((i : Int) < 38) = false := by simp; omega
      obtain rfl : i = 38 := by omega
      go_wp2
      go_ret
      refine ⟨-1, rfl, ?_, rfl⟩
      have hm : alphabet.contains c = false := by
        rw [Bool.eq_false_iff]
        intro h
        rw [List.contains_iff_mem] at h
        obtain ⟨j, hj, e⟩ := List.mem_iff_getElem.1 h
        refine hR.out j hj ?_
        rw [List.getD_eq_getElem?_getD, List.getElem?_eq_getElem hj]
        exact e
      rw [letter_mem, hm]
      rfl

set_option maxHeartbeats 1000000 in
theorem lettered_calls (s : List UInt8) (hs : s.length ≤ 9223372036854775807) (w : World) : Calls Tryz.prog 101 #[.string (bs s)] w fun e w' => e = .returned (.bool (s.all Pe.isLetter)) ∧ w = w' := by
  obtain ⟨n, hn⟩ : ∃ n, n = s.length := ⟨_, rfl⟩
  have hsz : (bs s).size = n := by rw [bs_size, hn]
  rw [← hn] at hs
  have hget : ∀ (i : Nat) (c : UInt8), s[i]? = some c → (bs s).data[i]? = some c := fun i c h => by show s.toArray[i]? = some c; rw [List.getElem?_toArray]; exact h
  obtain ⟨S, hS⟩ : ∃ S, S = bs s := ⟨_, rfl⟩
  rw [← hS] at hsz hget ⊢
  have HS := Lib.hid (And.intro hS (And.intro hn hget))
  clear hS hn hget
  go_enter Tryz.func101, Tryz.ntmps101
  go_wp2_with fail
  go_loopg [3] n (fun q s6 wr => ∃ i : Nat, s6 = .int .i64 (i : Int) ∧ i + q = n ∧ wr = w ∧ Hid ((s.take i).all Pe.isLetter = true))
  case atStart => exact ⟨0, by go_num, by omega, rfl, Lib.hid (by simp)⟩
  case round =>
    obtain ⟨i, rfl, hi, rfl, hR⟩ := hrel
    by_cases hgo : i < n
    · have hd1 : decide ((i : Int) < (n : Int)) = true := by simp; omega
      obtain ⟨c, hc⟩ : ∃ c, s[i]? = some c := ⟨_, List.getElem?_eq_getElem (by have := HS.out.2.1; omega)⟩
      have hgc : ∀ h, S[i]'h = c := fun h => by
        have := HS.out.2.2 i c hc
        have h2 : S.data[i]? = some (S.data[i]'h) := Array.getElem?_eq_getElem h
        rw [h2] at this
        injection this
      have HC := Lib.hid (And.intro hc hgc)
      clear hc hgc
      go_wp2_with fail
      rw [HC.out.2]
      refine (place_calls c wr).mono ?_
      rintro e w1 ⟨p, rfl, hp, rfl⟩
      cases hl : Pe.isLetter c
      · rw [hl] at hp
        have HL := Lib.hid hl
        clear hl
        dsimp only
        go_wp2
        go_ret
        refine ⟨?_, rfl⟩
        have : s.all Pe.isLetter = false := by
          rw [List.all_eq_false]
          exact ⟨c, List.mem_of_getElem? HC.out.1, by rw [HL.out]; simp⟩
        rw [this]; rfl
      · rw [hl] at hp
        have HL := Lib.hid hl
        clear hl
        dsimp only
        go_wp2
        go_roundg (gk - 1)
        case measure => omega
        case rel => exact ⟨i + 1, by go_num, by omega, rfl, Lib.hid (by rw [List.take_add_one, HC.out.1, List.all_append, hR.out]; simp [HL.out])⟩
    · have hd1 : decide ((i : Int) < (n : Int)) = false := by simp; omega
      go_wp2
      go_ret
      refine ⟨?_, rfl⟩
      have := hR.out
      rw [List.take_of_length_le (by have := HS.out.2.1; omega)] at this
      rw [this]; rfl

set_option maxHeartbeats 1000000 in
theorem qIsName_calls (s : List UInt8) (hs : s.length ≤ 9223372036854775807) (w : World) : Calls Tryz.prog 82 #[.string (bs s)] w fun e w' => e = .returned (.bool (Pe.isName s)) ∧ w = w' := by
  obtain ⟨n, hn⟩ : ∃ n, n = s.length := ⟨_, rfl⟩
  have hsz : (bs s).size = n := by rw [bs_size, hn]
  have hlc := lettered_calls s hs w
  rw [← hn] at hs
  have hg0 : ∀ h, (bs s)[0]'h = s.getD 0 0 := fun h => bs_getElem s 0 h
  have hg1 : ∀ h, (bs s)[n - 1]'h = s.getD (n - 1) 0 := fun h => bs_getElem s (n - 1) h
  have hv : Pe.isName s = (decide (1 ≤ n) && decide (n ≤ 24) && s.all Pe.isLetter && s.getD 0 0 != 32 && s.getD (n - 1) 0 != 32) := by unfold Pe.isName; rw [← hn]
  obtain ⟨S, hS⟩ : ∃ S, S = bs s := ⟨_, rfl⟩
  rw [← hS] at hsz hg0 hg1 hlc ⊢
  obtain ⟨a, ha⟩ : ∃ a, a = s.all Pe.isLetter := ⟨_, rfl⟩
  obtain ⟨c0, hc0⟩ : ∃ c0, c0 = s.getD 0 0 := ⟨_, rfl⟩
  obtain ⟨c1, hc1⟩ : ∃ c1, c1 = s.getD (n - 1) 0 := ⟨_, rfl⟩
  rw [← ha] at hv hlc
  rw [← hc0] at hv hg0
  rw [← hc1] at hv hg1
  rw [hv]
  have HG := Lib.hid (And.intro hg0 (And.intro hg1 hlc))
  clear hS ha hc0 hc1 hg0 hg1 hlc hv hn
  obtain ⟨B, hB⟩ : ∃ B, B = (decide (1 ≤ n) && decide (n ≤ 24) && a && c0 != 32 && c1 != 32) := ⟨_, rfl⟩
  rw [← hB]
  have HB := Lib.hid hB
  clear hB
  go_enter Tryz.func82, Tryz.ntmps82
  go_wp2_with fail
  refine HG.out.2.2.mono ?_
  rintro e w1 ⟨rfl, rfl⟩
  cases a
  · dsimp only
    go_wp2
    go_ret
    refine ⟨?_, rfl⟩
    rw [HB.out]; simp
  dsimp only
  by_cases h1 : 1 ≤ n
  case neg =>
    have d1 : decide ((1 : Int) ≤ (n : Int)) = false := by simp; omega
    have d1' : decide (1 ≤ n) = false := by simp; omega
    have HD := Lib.hid d1'
    go_wp2
    go_ret
    refine ⟨?_, rfl⟩
    rw [HB.out, HD.out]; rfl
  have d1 : decide ((1 : Int) ≤ (n : Int)) = true := by simp; omega
  have d1' : decide (1 ≤ n) = true := by simp; omega
  by_cases h2 : n ≤ 24
  case neg =>
    have d2 : decide ((n : Int) ≤ 24) = false := by simp; omega
    have d2' : decide (n ≤ 24) = false := by simp; omega
    have HD := Lib.hid (And.intro d1' d2')
    go_wp2
    go_ret
    refine ⟨?_, rfl⟩
    rw [HB.out, HD.out.1, HD.out.2]; rfl
  have d2 : decide ((n : Int) ≤ 24) = true := by simp; omega
  have d2' : decide (n ≤ 24) = true := by simp; omega
  have HD := Lib.hid (And.intro d1' d2')
  clear d1' d2'
  go_wp2
  all_goals
    go_ret
    refine ⟨?_, rfl⟩
    rw [HB.out, HD.out.1, HD.out.2, ne32, ne32, ← HG.out.1 (by omega), ← HG.out.2.1 (by omega)]
    first | rfl | (simp_all; done)

end Go.Proofs.YtfalajomfcfliaaGreatDoor
