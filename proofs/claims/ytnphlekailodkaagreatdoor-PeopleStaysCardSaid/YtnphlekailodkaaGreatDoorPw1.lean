/-
  Small functions of the directory: letters, names, ids, days.
-/
import Derived.Test.YtnphlekailodkaaGreatDoorChecked
import Derived.Test.YtnphlekailodkaaGreatDoorPe
import Derived.WalkKit
import Derived.Handy
import Derived.Lib.Hide
import Derived.Test.YtnphlekailodkaaGreatDoorMem
import Derived.Deep.DeepCutAuto
namespace Go.Proofs.YtnphlekailodkaaGreatDoor
open Go.RowKit

set_option maxHeartbeats 1000000 in
theorem IsLetter_calls (c : UInt8) (w : World) : Calls Tryz.prog 209 #[.int .u8 (c.toNat : Int)] w fun e w' => e = .returned (.bool (Pe.isLetter c)) ∧ w = w' := by
  have e32 : (c == 32) = decide ((c.toNat : Int) = 32) := by
    by_cases h : c = 32
    · subst h; rfl
    · have h2 : ¬ (c.toNat : Int) = 32 := fun e => h (UInt8.toNat_inj.1 (show c.toNat = 32 by omega))
      rw [decide_eq_false h2]; simpa using h
  have e45 : (c == 45) = decide ((c.toNat : Int) = 45) := by
    by_cases h : c = 45
    · subst h; rfl
    · have h2 : ¬ (c.toNat : Int) = 45 := fun e => h (UInt8.toNat_inj.1 (show c.toNat = 45 by omega))
      rw [decide_eq_false h2]; simpa using h
  obtain ⟨n, hn⟩ : ∃ n, n = c.toNat := ⟨_, rfl⟩
  have hv : Pe.isLetter c = ((decide ((97 : Int) ≤ n) && decide ((n : Int) ≤ 122)) || (decide ((48 : Int) ≤ n) && decide ((n : Int) ≤ 57)) || decide ((n : Int) = 32) || decide ((n : Int) = 45)) := by
    unfold Pe.isLetter
    rw [e32, e45, ← hn]
    congr 3
    · congr 1 <;> (congr 1; apply propext; omega)
    · congr 1 <;> (congr 1; apply propext; omega)
  rw [← hn, hv]
  clear e32 e45 hv hn
  obtain ⟨B, hB⟩ : ∃ B : Bool, B = ((decide ((97 : Int) ≤ n) && decide ((n : Int) ≤ 122)) || (decide ((48 : Int) ≤ n) && decide ((n : Int) ≤ 57)) || decide ((n : Int) = 32) || decide ((n : Int) = 45)) := ⟨_, rfl⟩
  rw [← hB]
  have HB := Lib.hid hB
  clear hB
  go_enter Tryz.func209, Tryz.ntmps209
  go_wp2
  all_goals
    go_ret
    refine ⟨?_, rfl⟩
    rw [HB.out]
    refine congrArg Ending.returned (congrArg Value.bool ?_)
    rw [Bool.eq_iff_iff]
    simp only [Bool.or_eq_true, Bool.and_eq_true, decide_eq_true_eq, beq_iff_eq, true_iff]
    omega

theorem id_calls (n : Int) (w : World) : Calls Tryz.prog 54 #[.int .i64 n] w fun e w' => e = .returned (.bool (Pe.isId n)) ∧ w = w' := by
  obtain ⟨B, hB⟩ : ∃ B, B = Pe.isId n := ⟨_, rfl⟩
  rw [← hB]
  have HB := Lib.hid hB
  clear hB
  go_enter Tryz.func54, Tryz.ntmps54
  go_wp2
  all_goals
    go_ret
    refine ⟨?_, rfl⟩
    rw [HB.out]
    refine congrArg Ending.returned (congrArg Value.bool ?_)
    unfold Pe.isId
    rw [Bool.eq_iff_iff]
    simp only [Bool.and_eq_true, decide_eq_true_eq]
    first | omega | (simp; omega)

theorem idOr_calls (n : Int) (w : World) : Calls Tryz.prog 55 #[.int .i64 n] w fun e w' => e = .returned (.bool (Pe.idOr n)) ∧ w = w' := by
  by_cases h0 : n = 0
  · subst h0
    go_enter Tryz.func55, Tryz.ntmps55
    go_wp2
    go_ret
    exact ⟨rfl, rfl⟩
  · have hz : (n == 0) = false := by simpa using h0
    have hv : Pe.idOr n = Pe.isId n := by unfold Pe.idOr; rw [hz]; rfl
    rw [hv]
    have HV := Lib.hid h0
    clear h0 hv
    go_enter Tryz.func55, Tryz.ntmps55
    go_wp2_with fail
    refine (id_calls n w).mono ?_
    rintro e w1 ⟨rfl, rfl⟩
    dsimp only
    go_wp2
    go_ret
    exact ⟨rfl, rfl⟩

def bs (l : List UInt8) : ByteArray := ⟨l.toArray⟩
theorem bs_size (l : List UInt8) : (bs l).size = l.length := by simp [bs, ByteArray.size]
theorem bs_data (l : List UInt8) : (bs l).data.toList = l := by simp [bs]

set_option maxHeartbeats 1000000 in
theorem letters_calls (s : List UInt8) (hs : s.length ≤ 9223372036854775807) (w : World) : Calls Tryz.prog 201 #[.string (bs s)] w fun e w' => e = .returned (.bool (s.all Pe.isLetter)) ∧ w = w' := by
  obtain ⟨n, hn⟩ : ∃ n, n = s.length := ⟨_, rfl⟩
  have hsz : (bs s).size = n := by rw [bs_size, hn]
  rw [← hn] at hs
  have hget : ∀ (i : Nat) (c : UInt8), s[i]? = some c → (bs s).data[i]? = some c := fun i c h => by show s.toArray[i]? = some c; rw [List.getElem?_toArray]; exact h
  obtain ⟨S, hS⟩ : ∃ S, S = bs s := ⟨_, rfl⟩
  rw [← hS] at hsz hget ⊢
  have HS := Lib.hid (And.intro hS (And.intro hn hget))
  clear hS hn hget
  go_enter Tryz.func201, Tryz.ntmps201
  go_wp2_with fail
  go_loopg [6] n (fun q s6 wr => ∃ i : Nat, s6 = .int .i64 (i : Int) ∧ i + q = n ∧ wr = w ∧ Hid ((s.take i).all Pe.isLetter = true))
  case atStart => exact ⟨0, by go_num, by omega, rfl, Lib.hid (by simp)⟩
  case round =>
    obtain ⟨i, rfl, hi, rfl, hR⟩ := hrel
    by_cases hgo : i < n
    · have hd1 : decide ((i : Int) < (n : Int)) = true := by simp; omega
      obtain ⟨c, hc⟩ : ∃ c, s[i]? = some c := ⟨_, List.getElem?_eq_getElem (by have := HS.out.2.1; omega)⟩
      have hgc : ∀ h, S[i]'h = c := fun h => by
        have := HS.out.2.2 i c hc
        have h2 : S.data[i]? = some (S.data[i]'h) := Array.getElem?_eq_getElem h
        rw [h2] at this
        injection this
      have HC := Lib.hid (And.intro hc hgc)
      clear hc hgc
      go_wp2_with fail
      rw [HC.out.2]
      refine (IsLetter_calls c wr).mono ?_
      rintro e w1 ⟨rfl, rfl⟩
      cases hl : Pe.isLetter c
      · have HL := Lib.hid hl
        clear hl
        dsimp only
        go_wp2
        go_ret
        refine ⟨?_, rfl⟩
        have : s.all Pe.isLetter = false := by
          rw [List.all_eq_false]
          exact ⟨c, List.mem_of_getElem? HC.out.1, by rw [HL.out]; simp⟩
        rw [this]; rfl
      · have HL := Lib.hid hl
        clear hl
        dsimp only
        go_wp2
        go_roundg (gk - 1)
        case measure => omega
        case rel => exact ⟨i + 1, by go_num, by omega, rfl, Lib.hid (by rw [List.take_add_one, HC.out.1, List.all_append, hR.out]; simp [HL.out])⟩
    · have hd1 : decide ((i : Int) < (n : Int)) = false := by simp; omega
      go_wp2
      go_ret
      refine ⟨?_, rfl⟩
      have := hR.out
      rw [List.take_of_length_le (by have := HS.out.2.1; omega)] at this
      rw [this]; rfl

theorem bs_getElem (s : List UInt8) (i : Nat) (h : i < (bs s).size) : (bs s)[i]'h = s.getD i 0 := by
  have hl : i < s.length := by rwa [bs_size] at h
  rw [List.getD_eq_getElem?_getD, List.getElem?_eq_getElem hl]
  exact List.getElem_toArray _

theorem ne32 (c : UInt8) : (c != 32) = ((c.toNat : Int) != 32) := by
  rw [Bool.eq_iff_iff, bne_iff_ne, bne_iff_ne, ne_eq, ne_eq, ← UInt8.toNat_inj]
  show (¬ c.toNat = 32) ↔ _
  omega

set_option maxHeartbeats 1000000 in
theorem IsName_calls (s : List UInt8) (hs : s.length ≤ 9223372036854775807) (w : World) : Calls Tryz.prog 182 #[.string (bs s)] w fun e w' => e = .returned (.bool (Pe.isName s)) ∧ w = w' := by
  obtain ⟨n, hn⟩ : ∃ n, n = s.length := ⟨_, rfl⟩
  have hsz : (bs s).size = n := by rw [bs_size, hn]
  have hlc := letters_calls s hs w
  rw [← hn] at hs
  have hg0 : ∀ h, (bs s)[0]'h = s.getD 0 0 := fun h => bs_getElem s 0 h
  have hg1 : ∀ h, (bs s)[n - 1]'h = s.getD (n - 1) 0 := fun h => bs_getElem s (n - 1) h
  have hv : Pe.isName s = (decide (1 ≤ n) && decide (n ≤ 24) && s.all Pe.isLetter && s.getD 0 0 != 32 && s.getD (n - 1) 0 != 32) := by unfold Pe.isName; rw [← hn]
  obtain ⟨S, hS⟩ : ∃ S, S = bs s := ⟨_, rfl⟩
  rw [← hS] at hsz hg0 hg1 hlc ⊢
  obtain ⟨a, ha⟩ : ∃ a, a = s.all Pe.isLetter := ⟨_, rfl⟩
  obtain ⟨c0, hc0⟩ : ∃ c0, c0 = s.getD 0 0 := ⟨_, rfl⟩
  obtain ⟨c1, hc1⟩ : ∃ c1, c1 = s.getD (n - 1) 0 := ⟨_, rfl⟩
  rw [← ha] at hv hlc
  rw [← hc0] at hv hg0
  rw [← hc1] at hv hg1
  rw [hv]
  have HG := Lib.hid (And.intro hg0 (And.intro hg1 hlc))
  clear hS ha hc0 hc1 hg0 hg1 hlc hv hn
  by_cases h1 : 1 ≤ n
  case neg =>
    have d1 : decide ((1 : Int) ≤ (n : Int)) = false := by simp; omega
    have d1' : decide (1 ≤ n) = false := by simp; omega
    rw [d1']
    go_enter Tryz.func182, Tryz.ntmps182
    go_wp2
    go_ret
    exact ⟨rfl, rfl⟩
  have d1 : decide ((1 : Int) ≤ (n : Int)) = true := by simp; omega
  have d1' : decide (1 ≤ n) = true := by simp; omega
  rw [d1']
  by_cases h2 : n ≤ 24
  case neg =>
    have d2 : decide ((n : Int) ≤ 24) = false := by simp; omega
    have d2' : decide (n ≤ 24) = false := by simp; omega
    rw [d2']
    go_enter Tryz.func182, Tryz.ntmps182
    go_wp2
    go_ret
    exact ⟨rfl, rfl⟩
  have d2 : decide ((n : Int) ≤ 24) = true := by simp; omega
  have d2' : decide (n ≤ 24) = true := by simp; omega
  rw [d2']
  obtain ⟨B, hB⟩ : ∃ B, B = (true && true && a && c0 != 32 && c1 != 32) := ⟨_, rfl⟩
  rw [← hB]
  have HB := Lib.hid hB
  clear hB d1' d2'
  go_enter Tryz.func182, Tryz.ntmps182
  go_wp2_with fail
  refine HG.out.2.2.mono ?_
  rintro e w1 ⟨rfl, rfl⟩
  cases a
  · dsimp only
    go_wp2
    go_ret
    refine ⟨?_, rfl⟩
    rw [HB.out]; rfl
  dsimp only
  go_wp2
  all_goals
    go_ret
    refine ⟨?_, rfl⟩
    rw [HB.out, ne32, ne32, ← HG.out.1 (by omega), ← HG.out.2.1 (by omega)]
    first | rfl | (simp_all; done)

end Go.Proofs.YtnphlekailodkaaGreatDoor
