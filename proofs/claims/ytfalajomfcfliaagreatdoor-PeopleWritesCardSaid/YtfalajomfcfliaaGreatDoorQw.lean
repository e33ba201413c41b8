/-
  The reference's words of a line (num, kind, counts, word, number), and its Write.
-/
import Derived.Test.YtfalajomfcfliaaGreatDoorRx
import Derived.Test.YtfalajomfcfliaaGreatDoorWt
import Derived.Test.YtfalajomfcfliaaGreatDoorPr2
import Derived.Test.YtfalajomfcfliaaGreatDoorEe
import Derived.BigQuiet
import Derived.Test.YtfalajomfcfliaaGreatDoorPr4
namespace Go.Proofs.YtfalajomfcfliaaGreatDoor
open Go.RowKit

namespace Pe
theorem nums_length (x : Ent) (hf : Fine x) : ∀ os : List Nat, (nums x os).length ≤ 22 * os.length
  | [] => by simp [nums]
  | o :: os => by
    have h1 := nums_length x hf os
    have h2 := dec_length (x.get o) (by have := hf.low o; omega) (by have := hf.high o; omega)
    rw [nums_cons]
    simp only [List.length_cons, List.length_append]
    omega
theorem name_short {x : Ent} (hf : Fine x) : x.name.length ≤ 24 := by
  by_cases hk : x.kind = 1
  · have := hf.isn hk
    simp only [isName, Bool.and_eq_true, decide_eq_true_eq] at this
    omega
  · rw [hf.non hk]; simp
theorem line_short {x : Ent} (h : formed x = 0) : (line x).length ≤ 1000 := by
  have hf := fine h
  have h1 := nums_length x hf (offs x.kind)
  have h2 := dec_length x.day (by have := hf.low 0; simp only [Ent.get] at this; omega) (by have := hf.high 0; simp only [Ent.get] at this; omega)
  have h3 : (word x.kind).length ≤ 8 := by unfold word; split <;> decide
  have h4 : (offs x.kind).length ≤ 7 := by unfold offs; split <;> decide
  have h5 : (tail x).length ≤ 25 := by
    have := name_short hf
    unfold tail
    split <;> simp <;> omega
  unfold line head
  simp only [List.length_append, List.length_cons, List.length_nil]
  omega
end Pe

set_option maxRecDepth 1000000 in
set_option maxHeartbeats 2000000 in
theorem rnum_calls (n : Int) (h0 : 0 ≤ n) (h1 : n ≤ 1000000) (w : World) (h : Laid w) : Calls Tryz.prog 44 #[.int .i64 n] w fun e w' => e = .returned (.string (bs (32 :: dec n))) ∧ Below w.heap.size w w' := by
  have hd := dec_length n (by omega) (by omega)
  have ha : Op.stringOp .add ⟨#[32]⟩ (bs (dec n)) = pure (.string (bs (32 :: dec n))) := add_bs [32] (dec n) (by simp; omega)
  have hi := Itoa_calls n (by omega) (by omega) w h
  have HI := Lib.hid hi
  clear hi hd h0 h1 h
  go_enter Tryz.func44, Tryz.ntmps44
  go_wp2_with fail
  refine HI.out.mono ?_
  rintro e w1 ⟨rfl, hb⟩
  have HB := Lib.hid hb
  clear hb
  dsimp only
  go_wp2
  go_ret
  exact ⟨rfl, HB.out⟩

set_option maxRecDepth 1000000 in
set_option maxHeartbeats 2000000 in
theorem rcounts_calls (k : Nat) (hk : k ≤ 7) (w : World) : Calls Tryz.prog 51 #[.int .u8 (k : Int)] w fun e w' => e = .returned (.int .i64 (Pe.rcounts k : Int)) ∧ w' = w := by
  obtain rfl | rfl | rfl | rfl | rfl | rfl | rfl | rfl : k = 0 ∨ k = 1 ∨ k = 2 ∨ k = 3 ∨ k = 4 ∨ k = 5 ∨ k = 6 ∨ k = 7 := by omega
  all_goals
    go_enter Tryz.func51, Tryz.ntmps51
    go_wp2
    go_ret
    exact ⟨rfl, rfl⟩

theorem lit_beq (s t : List UInt8) {b : Bool} (h : decide (s = t) = b) : ((bs s).toList == t) = b := by
  rw [ByteArray.toList_eq, bs_data, ← h]
  by_cases e : s = t <;> simp [e]
set_option maxRecDepth 1000000 in
set_option maxHeartbeats 4000000 in
theorem rkind_calls (s : List UInt8) (w : World) : Calls Tryz.prog 49 #[.string (bs s)] w fun e w' => e = .returned (.int .u8 (Pe.kindOf s : Int)) ∧ w' = w := by
  obtain ⟨K, hK⟩ : ∃ K, K = Pe.kindOf s := ⟨_, rfl⟩
  rw [← hK]
  have HK := Lib.hid hK
  clear hK
  go_enter Tryz.func49, Tryz.ntmps49
  by_cases h1 : s = Pe.word 1
  · skip
    have q1 : ((bs s).toList == Pe.word 1) = true := lit_beq s _ (by simpa using h1)
    unfold Pe.word at q1
    have hk : K = 1 := by rw [HK.out]; exact (Pe.kindOf_iff (by omega) (by omega)).2 h1
    clear h1
    subst hk
    go_wp2
    all_goals first
      | (go_ret; exact ⟨rfl, rfl⟩)
      | (exfalso; simp_all)
  have q1 : ((bs s).toList == Pe.word 1) = false := lit_beq s _ (by simpa using h1)
  unfold Pe.word at q1
  have H1 := Lib.hid h1
  clear h1
  by_cases h2 : s = Pe.word 2
  · skip
    have q2 : ((bs s).toList == Pe.word 2) = true := lit_beq s _ (by simpa using h2)
    unfold Pe.word at q2
    have hk : K = 2 := by rw [HK.out]; exact (Pe.kindOf_iff (by omega) (by omega)).2 h2
    clear h2
    subst hk
    go_wp2
    all_goals first
      | (go_ret; exact ⟨rfl, rfl⟩)
      | (exfalso; simp_all)
  have q2 : ((bs s).toList == Pe.word 2) = false := lit_beq s _ (by simpa using h2)
  unfold Pe.word at q2
  have H2 := Lib.hid h2
  clear h2
  by_cases h3 : s = Pe.word 3
  · skip
    have q3 : ((bs s).toList == Pe.word 3) = true := lit_beq s _ (by simpa using h3)
    unfold Pe.word at q3
    have hk : K = 3 := by rw [HK.out]; exact (Pe.kindOf_iff (by omega) (by omega)).2 h3
    clear h3
    subst hk
    go_wp2
    all_goals first
      | (go_ret; exact ⟨rfl, rfl⟩)
      | (exfalso; simp_all)
  have q3 : ((bs s).toList == Pe.word 3) = false := lit_beq s _ (by simpa using h3)
  unfold Pe.word at q3
  have H3 := Lib.hid h3
  clear h3
  by_cases h4 : s = Pe.word 4
  · skip
    have q4 : ((bs s).toList == Pe.word 4) = true := lit_beq s _ (by simpa using h4)
    unfold Pe.word at q4
    have hk : K = 4 := by rw [HK.out]; exact (Pe.kindOf_iff (by omega) (by omega)).2 h4
    clear h4
    subst hk
    go_wp2
    all_goals first
      | (go_ret; exact ⟨rfl, rfl⟩)
      | (exfalso; simp_all)
  have q4 : ((bs s).toList == Pe.word 4) = false := lit_beq s _ (by simpa using h4)
  unfold Pe.word at q4
  have H4 := Lib.hid h4
  clear h4
  by_cases h5 : s = Pe.word 5
  · skip
    have q5 : ((bs s).toList == Pe.word 5) = true := lit_beq s _ (by simpa using h5)
    unfold Pe.word at q5
    have hk : K = 5 := by rw [HK.out]; exact (Pe.kindOf_iff (by omega) (by omega)).2 h5
    clear h5
    subst hk
    go_wp2
    all_goals first
      | (go_ret; exact ⟨rfl, rfl⟩)
      | (exfalso; simp_all)
  have q5 : ((bs s).toList == Pe.word 5) = false := lit_beq s _ (by simpa using h5)
  unfold Pe.word at q5
  have H5 := Lib.hid h5
  clear h5
  by_cases h6 : s = Pe.word 6
  · skip
    have q6 : ((bs s).toList == Pe.word 6) = true := lit_beq s _ (by simpa using h6)
    unfold Pe.word at q6
    have hk : K = 6 := by rw [HK.out]; exact (Pe.kindOf_iff (by omega) (by omega)).2 h6
    clear h6
    subst hk
    go_wp2
    all_goals first
      | (go_ret; exact ⟨rfl, rfl⟩)
      | (exfalso; simp_all)
  have q6 : ((bs s).toList == Pe.word 6) = false := lit_beq s _ (by simpa using h6)
  unfold Pe.word at q6
  have H6 := Lib.hid h6
  clear h6
  by_cases h7 : s = Pe.word 7
  · skip
    have q7 : ((bs s).toList == Pe.word 7) = true := lit_beq s _ (by simpa using h7)
    unfold Pe.word at q7
    have hk : K = 7 := by rw [HK.out]; exact (Pe.kindOf_iff (by omega) (by omega)).2 h7
    clear h7
    subst hk
    go_wp2
    all_goals first
      | (go_ret; exact ⟨rfl, rfl⟩)
      | (exfalso; simp_all)
  have q7 : ((bs s).toList == Pe.word 7) = false := lit_beq s _ (by simpa using h7)
  unfold Pe.word at q7
  have H7 := Lib.hid h7
  clear h7
  have hk : K = 0 := by
    rw [HK.out]
    unfold Pe.kindOf
    rw [if_neg H1.out, if_neg H2.out, if_neg H3.out, if_neg H4.out, if_neg H5.out, if_neg H6.out, if_neg H7.out]
  subst hk
  go_wp2
  all_goals first
    | (go_ret; exact ⟨rfl, rfl⟩)
    | (exfalso; simp_all)

theorem ext_bs (l : List UInt8) (a b : Nat) : (bs l).extract a b = bs ((l.drop a).take (b - a)) := by
  apply ByteArray.ext
  rw [ByteArray.data_extract, bs, bs]
  simp [List.extract_eq_take_drop]
set_option maxRecDepth 1000000 in
set_option maxHeartbeats 4000000 in
theorem rword_calls (s : List UInt8) (hs : s.length ≤ 9223372036854775807) (w : World) : Calls Tryz.prog 48 #[.string (bs s)] w fun e w' => e = .returned (.tuple #[.string (bs (Pe.cut1 s).1), .string (bs (Pe.cut1 s).2)]) ∧ Below w.heap.size w w' := by
  obtain ⟨n, hn⟩ : ∃ n, n = s.length := ⟨_, rfl⟩
  have hsz : (bs s).size = n := by rw [bs_size, hn]
  rw [← hn] at hs
  have hget : ∀ (i : Nat) (c : UInt8), s[i]? = some c → (bs s).data[i]? = some c := fun i c h => by show s.toArray[i]? = some c; rw [List.getElem?_toArray]; exact h
  obtain ⟨S, hS⟩ : ∃ S, S = bs s := ⟨_, rfl⟩
  obtain ⟨R, hR⟩ : ∃ R, R = Pe.cut1 s := ⟨_, rfl⟩
  rw [← hS] at hsz hget ⊢
  rw [← hR]
  have HS := Lib.hid (And.intro hS (And.intro hn (And.intro hget hR)))
  clear hS hn hget hR
  go_enter Tryz.func48, Tryz.ntmps48
  go_wp2_with fail
  go_loopg [4] n (fun q s4 wr => ∃ i : Nat, s4 = .int .i64 (i : Int) ∧ i + q = n ∧ wr = w ∧ Hid ((32 : UInt8) ∉ s.take i))
  case atStart => exact ⟨0, by go_num, by omega, rfl, Lib.hid (by simp)⟩
  case round =>
    obtain ⟨i, rfl, hi, rfl, hR⟩ := hrel
    by_cases hgo : i < n
    · have hd1 : decide ((i : Int) < (n : Int)) = true := by simp; omega
      obtain ⟨c, hc⟩ : ∃ c, s[i]? = some c := ⟨_, List.getElem?_eq_getElem (by have := HS.out.2.1; omega)⟩
      have hgc : ∀ h, S[i]'h = c := fun h => by
        have := HS.out.2.2.1 i c hc
        have h2 : S.data[i]? = some (S.data[i]'h) := Array.getElem?_eq_getElem h
        rw [h2] at this
        injection this
      have HC := Lib.hid (And.intro hc hgc)
      clear hc
      by_cases h32 : c = 32
      · have q1 : ((c.toNat : Int) == 32) = true := by rw [h32]; rfl
        have q2 : (c.toNat == 32) = true := by rw [h32]; rfl
        have H32 := Lib.hid h32
        clear h32
        go_wp2_with fail
        go_quiet (fail)
        go_wp2
        go_ret2
        refine ⟨?_, below_drewN _ _⟩
        have hsp : s = s.take i ++ 32 :: s.drop (i + 1) := by
          obtain ⟨h1, h2⟩ := List.getElem?_eq_some_iff.1 HC.out.1
          rw [← H32.out, ← h2, ← List.drop_eq_getElem_cons h1, List.take_append_drop]
        have hcu : R = (s.take i, s.drop (i + 1)) := by
          rw [HS.out.2.2.2]
          conv => lhs; rw [hsp]
          exact Pe.cut1_some _ hR.out
        rw [hcu]
        show Ending.returned (.tuple #[.string (S.extract 0 i), .string (S.extract (i + 1) n)]) = _
        rw [HS.out.1, ext_bs, ext_bs]
        simp only [List.drop_zero, Nat.sub_zero]
        rw [List.take_of_length_le (l := s.drop (i + 1)) (by rw [List.length_drop, HS.out.2.1]; exact Nat.le_refl _)]
      · have q1 : ((c.toNat : Int) == 32) = false := by
          simp only [beq_eq_false_iff_ne]
          intro e
          exact h32 (UInt8.toNat_inj.1 (by show c.toNat = 32; omega))
        have q2 : (c.toNat == 32) = false := by
          simp only [beq_eq_false_iff_ne]
          intro e
          exact h32 (UInt8.toNat_inj.1 (by show c.toNat = 32; omega))
        have H32 := Lib.hid h32
        clear h32
        go_wp2
        go_roundg (gk - 1)
        case measure => omega
        case rel => exact ⟨i + 1, by go_num, by omega, rfl, Lib.hid (by rw [List.take_add_one, HC.out.1]; simp only [Option.toList_some, List.mem_append, List.mem_singleton, not_or]; exact ⟨hR.out, fun e => H32.out e.symm⟩)⟩
    · have hd1 : decide ((i : Int) < (n : Int)) = false := by simp; omega
      go_wp2
      go_ret2
      have := hR.out
      rw [List.take_of_length_le (by have := HS.out.2.1; omega)] at this
      refine ⟨?_, Below.refl _ _⟩
      rw [HS.out.2.2.2, Pe.cut1_none this, HS.out.1]; rfl

theorem rdig_range : ∀ (l : List UInt8) (v : Int), 0 ≤ v → -1 ≤ Pe.rdig v l
  | [], v, h => by simp only [Pe.rdig]; omega
  | c :: r, v, h => by
    simp only [Pe.rdig]
    split
    · omega
    · rename_i hc
      exact rdig_range r _ (by omega)
set_option maxRecDepth 1000000 in
set_option maxHeartbeats 4000000 in
theorem rnumber_calls (s : List UInt8) (hs : s.length ≤ 9223372036854775807) (w : World) : Calls Tryz.prog 50 #[.string (bs s)] w fun e w' => e = .returned (.int .i64 (Pe.rnum s)) ∧ w' = w := by
  obtain ⟨n, hn⟩ : ∃ n, n = s.length := ⟨_, rfl⟩
  have hsz : (bs s).size = n := by rw [bs_size, hn]
  have hv : Pe.rnum s = if n < 1 ∨ 7 < n then -1 else Pe.rdig 0 s := by unfold Pe.rnum; rw [← hn]
  rw [← hn] at hs
  have hget : ∀ (i : Nat) (c : UInt8), s[i]? = some c → (bs s).data[i]? = some c := fun i c h => by show s.toArray[i]? = some c; rw [List.getElem?_toArray]; exact h
  obtain ⟨S, hS⟩ : ∃ S, S = bs s := ⟨_, rfl⟩
  obtain ⟨R, hR⟩ : ∃ R, R = Pe.rnum s := ⟨_, rfl⟩
  rw [← hS] at hsz hget ⊢
  rw [← hR] at hv ⊢
  have HS := Lib.hid (And.intro hn (And.intro hget hv))
  clear hS hn hget hv hR
  go_enter Tryz.func50, Tryz.ntmps50
  by_cases h1 : n < 1
  · have d1 : decide ((n : Int) < 1) = true := by simp; omega
    have HD := Lib.hid h1
    clear h1
    go_wp2
    go_ret
    refine ⟨?_, rfl⟩
    rw [HS.out.2.2, if_pos (.inl HD.out)]; rfl
  have d1 : decide ((n : Int) < 1) = false := by simp; omega
  by_cases h2 : 7 < n
  · have d2 : decide (7 < (n : Int)) = true := by simp; omega
    have HD := Lib.hid h2
    clear h1 h2
    go_wp2
    go_ret
    refine ⟨?_, rfl⟩
    rw [HS.out.2.2, if_pos (.inr HD.out)]; rfl
  have d2 : decide (7 < (n : Int)) = false := by simp; omega
  have hRv : R = Pe.rdig 0 s := by rw [HS.out.2.2, if_neg (by omega)]
  have HRV := Lib.hid hRv
  have hn7 : n ≤ 7 := by omega
  clear hRv h1 h2
  go_wp2_with fail
  go_loopg [3, 4] n (fun q s3 s4 wr => ∃ (i : Nat) (v : Int), s3 = .int .i64 v ∧ s4 = .int .i64 (i : Int) ∧ i + q = n ∧ wr = w ∧ 0 ≤ v ∧ v < ((10 ^ i : Nat) : Int) ∧ Hid (R = Pe.rdig v (s.drop i)))
  case atStart => exact ⟨0, 0, rfl, by go_num, by omega, rfl, by omega, by decide, Lib.hid (by rw [List.drop_zero]; exact HRV.out)⟩
  case round =>
    obtain ⟨i, v, rfl, rfl, hi, rfl, hv0, hv1, hR⟩ := hrel
    by_cases hgo : i < n
    · have hd1 : decide ((i : Int) < (n : Int)) = true := by simp; omega
      obtain ⟨c, hc⟩ : ∃ c, s[i]? = some c := ⟨_, List.getElem?_eq_getElem (by have := HS.out.1; omega)⟩
      have hgc : ∀ h, S[i]'h = c := fun h => by
        have := HS.out.2.1 i c hc
        have h2 : S.data[i]? = some (S.data[i]'h) := Array.getElem?_eq_getElem h
        rw [h2] at this
        injection this
      have hdr : s.drop i = c :: s.drop (i + 1) := by
        obtain ⟨h1, h2⟩ := List.getElem?_eq_some_iff.1 hc
        rw [List.drop_eq_getElem_cons h1, h2]
      have hc256 := c.toNat_lt
      have hp7 : 10 ^ i ≤ 10 ^ 7 := Nat.pow_le_pow_right (by decide) (by omega)
      have hv9 : v < 10000000 := by omega
      have hv1' : v * 10 + 10 ≤ ((10 ^ (i + 1) : Nat) : Int) := by rw [Nat.pow_succ]; omega
      have HC := Lib.hid (And.intro hdr hv1')
      clear hc hdr hv1 hp7 hv1'
      by_cases b1 : c.toNat < 48
      · have e1 : decide ((c.toNat : Int) < 48) = true := by simp; omega
        have HB := Lib.hid b1
        clear b1
        go_wp2
        go_ret
        refine ⟨?_, rfl⟩
        rw [hR.out, HC.out.1, Pe.rdig, if_pos (.inl HB.out)]; rfl
      have e1 : decide ((c.toNat : Int) < 48) = false := by simp; omega
      by_cases b2 : 57 < c.toNat
      · have e2 : decide (57 < (c.toNat : Int)) = true := by simp; omega
        have HB := Lib.hid b2
        clear b1 b2
        go_wp2
        go_ret
        refine ⟨?_, rfl⟩
        rw [hR.out, HC.out.1, Pe.rdig, if_pos (.inr HB.out)]; rfl
      have e2 : decide (57 < (c.toNat : Int)) = false := by simp; omega
      have hwr : IntKind.u8.wrap ((c.toNat : Int) - 48) = (c.toNat : Int) - 48 := by rw [IntKind.wrap_u8]; omega
      have HB := Lib.hid (And.intro b1 b2)
      go_wp2
      go_roundg (gk - 1)
      case measure => omega
      case rel =>
        refine ⟨i + 1, v * 10 + ((c.toNat : Int) - 48), by go_num, by go_num, by omega, rfl, by omega, by have := HC.out.2; omega, Lib.hid ?_⟩
        rw [hR.out, HC.out.1, Pe.rdig, if_neg (by have := HB.out.1; have := HB.out.2; omega)]
    · have hd1 : decide ((i : Int) < (n : Int)) = false := by simp; omega
      have HV := Lib.hid (And.intro hv0 hv1)
      clear hv0 hv1
      go_wp2
      go_ret
      have := hR.out
      rw [List.drop_eq_nil_of_le (by have := HS.out.1; omega)] at this
      exact ⟨by rw [this]; rfl, rfl⟩

set_option maxRecDepth 1000000 in
set_option maxHeartbeats 8000000 in
theorem rWrite_calls (x : Pe.Ent) (hx : x.name.length ≤ 9223372036854775807) (w : World) (hl : Laid w) : Calls Tryz.prog 20 #[.agg (eCells x)] w fun e w' => e = .returned (.tuple #[.string (bs (if Pe.formed x = 0 then Pe.line x else [])), .int .i64 (Pe.formed x)]) ∧ Below w.heap.size w w' := by
  obtain ⟨f, hf⟩ : ∃ f, f = Pe.formed x := ⟨_, rfl⟩
  have hfc := fun w0 => rformed_calls x hx w0
  rw [← hf] at hfc ⊢
  obtain ⟨Z, hZ⟩ : ∃ Z, Z = bs (if f = 0 then Pe.line x else []) := ⟨_, rfl⟩
  rw [← hZ]
  have H := Lib.hid (And.intro hf (And.intro hfc (And.intro hZ hl)))
  clear hf hfc hZ hl hx
  go_enter Tryz.func20, Tryz.ntmps20
  unfold eCells
  go_upto_region 1 with fail
  obtain ⟨ex, hex⟩ : ∃ ex, ex = w.heap.size := ⟨_, rfl⟩
  obtain ⟨w0, hw0⟩ : ∃ w0, w0 = w.alloc (.cells (eCells x) 29) := ⟨_, rfl⟩
  have hB0 : Below w.heap.size w w0 := by rw [hw0]; exact (Below.refl _ w).alloc (Nat.le_refl _) _
  have hE0 : Blk w0 ex 29 (eCells x) := by rw [hw0, hex]; exact Blk.fresh _ _ _
  unfold eCells at hw0
  rw [← hw0, ← hex]
  have H0 := Lib.hid (And.intro hB0 hE0)
  clear hB0 hE0 hw0 hex
  have c0 : w0.cell? ⟨ex, 0, none⟩ = some (.int .i64 x.day) := H0.out.2.cell 0
  have c1 : w0.cell? ⟨ex, 1, none⟩ = some (.int .u8 (x.kind : Int)) := H0.out.2.cell 1
  have c2 : w0.cell? ⟨ex, 2, none⟩ = some (.int .i64 x.since) := H0.out.2.cell 2
  have c3 : w0.cell? ⟨ex, 3, none⟩ = some (.int .i64 x.til) := H0.out.2.cell 3
  have c4 : w0.cell? ⟨ex, 4, none⟩ = some (.int .i64 x.person) := H0.out.2.cell 4
  have c5 : w0.cell? ⟨ex, 5, none⟩ = some (.int .i64 x.place) := H0.out.2.cell 5
  have c6 : w0.cell? ⟨ex, 6, none⟩ = some (.int .i64 x.other) := H0.out.2.cell 6
  have c7 : w0.cell? ⟨ex, 7, none⟩ = some (.int .i64 x.at_) := H0.out.2.cell 7
  have c8 : w0.cell? ⟨ex, 8, none⟩ = some (.int .i64 x.order) := H0.out.2.cell 8
  have c9 : w0.cell? ⟨ex, 9, none⟩ = some (.string (bs x.name)) := H0.out.2.cell 9
  go_wp2_with fail
  refine (H.out.2.1 w0).mono ?_
  rintro e w1 ⟨rfl, hB1⟩
  have H1 := Lib.hid (And.intro (H0.out.1.trans (hB1.mono H0.out.1.size)) (H0.out.2.below hB1 H0.out.2.lt))
  clear hB1
  clear c0 c1 c2 c3 c4 c5 c6 c7 c8 c9
  dsimp only
  by_cases hf0 : f = 0
  case neg =>
    have hd1 : (f != 0) = true := by simpa using hf0
    have HF := Lib.hid hf0
    clear hf0
    go_wp2
    go_ret2
    refine ⟨?_, H1.out.1⟩
    rw [H.out.2.2.1, if_neg HF.out]; rfl
  subst hf0
  have hF := Pe.fine H.out.1.symm
  have hZl : Z = bs (Pe.line x) := by rw [H.out.2.2.1, if_pos rfl]
  have hnl : x.name.length ≤ 24 := Pe.name_short hF
  obtain ⟨D, hD⟩ : ∃ D, D = dec x.day := ⟨_, rfl⟩
  have cD := fun w0 (hb : Below w.heap.size w w0) => Itoa_calls x.day (by have := hF.low 0; simp only [Pe.Ent.get] at this; omega) (by have := hF.high 0; simp only [Pe.Ent.get] at this; omega) w0 (H.out.2.2.2.below hb)
  have lD : D.length ≤ 22 := by rw [hD]; have := dec_length x.day (by have := hF.low 0; simp only [Pe.Ent.get] at this; omega) (by have := hF.high 0; simp only [Pe.Ent.get] at this; omega); omega
  rw [← hD] at cD
  obtain ⟨P, hP⟩ : ∃ P, P = 32 :: dec x.person := ⟨_, rfl⟩
  have cP := fun w0 (hb : Below w.heap.size w w0) => rnum_calls x.person (by have := hF.low 4; simpa only [Pe.Ent.get] using this) (by have := hF.high 4; simpa only [Pe.Ent.get] using this) w0 (H.out.2.2.2.below hb)
  have lP : P.length ≤ 22 := by rw [hP]; have := dec_length x.person (by have := hF.low 4; simp only [Pe.Ent.get] at this; omega) (by have := hF.high 4; simp only [Pe.Ent.get] at this; omega); simp only [List.length_cons]; omega
  rw [← hP] at cP
  obtain ⟨L, hL⟩ : ∃ L, L = 32 :: dec x.place := ⟨_, rfl⟩
  have cL := fun w0 (hb : Below w.heap.size w w0) => rnum_calls x.place (by have := hF.low 5; simpa only [Pe.Ent.get] using this) (by have := hF.high 5; simpa only [Pe.Ent.get] using this) w0 (H.out.2.2.2.below hb)
  have lL : L.length ≤ 22 := by rw [hL]; have := dec_length x.place (by have := hF.low 5; simp only [Pe.Ent.get] at this; omega) (by have := hF.high 5; simp only [Pe.Ent.get] at this; omega); simp only [List.length_cons]; omega
  rw [← hL] at cL
  obtain ⟨O, hO⟩ : ∃ O, O = 32 :: dec x.other := ⟨_, rfl⟩
  have cO := fun w0 (hb : Below w.heap.size w w0) => rnum_calls x.other (by have := hF.low 6; simpa only [Pe.Ent.get] using this) (by have := hF.high 6; simpa only [Pe.Ent.get] using this) w0 (H.out.2.2.2.below hb)
  have lO : O.length ≤ 22 := by rw [hO]; have := dec_length x.other (by have := hF.low 6; simp only [Pe.Ent.get] at this; omega) (by have := hF.high 6; simp only [Pe.Ent.get] at this; omega); simp only [List.length_cons]; omega
  rw [← hO] at cO
  obtain ⟨R, hR⟩ : ∃ R, R = 32 :: dec x.order := ⟨_, rfl⟩
  have cR := fun w0 (hb : Below w.heap.size w w0) => rnum_calls x.order (by have := hF.low 8; simpa only [Pe.Ent.get] using this) (by have := hF.high 8; simpa only [Pe.Ent.get] using this) w0 (H.out.2.2.2.below hb)
  have lR : R.length ≤ 22 := by rw [hR]; have := dec_length x.order (by have := hF.low 8; simp only [Pe.Ent.get] at this; omega) (by have := hF.high 8; simp only [Pe.Ent.get] at this; omega); simp only [List.length_cons]; omega
  rw [← hR] at cR
  obtain ⟨A, hA⟩ : ∃ A, A = 32 :: dec x.at_ := ⟨_, rfl⟩
  have cA := fun w0 (hb : Below w.heap.size w w0) => rnum_calls x.at_ (by have := hF.low 7; simpa only [Pe.Ent.get] using this) (by have := hF.high 7; simpa only [Pe.Ent.get] using this) w0 (H.out.2.2.2.below hb)
  have lA : A.length ≤ 22 := by rw [hA]; have := dec_length x.at_ (by have := hF.low 7; simp only [Pe.Ent.get] at this; omega) (by have := hF.high 7; simp only [Pe.Ent.get] at this; omega); simp only [List.length_cons]; omega
  rw [← hA] at cA
  obtain ⟨S, hS⟩ : ∃ S, S = 32 :: dec x.since := ⟨_, rfl⟩
  have cS := fun w0 (hb : Below w.heap.size w w0) => rnum_calls x.since (by have := hF.low 2; simpa only [Pe.Ent.get] using this) (by have := hF.high 2; simpa only [Pe.Ent.get] using this) w0 (H.out.2.2.2.below hb)
  have lS : S.length ≤ 22 := by rw [hS]; have := dec_length x.since (by have := hF.low 2; simp only [Pe.Ent.get] at this; omega) (by have := hF.high 2; simp only [Pe.Ent.get] at this; omega); simp only [List.length_cons]; omega
  rw [← hS] at cS
  obtain ⟨U, hU⟩ : ∃ U, U = 32 :: dec x.til := ⟨_, rfl⟩
  have cU := fun w0 (hb : Below w.heap.size w w0) => rnum_calls x.til (by have := hF.low 3; simpa only [Pe.Ent.get] using this) (by have := hF.high 3; simpa only [Pe.Ent.get] using this) w0 (H.out.2.2.2.below hb)
  have lU : U.length ≤ 22 := by rw [hU]; have := dec_length x.til (by have := hF.low 3; simp only [Pe.Ent.get] at this; omega) (by have := hF.high 3; simp only [Pe.Ent.get] at this; omega); simp only [List.length_cons]; omega
  rw [← hU] at cU
  obtain ⟨Y, hY⟩ : ∃ Y, Y = S ++ U := ⟨_, rfl⟩
  have aY : Op.stringOp .add (bs S) (bs U) = pure (.string (bs Y)) := by rw [hY]; exact add_bs S U (by omega)
  have lY : Y.length ≤ 44 := by rw [hY, List.length_append]; omega
  obtain ⟨N, hN⟩ : ∃ N, N = x.name := ⟨_, rfl⟩
  rw [← hN] at hnl
  have HC := Lib.hid (And.intro cD (And.intro cP (And.intro cL (And.intro cO (And.intro cR (And.intro cA (And.intro cS cU)))))))
  have HL := Lib.hid (And.intro lD (And.intro lP (And.intro lL (And.intro lO (And.intro lR (And.intro lA (And.intro lS (And.intro lY hnl))))))))
  have HE := Lib.hid (And.intro hD (And.intro hP (And.intro hL (And.intro hO (And.intro hR (And.intro hA (And.intro hS (And.intro hU (And.intro hY (And.intro hN hZl))))))))))
  have hk : x.kind = 1 ∨ x.kind = 2 ∨ x.kind = 3 ∨ x.kind = 4 ∨ x.kind = 5 ∨ x.kind = 6 ∨ x.kind = 7 := by have := hF.kind1; have := hF.kind7; omega
  have HK := Lib.hid hk
  clear cD cP cL cO cR cA cS cU lD lP lL lO lR lA lS lU lY hnl hD hP hL hO hR hA hS hU hY hZl hF hk hN
  have c0 : w1.cell? ⟨ex, 0, none⟩ = some (.int .i64 x.day) := H1.out.2.cell 0
  have c1 : w1.cell? ⟨ex, 1, none⟩ = some (.int .u8 (x.kind : Int)) := H1.out.2.cell 1
  have c2 : w1.cell? ⟨ex, 2, none⟩ = some (.int .i64 x.since) := H1.out.2.cell 2
  have c3 : w1.cell? ⟨ex, 3, none⟩ = some (.int .i64 x.til) := H1.out.2.cell 3
  have c4 : w1.cell? ⟨ex, 4, none⟩ = some (.int .i64 x.person) := H1.out.2.cell 4
  have c5 : w1.cell? ⟨ex, 5, none⟩ = some (.int .i64 x.place) := H1.out.2.cell 5
  have c6 : w1.cell? ⟨ex, 6, none⟩ = some (.int .i64 x.other) := H1.out.2.cell 6
  have c7 : w1.cell? ⟨ex, 7, none⟩ = some (.int .i64 x.at_) := H1.out.2.cell 7
  have c8 : w1.cell? ⟨ex, 8, none⟩ = some (.int .i64 x.order) := H1.out.2.cell 8
  have c9 : w1.cell? ⟨ex, 9, none⟩ = some (.string (bs x.name)) := H1.out.2.cell 9
  go_wp2_with fail
  refine (HC.out.1 w1 H1.out.1).mono ?_
  rintro e w2 ⟨rfl, hB⟩
  have H2 := Lib.hid (And.intro (H1.out.1.trans (hB.mono H1.out.1.size)) (H1.out.2.below hB H1.out.2.lt))
  clear hB
  clear c0 c1 c2 c3 c4 c5 c6 c7 c8 c9
  dsimp only
  have c0 : w2.cell? ⟨ex, 0, none⟩ = some (.int .i64 x.day) := H2.out.2.cell 0
  have c1 : w2.cell? ⟨ex, 1, none⟩ = some (.int .u8 (x.kind : Int)) := H2.out.2.cell 1
  have c2 : w2.cell? ⟨ex, 2, none⟩ = some (.int .i64 x.since) := H2.out.2.cell 2
  have c3 : w2.cell? ⟨ex, 3, none⟩ = some (.int .i64 x.til) := H2.out.2.cell 3
  have c4 : w2.cell? ⟨ex, 4, none⟩ = some (.int .i64 x.person) := H2.out.2.cell 4
  have c5 : w2.cell? ⟨ex, 5, none⟩ = some (.int .i64 x.place) := H2.out.2.cell 5
  have c6 : w2.cell? ⟨ex, 6, none⟩ = some (.int .i64 x.other) := H2.out.2.cell 6
  have c7 : w2.cell? ⟨ex, 7, none⟩ = some (.int .i64 x.at_) := H2.out.2.cell 7
  have c8 : w2.cell? ⟨ex, 8, none⟩ = some (.int .i64 x.order) := H2.out.2.cell 8
  have c9 : w2.cell? ⟨ex, 9, none⟩ = some (.string (bs x.name)) := H2.out.2.cell 9
  go_wp2_with fail
  refine (HC.out.2.1 w2 H2.out.1).mono ?_
  rintro e w3 ⟨rfl, hB⟩
  have H3 := Lib.hid (And.intro (H2.out.1.trans (hB.mono H2.out.1.size)) (H2.out.2.below hB H2.out.2.lt))
  clear hB
  clear c0 c1 c2 c3 c4 c5 c6 c7 c8 c9
  dsimp only
  have c0 : w3.cell? ⟨ex, 0, none⟩ = some (.int .i64 x.day) := H3.out.2.cell 0
  have c1 : w3.cell? ⟨ex, 1, none⟩ = some (.int .u8 (x.kind : Int)) := H3.out.2.cell 1
  have c2 : w3.cell? ⟨ex, 2, none⟩ = some (.int .i64 x.since) := H3.out.2.cell 2
  have c3 : w3.cell? ⟨ex, 3, none⟩ = some (.int .i64 x.til) := H3.out.2.cell 3
  have c4 : w3.cell? ⟨ex, 4, none⟩ = some (.int .i64 x.person) := H3.out.2.cell 4
  have c5 : w3.cell? ⟨ex, 5, none⟩ = some (.int .i64 x.place) := H3.out.2.cell 5
  have c6 : w3.cell? ⟨ex, 6, none⟩ = some (.int .i64 x.other) := H3.out.2.cell 6
  have c7 : w3.cell? ⟨ex, 7, none⟩ = some (.int .i64 x.at_) := H3.out.2.cell 7
  have c8 : w3.cell? ⟨ex, 8, none⟩ = some (.int .i64 x.order) := H3.out.2.cell 8
  have c9 : w3.cell? ⟨ex, 9, none⟩ = some (.string (bs x.name)) := H3.out.2.cell 9
  go_wp2_with fail
  refine (HC.out.2.2.1 w3 H3.out.1).mono ?_
  rintro e w4 ⟨rfl, hB⟩
  have H4 := Lib.hid (And.intro (H3.out.1.trans (hB.mono H3.out.1.size)) (H3.out.2.below hB H3.out.2.lt))
  clear hB
  clear c0 c1 c2 c3 c4 c5 c6 c7 c8 c9
  dsimp only
  have c0 : w4.cell? ⟨ex, 0, none⟩ = some (.int .i64 x.day) := H4.out.2.cell 0
  have c1 : w4.cell? ⟨ex, 1, none⟩ = some (.int .u8 (x.kind : Int)) := H4.out.2.cell 1
  have c2 : w4.cell? ⟨ex, 2, none⟩ = some (.int .i64 x.since) := H4.out.2.cell 2
  have c3 : w4.cell? ⟨ex, 3, none⟩ = some (.int .i64 x.til) := H4.out.2.cell 3
  have c4 : w4.cell? ⟨ex, 4, none⟩ = some (.int .i64 x.person) := H4.out.2.cell 4
  have c5 : w4.cell? ⟨ex, 5, none⟩ = some (.int .i64 x.place) := H4.out.2.cell 5
  have c6 : w4.cell? ⟨ex, 6, none⟩ = some (.int .i64 x.other) := H4.out.2.cell 6
  have c7 : w4.cell? ⟨ex, 7, none⟩ = some (.int .i64 x.at_) := H4.out.2.cell 7
  have c8 : w4.cell? ⟨ex, 8, none⟩ = some (.int .i64 x.order) := H4.out.2.cell 8
  have c9 : w4.cell? ⟨ex, 9, none⟩ = some (.string (bs x.name)) := H4.out.2.cell 9
  go_wp2_with fail
  refine (HC.out.2.2.2.1 w4 H4.out.1).mono ?_
  rintro e w5 ⟨rfl, hB⟩
  have H5 := Lib.hid (And.intro (H4.out.1.trans (hB.mono H4.out.1.size)) (H4.out.2.below hB H4.out.2.lt))
  clear hB
  clear c0 c1 c2 c3 c4 c5 c6 c7 c8 c9
  dsimp only
  have c0 : w5.cell? ⟨ex, 0, none⟩ = some (.int .i64 x.day) := H5.out.2.cell 0
  have c1 : w5.cell? ⟨ex, 1, none⟩ = some (.int .u8 (x.kind : Int)) := H5.out.2.cell 1
  have c2 : w5.cell? ⟨ex, 2, none⟩ = some (.int .i64 x.since) := H5.out.2.cell 2
  have c3 : w5.cell? ⟨ex, 3, none⟩ = some (.int .i64 x.til) := H5.out.2.cell 3
  have c4 : w5.cell? ⟨ex, 4, none⟩ = some (.int .i64 x.person) := H5.out.2.cell 4
  have c5 : w5.cell? ⟨ex, 5, none⟩ = some (.int .i64 x.place) := H5.out.2.cell 5
  have c6 : w5.cell? ⟨ex, 6, none⟩ = some (.int .i64 x.other) := H5.out.2.cell 6
  have c7 : w5.cell? ⟨ex, 7, none⟩ = some (.int .i64 x.at_) := H5.out.2.cell 7
  have c8 : w5.cell? ⟨ex, 8, none⟩ = some (.int .i64 x.order) := H5.out.2.cell 8
  have c9 : w5.cell? ⟨ex, 9, none⟩ = some (.string (bs x.name)) := H5.out.2.cell 9
  go_wp2_with fail
  refine (HC.out.2.2.2.2.1 w5 H5.out.1).mono ?_
  rintro e w6 ⟨rfl, hB⟩
  have H6 := Lib.hid (And.intro (H5.out.1.trans (hB.mono H5.out.1.size)) (H5.out.2.below hB H5.out.2.lt))
  clear hB
  clear c0 c1 c2 c3 c4 c5 c6 c7 c8 c9
  dsimp only
  have c0 : w6.cell? ⟨ex, 0, none⟩ = some (.int .i64 x.day) := H6.out.2.cell 0
  have c1 : w6.cell? ⟨ex, 1, none⟩ = some (.int .u8 (x.kind : Int)) := H6.out.2.cell 1
  have c2 : w6.cell? ⟨ex, 2, none⟩ = some (.int .i64 x.since) := H6.out.2.cell 2
  have c3 : w6.cell? ⟨ex, 3, none⟩ = some (.int .i64 x.til) := H6.out.2.cell 3
  have c4 : w6.cell? ⟨ex, 4, none⟩ = some (.int .i64 x.person) := H6.out.2.cell 4
  have c5 : w6.cell? ⟨ex, 5, none⟩ = some (.int .i64 x.place) := H6.out.2.cell 5
  have c6 : w6.cell? ⟨ex, 6, none⟩ = some (.int .i64 x.other) := H6.out.2.cell 6
  have c7 : w6.cell? ⟨ex, 7, none⟩ = some (.int .i64 x.at_) := H6.out.2.cell 7
  have c8 : w6.cell? ⟨ex, 8, none⟩ = some (.int .i64 x.order) := H6.out.2.cell 8
  have c9 : w6.cell? ⟨ex, 9, none⟩ = some (.string (bs x.name)) := H6.out.2.cell 9
  go_wp2_with fail
  refine (HC.out.2.2.2.2.2.1 w6 H6.out.1).mono ?_
  rintro e w7 ⟨rfl, hB⟩
  have H7 := Lib.hid (And.intro (H6.out.1.trans (hB.mono H6.out.1.size)) (H6.out.2.below hB H6.out.2.lt))
  clear hB
  clear c0 c1 c2 c3 c4 c5 c6 c7 c8 c9
  dsimp only
  have c0 : w7.cell? ⟨ex, 0, none⟩ = some (.int .i64 x.day) := H7.out.2.cell 0
  have c1 : w7.cell? ⟨ex, 1, none⟩ = some (.int .u8 (x.kind : Int)) := H7.out.2.cell 1
  have c2 : w7.cell? ⟨ex, 2, none⟩ = some (.int .i64 x.since) := H7.out.2.cell 2
  have c3 : w7.cell? ⟨ex, 3, none⟩ = some (.int .i64 x.til) := H7.out.2.cell 3
  have c4 : w7.cell? ⟨ex, 4, none⟩ = some (.int .i64 x.person) := H7.out.2.cell 4
  have c5 : w7.cell? ⟨ex, 5, none⟩ = some (.int .i64 x.place) := H7.out.2.cell 5
  have c6 : w7.cell? ⟨ex, 6, none⟩ = some (.int .i64 x.other) := H7.out.2.cell 6
  have c7 : w7.cell? ⟨ex, 7, none⟩ = some (.int .i64 x.at_) := H7.out.2.cell 7
  have c8 : w7.cell? ⟨ex, 8, none⟩ = some (.int .i64 x.order) := H7.out.2.cell 8
  have c9 : w7.cell? ⟨ex, 9, none⟩ = some (.string (bs x.name)) := H7.out.2.cell 9
  go_wp2_with fail
  refine (HC.out.2.2.2.2.2.2.1 w7 H7.out.1).mono ?_
  rintro e w8 ⟨rfl, hB⟩
  have H8 := Lib.hid (And.intro (H7.out.1.trans (hB.mono H7.out.1.size)) (H7.out.2.below hB H7.out.2.lt))
  clear hB
  clear c0 c1 c2 c3 c4 c5 c6 c7 c8 c9
  dsimp only
  have c0 : w8.cell? ⟨ex, 0, none⟩ = some (.int .i64 x.day) := H8.out.2.cell 0
  have c1 : w8.cell? ⟨ex, 1, none⟩ = some (.int .u8 (x.kind : Int)) := H8.out.2.cell 1
  have c2 : w8.cell? ⟨ex, 2, none⟩ = some (.int .i64 x.since) := H8.out.2.cell 2
  have c3 : w8.cell? ⟨ex, 3, none⟩ = some (.int .i64 x.til) := H8.out.2.cell 3
  have c4 : w8.cell? ⟨ex, 4, none⟩ = some (.int .i64 x.person) := H8.out.2.cell 4
  have c5 : w8.cell? ⟨ex, 5, none⟩ = some (.int .i64 x.place) := H8.out.2.cell 5
  have c6 : w8.cell? ⟨ex, 6, none⟩ = some (.int .i64 x.other) := H8.out.2.cell 6
  have c7 : w8.cell? ⟨ex, 7, none⟩ = some (.int .i64 x.at_) := H8.out.2.cell 7
  have c8 : w8.cell? ⟨ex, 8, none⟩ = some (.int .i64 x.order) := H8.out.2.cell 8
  have c9 : w8.cell? ⟨ex, 9, none⟩ = some (.string (bs x.name)) := H8.out.2.cell 9
  go_wp2_with fail
  refine (HC.out.2.2.2.2.2.2.2 w8 H8.out.1).mono ?_
  rintro e w9 ⟨rfl, hB⟩
  have H9 := Lib.hid (And.intro (H8.out.1.trans (hB.mono H8.out.1.size)) (H8.out.2.below hB H8.out.2.lt))
  clear hB
  clear c0 c1 c2 c3 c4 c5 c6 c7 c8 c9
  dsimp only
  go_upto_region 12 with fail
  clear aY
  have e1 : w9.cell? ⟨ex, 1, none⟩ = some (.int .u8 (x.kind : Int)) := H9.out.2.cell 1
  have e9 : w9.cell? ⟨ex, 9, none⟩ = some (.string (bs x.name)) := H9.out.2.cell 9
  rw [← HE.out.2.2.2.2.2.2.2.2.2.1] at e9
  obtain ⟨lD, lP, lL, lO, lR, lA, lS, lY, lN⟩ := HL.out
  rcases HK.out with hk | hk | hk | hk | hk | hk | hk
  · rw [hk] at e1
    obtain ⟨T1, hT1⟩ : ∃ T, T = D ++ [32, 110, 97, 109, 101] := ⟨_, rfl⟩
    have l1 : T1.length ≤ 27 := by rw [hT1, List.length_append]; simp only [List.length_cons, List.length_nil]; omega
    have a1 : Op.stringOp .add (bs D) ⟨#[32, 110, 97, 109, 101]⟩ = pure (.string (bs T1)) := by rw [hT1]; exact add_bs D [32, 110, 97, 109, 101] (by simp only [List.length_cons, List.length_nil]; omega)
    obtain ⟨T2, hT2⟩ : ∃ T, T = T1 ++ P := ⟨_, rfl⟩
    have l2 : T2.length ≤ 49 := by rw [hT2, List.length_append]; omega
    have a2 : Op.stringOp .add (bs T1) (bs P) = pure (.string (bs T2)) := by rw [hT2]; exact add_bs T1 P (by omega)
    obtain ⟨T3, hT3⟩ : ∃ T, T = T2 ++ Y := ⟨_, rfl⟩
    have l3 : T3.length ≤ 93 := by rw [hT3, List.length_append]; omega
    have a3 : Op.stringOp .add (bs T2) (bs Y) = pure (.string (bs T3)) := by rw [hT3]; exact add_bs T2 Y (by omega)
    obtain ⟨T4, hT4⟩ : ∃ T, T = T3 ++ [32] := ⟨_, rfl⟩
    have l4 : T4.length ≤ 94 := by rw [hT4, List.length_append]; simp only [List.length_cons, List.length_nil]; omega
    have a4 : Op.stringOp .add (bs T3) ⟨#[32]⟩ = pure (.string (bs T4)) := by rw [hT4]; exact add_bs T3 [32] (by simp only [List.length_cons, List.length_nil]; omega)
    obtain ⟨T5, hT5⟩ : ∃ T, T = T4 ++ N := ⟨_, rfl⟩
    have l5 : T5.length ≤ 118 := by rw [hT5, List.length_append]; omega
    have a5 : Op.stringOp .add (bs T4) (bs N) = pure (.string (bs T5)) := by rw [hT5]; exact add_bs T4 N (by omega)
    have hfin : Z = bs T5 := by
      rw [HE.out.2.2.2.2.2.2.2.2.2.2]
      refine congrArg bs ?_
      rw [hT5, hT4, hT3, hT2, hT1]
      obtain ⟨g1, g2, g3, g4, g5, g6, g7, g8, g9, g10, _⟩ := HE.out
      rw [g10, g9, g1, g2, g7, g8]
      unfold Pe.line Pe.head Pe.tail Pe.nums
      rw [hk]
      simp [Pe.offs, Pe.word, Pe.Ent.get]
    have HZ := Lib.hid hfin
    clear hfin hk lD lP lL lO lR lA lS lY lN hT1 hT2 hT3 hT4 hT5 l1 l2 l3 l4 l5
    go_wp2
    go_ret2
    refine ⟨?_, H9.out.1⟩
    rw [HZ.out]; rfl
  · rw [hk] at e1
    obtain ⟨T1, hT1⟩ : ∃ T, T = D ++ [32, 108, 105, 118, 101] := ⟨_, rfl⟩
    have l1 : T1.length ≤ 27 := by rw [hT1, List.length_append]; simp only [List.length_cons, List.length_nil]; omega
    have a1 : Op.stringOp .add (bs D) ⟨#[32, 108, 105, 118, 101]⟩ = pure (.string (bs T1)) := by rw [hT1]; exact add_bs D [32, 108, 105, 118, 101] (by simp only [List.length_cons, List.length_nil]; omega)
    obtain ⟨T2, hT2⟩ : ∃ T, T = T1 ++ P := ⟨_, rfl⟩
    have l2 : T2.length ≤ 49 := by rw [hT2, List.length_append]; omega
    have a2 : Op.stringOp .add (bs T1) (bs P) = pure (.string (bs T2)) := by rw [hT2]; exact add_bs T1 P (by omega)
    obtain ⟨T3, hT3⟩ : ∃ T, T = T2 ++ L := ⟨_, rfl⟩
    have l3 : T3.length ≤ 71 := by rw [hT3, List.length_append]; omega
    have a3 : Op.stringOp .add (bs T2) (bs L) = pure (.string (bs T3)) := by rw [hT3]; exact add_bs T2 L (by omega)
    obtain ⟨T4, hT4⟩ : ∃ T, T = T3 ++ Y := ⟨_, rfl⟩
    have l4 : T4.length ≤ 115 := by rw [hT4, List.length_append]; omega
    have a4 : Op.stringOp .add (bs T3) (bs Y) = pure (.string (bs T4)) := by rw [hT4]; exact add_bs T3 Y (by omega)
    have hfin : Z = bs T4 := by
      rw [HE.out.2.2.2.2.2.2.2.2.2.2]
      refine congrArg bs ?_
      rw [hT4, hT3, hT2, hT1]
      obtain ⟨g1, g2, g3, g4, g5, g6, g7, g8, g9, g10, _⟩ := HE.out
      rw [g9, g1, g2, g3, g7, g8]
      unfold Pe.line Pe.head Pe.tail Pe.nums
      rw [hk]
      simp [Pe.offs, Pe.word, Pe.Ent.get]
    have HZ := Lib.hid hfin
    clear hfin hk lD lP lL lO lR lA lS lY lN hT1 hT2 hT3 hT4 l1 l2 l3 l4
    go_wp2
    go_ret2
    refine ⟨?_, H9.out.1⟩
    rw [HZ.out]; rfl
  · rw [hk] at e1
    obtain ⟨T1, hT1⟩ : ∃ T, T = D ++ [32, 100, 101, 97, 116, 104] := ⟨_, rfl⟩
    have l1 : T1.length ≤ 28 := by rw [hT1, List.length_append]; simp only [List.length_cons, List.length_nil]; omega
    have a1 : Op.stringOp .add (bs D) ⟨#[32, 100, 101, 97, 116, 104]⟩ = pure (.string (bs T1)) := by rw [hT1]; exact add_bs D [32, 100, 101, 97, 116, 104] (by simp only [List.length_cons, List.length_nil]; omega)
    obtain ⟨T2, hT2⟩ : ∃ T, T = T1 ++ P := ⟨_, rfl⟩
    have l2 : T2.length ≤ 50 := by rw [hT2, List.length_append]; omega
    have a2 : Op.stringOp .add (bs T1) (bs P) = pure (.string (bs T2)) := by rw [hT2]; exact add_bs T1 P (by omega)
    obtain ⟨T3, hT3⟩ : ∃ T, T = T2 ++ S := ⟨_, rfl⟩
    have l3 : T3.length ≤ 72 := by rw [hT3, List.length_append]; omega
    have a3 : Op.stringOp .add (bs T2) (bs S) = pure (.string (bs T3)) := by rw [hT3]; exact add_bs T2 S (by omega)
    have hfin : Z = bs T3 := by
      rw [HE.out.2.2.2.2.2.2.2.2.2.2]
      refine congrArg bs ?_
      rw [hT3, hT2, hT1]
      obtain ⟨g1, g2, g3, g4, g5, g6, g7, g8, g9, g10, _⟩ := HE.out
      rw [g1, g2, g7]
      unfold Pe.line Pe.head Pe.tail Pe.nums
      rw [hk]
      simp [Pe.offs, Pe.word, Pe.Ent.get]
    have HZ := Lib.hid hfin
    clear hfin hk lD lP lL lO lR lA lS lY lN hT1 hT2 hT3 l1 l2 l3
    go_wp2
    go_ret2
    refine ⟨?_, H9.out.1⟩
    rw [HZ.out]; rfl
  · rw [hk] at e1
    obtain ⟨T1, hT1⟩ : ∃ T, T = D ++ [32, 104, 101, 105, 114] := ⟨_, rfl⟩
    have l1 : T1.length ≤ 27 := by rw [hT1, List.length_append]; simp only [List.length_cons, List.length_nil]; omega
    have a1 : Op.stringOp .add (bs D) ⟨#[32, 104, 101, 105, 114]⟩ = pure (.string (bs T1)) := by rw [hT1]; exact add_bs D [32, 104, 101, 105, 114] (by simp only [List.length_cons, List.length_nil]; omega)
    obtain ⟨T2, hT2⟩ : ∃ T, T = T1 ++ P := ⟨_, rfl⟩
    have l2 : T2.length ≤ 49 := by rw [hT2, List.length_append]; omega
    have a2 : Op.stringOp .add (bs T1) (bs P) = pure (.string (bs T2)) := by rw [hT2]; exact add_bs T1 P (by omega)
    obtain ⟨T3, hT3⟩ : ∃ T, T = T2 ++ O := ⟨_, rfl⟩
    have l3 : T3.length ≤ 71 := by rw [hT3, List.length_append]; omega
    have a3 : Op.stringOp .add (bs T2) (bs O) = pure (.string (bs T3)) := by rw [hT3]; exact add_bs T2 O (by omega)
    obtain ⟨T4, hT4⟩ : ∃ T, T = T3 ++ Y := ⟨_, rfl⟩
    have l4 : T4.length ≤ 115 := by rw [hT4, List.length_append]; omega
    have a4 : Op.stringOp .add (bs T3) (bs Y) = pure (.string (bs T4)) := by rw [hT4]; exact add_bs T3 Y (by omega)
    have hfin : Z = bs T4 := by
      rw [HE.out.2.2.2.2.2.2.2.2.2.2]
      refine congrArg bs ?_
      rw [hT4, hT3, hT2, hT1]
      obtain ⟨g1, g2, g3, g4, g5, g6, g7, g8, g9, g10, _⟩ := HE.out
      rw [g9, g1, g2, g4, g7, g8]
      unfold Pe.line Pe.head Pe.tail Pe.nums
      rw [hk]
      simp [Pe.offs, Pe.word, Pe.Ent.get]
    have HZ := Lib.hid hfin
    clear hfin hk lD lP lL lO lR lA lS lY lN hT1 hT2 hT3 hT4 l1 l2 l3 l4
    go_wp2
    go_ret2
    refine ⟨?_, H9.out.1⟩
    rw [HZ.out]; rfl
  · rw [hk] at e1
    obtain ⟨T1, hT1⟩ : ∃ T, T = D ++ [32, 114, 101, 100, 105, 114, 101, 99, 116] := ⟨_, rfl⟩
    have l1 : T1.length ≤ 31 := by rw [hT1, List.length_append]; simp only [List.length_cons, List.length_nil]; omega
    have a1 : Op.stringOp .add (bs D) ⟨#[32, 114, 101, 100, 105, 114, 101, 99, 116]⟩ = pure (.string (bs T1)) := by rw [hT1]; exact add_bs D [32, 114, 101, 100, 105, 114, 101, 99, 116] (by simp only [List.length_cons, List.length_nil]; omega)
    obtain ⟨T2, hT2⟩ : ∃ T, T = T1 ++ R := ⟨_, rfl⟩
    have l2 : T2.length ≤ 53 := by rw [hT2, List.length_append]; omega
    have a2 : Op.stringOp .add (bs T1) (bs R) = pure (.string (bs T2)) := by rw [hT2]; exact add_bs T1 R (by omega)
    obtain ⟨T3, hT3⟩ : ∃ T, T = T2 ++ P := ⟨_, rfl⟩
    have l3 : T3.length ≤ 75 := by rw [hT3, List.length_append]; omega
    have a3 : Op.stringOp .add (bs T2) (bs P) = pure (.string (bs T3)) := by rw [hT3]; exact add_bs T2 P (by omega)
    obtain ⟨T4, hT4⟩ : ∃ T, T = T3 ++ L := ⟨_, rfl⟩
    have l4 : T4.length ≤ 97 := by rw [hT4, List.length_append]; omega
    have a4 : Op.stringOp .add (bs T3) (bs L) = pure (.string (bs T4)) := by rw [hT4]; exact add_bs T3 L (by omega)
    obtain ⟨T5, hT5⟩ : ∃ T, T = T4 ++ O := ⟨_, rfl⟩
    have l5 : T5.length ≤ 119 := by rw [hT5, List.length_append]; omega
    have a5 : Op.stringOp .add (bs T4) (bs O) = pure (.string (bs T5)) := by rw [hT5]; exact add_bs T4 O (by omega)
    obtain ⟨T6, hT6⟩ : ∃ T, T = T5 ++ A := ⟨_, rfl⟩
    have l6 : T6.length ≤ 141 := by rw [hT6, List.length_append]; omega
    have a6 : Op.stringOp .add (bs T5) (bs A) = pure (.string (bs T6)) := by rw [hT6]; exact add_bs T5 A (by omega)
    obtain ⟨T7, hT7⟩ : ∃ T, T = T6 ++ Y := ⟨_, rfl⟩
    have l7 : T7.length ≤ 185 := by rw [hT7, List.length_append]; omega
    have a7 : Op.stringOp .add (bs T6) (bs Y) = pure (.string (bs T7)) := by rw [hT7]; exact add_bs T6 Y (by omega)
    have hfin : Z = bs T7 := by
      rw [HE.out.2.2.2.2.2.2.2.2.2.2]
      refine congrArg bs ?_
      rw [hT7, hT6, hT5, hT4, hT3, hT2, hT1]
      obtain ⟨g1, g2, g3, g4, g5, g6, g7, g8, g9, g10, _⟩ := HE.out
      rw [g9, g1, g5, g2, g3, g4, g6, g7, g8]
      unfold Pe.line Pe.head Pe.tail Pe.nums
      rw [hk]
      simp [Pe.offs, Pe.word, Pe.Ent.get]
    have HZ := Lib.hid hfin
    clear hfin hk lD lP lL lO lR lA lS lY lN hT1 hT2 hT3 hT4 hT5 hT6 hT7 l1 l2 l3 l4 l5 l6 l7
    go_wp2
    go_ret2
    refine ⟨?_, H9.out.1⟩
    rw [HZ.out]; rfl
  · rw [hk] at e1
    obtain ⟨T1, hT1⟩ : ∃ T, T = D ++ [32, 99, 97, 110, 99, 101, 108] := ⟨_, rfl⟩
    have l1 : T1.length ≤ 29 := by rw [hT1, List.length_append]; simp only [List.length_cons, List.length_nil]; omega
    have a1 : Op.stringOp .add (bs D) ⟨#[32, 99, 97, 110, 99, 101, 108]⟩ = pure (.string (bs T1)) := by rw [hT1]; exact add_bs D [32, 99, 97, 110, 99, 101, 108] (by simp only [List.length_cons, List.length_nil]; omega)
    obtain ⟨T2, hT2⟩ : ∃ T, T = T1 ++ R := ⟨_, rfl⟩
    have l2 : T2.length ≤ 51 := by rw [hT2, List.length_append]; omega
    have a2 : Op.stringOp .add (bs T1) (bs R) = pure (.string (bs T2)) := by rw [hT2]; exact add_bs T1 R (by omega)
    obtain ⟨T3, hT3⟩ : ∃ T, T = T2 ++ S := ⟨_, rfl⟩
    have l3 : T3.length ≤ 73 := by rw [hT3, List.length_append]; omega
    have a3 : Op.stringOp .add (bs T2) (bs S) = pure (.string (bs T3)) := by rw [hT3]; exact add_bs T2 S (by omega)
    have hfin : Z = bs T3 := by
      rw [HE.out.2.2.2.2.2.2.2.2.2.2]
      refine congrArg bs ?_
      rw [hT3, hT2, hT1]
      obtain ⟨g1, g2, g3, g4, g5, g6, g7, g8, g9, g10, _⟩ := HE.out
      rw [g1, g5, g7]
      unfold Pe.line Pe.head Pe.tail Pe.nums
      rw [hk]
      simp [Pe.offs, Pe.word, Pe.Ent.get]
    have HZ := Lib.hid hfin
    clear hfin hk lD lP lL lO lR lA lS lY lN hT1 hT2 hT3 l1 l2 l3
    go_wp2
    go_ret2
    refine ⟨?_, H9.out.1⟩
    rw [HZ.out]; rfl
  · rw [hk] at e1
    obtain ⟨T1, hT1⟩ : ∃ T, T = D ++ [32, 114, 101, 102, 117, 115, 101] := ⟨_, rfl⟩
    have l1 : T1.length ≤ 29 := by rw [hT1, List.length_append]; simp only [List.length_cons, List.length_nil]; omega
    have a1 : Op.stringOp .add (bs D) ⟨#[32, 114, 101, 102, 117, 115, 101]⟩ = pure (.string (bs T1)) := by rw [hT1]; exact add_bs D [32, 114, 101, 102, 117, 115, 101] (by simp only [List.length_cons, List.length_nil]; omega)
    obtain ⟨T2, hT2⟩ : ∃ T, T = T1 ++ P := ⟨_, rfl⟩
    have l2 : T2.length ≤ 51 := by rw [hT2, List.length_append]; omega
    have a2 : Op.stringOp .add (bs T1) (bs P) = pure (.string (bs T2)) := by rw [hT2]; exact add_bs T1 P (by omega)
    obtain ⟨T3, hT3⟩ : ∃ T, T = T2 ++ L := ⟨_, rfl⟩
    have l3 : T3.length ≤ 73 := by rw [hT3, List.length_append]; omega
    have a3 : Op.stringOp .add (bs T2) (bs L) = pure (.string (bs T3)) := by rw [hT3]; exact add_bs T2 L (by omega)
    obtain ⟨T4, hT4⟩ : ∃ T, T = T3 ++ O := ⟨_, rfl⟩
    have l4 : T4.length ≤ 95 := by rw [hT4, List.length_append]; omega
    have a4 : Op.stringOp .add (bs T3) (bs O) = pure (.string (bs T4)) := by rw [hT4]; exact add_bs T3 O (by omega)
    obtain ⟨T5, hT5⟩ : ∃ T, T = T4 ++ Y := ⟨_, rfl⟩
    have l5 : T5.length ≤ 139 := by rw [hT5, List.length_append]; omega
    have a5 : Op.stringOp .add (bs T4) (bs Y) = pure (.string (bs T5)) := by rw [hT5]; exact add_bs T4 Y (by omega)
    have hfin : Z = bs T5 := by
      rw [HE.out.2.2.2.2.2.2.2.2.2.2]
      refine congrArg bs ?_
      rw [hT5, hT4, hT3, hT2, hT1]
      obtain ⟨g1, g2, g3, g4, g5, g6, g7, g8, g9, g10, _⟩ := HE.out
      rw [g9, g1, g2, g3, g4, g7, g8]
      unfold Pe.line Pe.head Pe.tail Pe.nums
      rw [hk]
      simp [Pe.offs, Pe.word, Pe.Ent.get]
    have HZ := Lib.hid hfin
    clear hfin hk lD lP lL lO lR lA lS lY lN hT1 hT2 hT3 hT4 hT5 l1 l2 l3 l4 l5
    go_wp2
    go_ret2
    refine ⟨?_, H9.out.1⟩
    rw [HZ.out]; rfl

end Go.Proofs.YtfalajomfcfliaaGreatDoor
