/-
  The journal in memory and what it holds; lists of texts compared.
-/
import Derived.Test.YtdnjelggdjimhaaJw6
import Derived.Test.YtdnjelggdjimhaaJp5
namespace Go.Proofs.Ytdnjelggdjimhaa
open Go.RowKit

/-- A list of texts. -/
structure TextsAt (w : World) (A : Option Addr) (n : Nat) (l : List (List UInt8)) : Prop where
  len : n = l.length
  most : n ≤ 9223372036854775807
  at_ : l = [] ∨ ∃ ad, A = some ad ∧ ad.block < w.heap.size ∧ ∀ i s, l[i]? = some s → w.cell? (ad.add i) = some (.string (bs s))
theorem TextsAt.below {w w' : World} {A : Option Addr} {n : Nat} {l : List (List UInt8)} (h : TextsAt w A n l) (hb : Below w.heap.size w w') : TextsAt w' A n l := by
  refine ⟨h.len, h.most, h.at_.imp id ?_⟩
  rintro ⟨ad, hA, hl, hc⟩
  refine ⟨ad, hA, Nat.lt_of_lt_of_le hl hb.size, fun i s hi => ?_⟩
  have hbl : (ad.add i).block = ad.block := by unfold Addr.add; split <;> rfl
  rw [hb.cell (by rw [hbl]; exact hl)]
  exact hc i s hi
theorem bs_inj (a b : List UInt8) : ((bs a).toList == (bs b).toList) = decide (a = b) := by
  have : ∀ l, (bs l).toList = l := fun l => by rw [ByteArray.toList_eq]; simp [bs]
  rw [this, this]
  by_cases h : a = b
  · simp [h]
  · rw [decide_eq_false h]; simpa using h
theorem own_texts {w : World} {base n : Nat} {v : Value} {l : List (List UInt8)} (h : w.ownsRow base 9 1 v n (svs l)) (hn : n = l.length) : ∃ A c, v = .slice A n c ∧ TextsAt w A n l := by
  obtain ⟨A, c, rfl, hlc, hcm⟩ := own_shape h
  refine ⟨A, c, rfl, hn, by simp only [maxLen] at hcm; omega, ?_⟩
  by_cases h0 : n = 0
  · left; exact List.eq_nil_of_length_eq_zero (by omega)
  · right
    obtain ⟨g, cap, hv, _, hlt, _⟩ := own_form h (by omega)
    obtain ⟨rfl, _, rfl⟩ : A = some ⟨g, 0, none⟩ ∧ n = n ∧ c = cap := by injection hv with h1 h2 h3; exact ⟨h1, h2, h3⟩
    refine ⟨_, rfl, hlt, fun i s hi => ?_⟩
    rw [Addr.add_mid]
    have := own_range h i [.string (bs s)] (fun j v hv => by
      match j, hv with
      | 0, hv => simp at hv; subst hv; simp [svs, hi]) 0 _ rfl
    simpa using this

set_option maxHeartbeats 1000000 in
theorem same_calls (A B : Option Addr) (n m c e : Nat) (l k : List (List UInt8)) (w : World) (h1 : TextsAt w A n l) (h2 : TextsAt w B m k) :
    Calls Try.prog 22 #[.slice A n c, .slice B m e] w fun e w' => e = .returned (.bool (decide (l = k))) ∧ Chg (fun _ => False) w w' := by
  have hl := h1.len
  have hk := h2.len
  have hmost := h1.most
  by_cases hnm : n = m
  case neg =>
    have hd : ((n : Int) == (m : Int)) = false := by simp; omega
    have hne : decide (l = k) = false := decide_eq_false (fun e => hnm (by rw [hl, hk, e]))
    clear hl hk
    go_enter Try.func22, Try.ntmps22
    go_wp2
    go_ret
    exact ⟨by rw [hne]; rfl, Chg.refl _ _⟩
  subst hnm
  have H := Lib.hid (And.intro h1 (And.intro h2 (And.intro hl hk)))
  clear h1 h2 hl hk
  go_enter Try.func22, Try.ntmps22
  go_wp2_with fail
  go_loopg [5] n (fun q s5 wr => ∃ i : Nat, s5 = .int .i64 (i : Int) ∧ i + q = n ∧ Hid (l.take i = k.take i ∧ Chg (fun _ => False) w wr))
  case atStart => exact ⟨0, rfl, by omega, Lib.hid ⟨rfl, Chg.refl _ _⟩⟩
  case round =>
    obtain ⟨i, rfl, hi, hR⟩ := hrel
    obtain ⟨h1, h2, hl, hk⟩ := H.out
    cases gk with
    | zero =>
      obtain rfl : i = n := by omega
      have hlk : l = k := by
        have := hR.out.1
        rwa [List.take_of_length_le (by omega), List.take_of_length_le (by omega)] at this
      have HLK := Lib.hid hlk
      clear hl hk h1 h2 hlk
      go_wp2
      go_ret
      refine ⟨?_, hR.out.2⟩
      rw [decide_eq_true HLK.out]; rfl
    | succ f =>
      have hin : i < n := by omega
      obtain ⟨s, hs⟩ : ∃ s, l[i]? = some s := ⟨_, List.getElem?_eq_getElem (by omega)⟩
      obtain ⟨t, ht⟩ : ∃ t, k[i]? = some t := ⟨_, List.getElem?_eq_getElem (by omega)⟩
      obtain ⟨ad, rfl, hadl, hc1⟩ := h1.at_.resolve_left (fun e => by rw [e] at hs; cases hs)
      obtain ⟨bd, rfl, hbdl, hc2⟩ := h2.at_.resolve_left (fun e => by rw [e] at ht; cases ht)
      have hb1 : (ad.add i).block = ad.block := by unfold Addr.add; split <;> rfl
      have hb2 : (bd.add i).block = bd.block := by unfold Addr.add; split <;> rfl
      have hca : wr.cell? (ad.add i) = some (.string (bs s)) := by rw [hR.out.2.cell (by rw [hb1]; exact hadl) (fun h => h)]; exact hc1 i s hs
      have hcb : wr.cell? (bd.add i) = some (.string (bs t)) := by rw [hR.out.2.cell (by rw [hb2]; exact hbdl) (fun h => h)]; exact hc2 i t ht
      have hst := bs_inj s t
      obtain ⟨S, hS⟩ : ∃ S, S = bs s := ⟨_, rfl⟩
      obtain ⟨T, hT⟩ : ∃ T, T = bs t := ⟨_, rfl⟩
      rw [← hS] at hca hst
      rw [← hT] at hcb hst
      obtain ⟨q, hq⟩ : ∃ q : Bool, q = decide (s = t) := ⟨_, rfl⟩
      rw [← hq] at hst
      have HST := Lib.hid (And.intro hs (And.intro ht hq))
      clear hq
      clear hs ht hc1 hc2 hS hT hb1 hb2 h1 h2 hl hk
      go_wp2_with fail
      refine wp_region_R (RL [(3, fun w' => w'.cell? (ad.add i) = some (.string S)), (7, fun w' => w'.cell? (bd.add i) = some (.string T))]) (by kernel_rfl) (RL_cons hca (RL_cons hcb (RL_nil _))) (fun hp => ?_)
      refine wpAnyR_take (i := 0) (oi := ⟨some 17, _, _, _, _, _⟩) (v := ?_) rfl (by kernel_rfl) (by kernel_rfl) (by kernel_rfl) (fun _ _ _ h => h) hp (.inl ⟨by rfl, fun w _ => ?_⟩) (fun hq => ?_)
      rotate_left
      · go_simp
        with_reducible rfl
      clear hp; have hp := hq; clear hq
      try simp only [Act.put, List.setIfInBounds_toArray, List.set_cons_zero, List.set_cons_succ]
      refine wpAnyR_take (i := 1) (oi := ⟨some 18, _, _, _, _, _⟩) (v := ?_) rfl (by kernel_rfl) (by kernel_rfl) (by kernel_rfl) (fun _ _ _ h => h) hp (.inl ⟨by rfl, fun w _ => ?_⟩) (fun hq => ?_)
      rotate_left
      · go_simp
        with_reducible rfl
      clear hp; have hp := hq; clear hq
      try simp only [Act.put, List.setIfInBounds_toArray, List.set_cons_zero, List.set_cons_succ]
      refine wpAnyR_take (i := 2) (oi := ⟨some 19, _, _, _, _, _⟩) (v := ?_) rfl (by kernel_rfl) (by kernel_rfl) (by kernel_rfl) (fun _ _ _ h => h) hp (.inl ⟨by rfl, fun w _ => ?_⟩) (fun hq => ?_)
      rotate_left
      · go_simp
        with_reducible rfl
      clear hp; have hp := hq; clear hq
      try simp only [Act.put, List.setIfInBounds_toArray, List.set_cons_zero, List.set_cons_succ]
      refine wpAnyR_take (i := 3) (oi := ⟨some 20, _, _, _, _, _⟩) (v := ?_) rfl (by kernel_rfl) (by kernel_rfl) (by kernel_rfl) (fun _ _ _ h => h) hp (.inl ⟨by rfl, fun w hR => ?_⟩) (fun hq => ?_)
      rotate_left
      · have hR := hR.1 rfl
        (try dsimp only at hR)
        go_simp
        with_reducible rfl
      clear hp; have hp := hq; clear hq
      try simp only [Act.put, List.setIfInBounds_toArray, List.set_cons_zero, List.set_cons_succ]
      refine wpAnyR_take (i := 4) (oi := ⟨some 21, _, _, _, _, _⟩) (v := ?_) rfl (by kernel_rfl) (by kernel_rfl) (by kernel_rfl) (fun _ _ _ h => h) hp (.inl ⟨by rfl, fun w _ => ?_⟩) (fun hq => ?_)
      rotate_left
      · go_simp
        with_reducible rfl
      clear hp; have hp := hq; clear hq
      try simp only [Act.put, List.setIfInBounds_toArray, List.set_cons_zero, List.set_cons_succ]
      refine wpAnyR_take (i := 5) (oi := ⟨some 22, _, _, _, _, _⟩) (v := ?_) rfl (by kernel_rfl) (by kernel_rfl) (by kernel_rfl) (fun _ _ _ h => h) hp (.inl ⟨by rfl, fun w _ => ?_⟩) (fun hq => ?_)
      rotate_left
      · go_simp
        with_reducible rfl
      clear hp; have hp := hq; clear hq
      try simp only [Act.put, List.setIfInBounds_toArray, List.set_cons_zero, List.set_cons_succ]
      refine wpAnyR_take (i := 6) (oi := ⟨some 23, _, _, _, _, _⟩) (v := ?_) rfl (by kernel_rfl) (by kernel_rfl) (by kernel_rfl) (fun _ _ _ h => h) hp (.inl ⟨by rfl, fun w _ => ?_⟩) (fun hq => ?_)
      rotate_left
      · go_simp
        with_reducible rfl
      clear hp; have hp := hq; clear hq
      try simp only [Act.put, List.setIfInBounds_toArray, List.set_cons_zero, List.set_cons_succ]
      refine wpAnyR_take (i := 7) (oi := ⟨some 24, _, _, _, _, _⟩) (v := ?_) rfl (by kernel_rfl) (by kernel_rfl) (by kernel_rfl) (fun _ _ _ h => h) hp (.inl ⟨by rfl, fun w hR => ?_⟩) (fun hq => ?_)
      rotate_left
      · have hR := hR.2.1 rfl
        (try dsimp only at hR)
        go_simp
        with_reducible rfl
      clear hp; have hp := hq; clear hq
      try simp only [Act.put, List.setIfInBounds_toArray, List.set_cons_zero, List.set_cons_succ]
      refine wpAnyR_take (i := 8) (oi := ⟨some 25, _, _, _, _, _⟩) (v := ?_) rfl (by kernel_rfl) (by kernel_rfl) (by kernel_rfl) (fun _ _ _ h => h) hp (.inl ⟨by rfl, fun w _ => ?_⟩) (fun hq => ?_)
      rotate_left
      · go_simp
        with_reducible rfl
      clear hp; have hp := hq; clear hq
      try simp only [Act.put, List.setIfInBounds_toArray, List.set_cons_zero, List.set_cons_succ]
      refine wpAnyR_done (by kernel_rfl) ?_ _
      clear hp
      cases q
      · go_wp2
        go_ret
        refine ⟨?_, hR.out.2.drew⟩
        have hne : ¬ s = t := of_decide_eq_false HST.out.2.2.symm
        rw [decide_eq_false (p := l = k) (fun he => hne (by have h1 := HST.out.1; rw [he, HST.out.2.1] at h1; injection h1 with h1; exact h1.symm))]
        rfl
      · go_wp2
        go_roundg f
        case measure => omega
        case rel =>
          have he : s = t := of_decide_eq_true HST.out.2.2.symm
          refine ⟨i + 1, by go_num, by omega, Lib.hid ⟨?_, hR.out.2.drew⟩⟩
          rw [List.take_add_one, List.take_add_one, HST.out.1, HST.out.2.1, hR.out.1, he]

end Go.Proofs.Ytdnjelggdjimhaa
