/-
  The reference journal's May.
-/
import Derived.Test.YtdnjelggdjimhaaJm1
import Derived.Test.YtdnjelggdjimhaaJl5
import Derived.Test.YtdnjelggdjimhaaOrd
import Derived.Deep.QuietTactic
import Derived.BigQuiet
namespace Go.Proofs.Ytdnjelggdjimhaa
open Go.RowKit

set_option maxHeartbeats 1000000 in
theorem May_same (A : Option Addr) (n c : Nat) (l : List (List UInt8)) {w : World} {base m : Nat} {vr : Value} {rs : List (List UInt8)} {safe : Nat} {failed : Bool} {P : ByteArray} (hM : MJat w base m vr rs safe failed P) (h : TextsAt w A n l) :
    Calls Try.prog 39 #[.pointer (some ⟨m, 0, none⟩), .slice A n c, .bool false] w fun e w' => e = .returned (.bool (decide (l = rs))) ∧ Chg (fun _ => False) w w' := by
  obtain ⟨B, cw, rfl, hT⟩ := own_texts hM.own rfl
  have hc0 : w.cell? ⟨m, 0, none⟩ = some (.slice B rs.length cw) := hM.blk.cell 0
  have HT := Lib.hid (And.intro h hT)
  clear h hT hM
  go_enter Try.func39, Try.ntmps39
  go_wp2_with fail
  refine (same_calls A B n rs.length c cw l rs w HT.out.1 HT.out.2).mono ?_
  rintro e w1 ⟨rfl, hch⟩
  have HC := Lib.hid hch
  clear hch
  dsimp only
  go_wp2
  go_ret
  exact ⟨rfl, HC.out⟩

set_option maxRecDepth 100000 in
set_option maxHeartbeats 2000000 in
theorem May_crashed (A : Option Addr) (q c : Nat) {w : World} {base m : Nat} {vr : Value} {rs : List (List UInt8)} {safe : Nat} {failed : Bool} {P : ByteArray} (hM : MJat w base m vr rs safe failed P) (hq : safe ≤ q) (hql : q ≤ rs.length) (hqc : q ≤ c) (hbig : rs.length ≤ 100000) (h : TextsAt w A q (rs.take q)) :
    Calls Try.prog 39 #[.pointer (some ⟨m, 0, none⟩), .slice A q c, .bool true] w fun e w' => e = .returned (.bool true) ∧ Chg (fun _ => False) w w' := by
  obtain ⟨B, cw, rfl, hT⟩ := own_texts hM.own rfl
  obtain ⟨B', cw', hv, hlc, hcm⟩ := own_shape hM.own
  obtain ⟨rfl, _, rfl⟩ : B = B' ∧ rs.length = rs.length ∧ cw = cw' := by injection hv with h1 h2 h3; exact ⟨h1, h2, h3⟩
  have hc0 : w.cell? ⟨m, 0, none⟩ = some (.slice B rs.length cw) := hM.blk.cell 0
  have hc1 : w.cell? ⟨m, 1, none⟩ = some (.int .i64 (safe : Int)) := hM.blk.cell 1
  have hmost := hT.most
  obtain ⟨n, hn⟩ : ∃ n, n = rs.length := ⟨_, rfl⟩
  have HT := Lib.hid (And.intro h (And.intro (hT.take q hql) hn))
  rw [← hn] at hc0 hmost hql hlc hbig
  have hd1 : decide ((q : Int) < (safe : Int)) = false := by simp; omega
  have hd2 : decide ((n : Int) + 1 < (q : Int)) = false := by simp; omega
  have hd3 : ((q : Int) == (n : Int) + 1) = false := by simp; omega
  have hn1 : decide (q < safe) = false := by simp; omega
  have hn2 : decide (n + 1 < q) = false := by simp; omega
  have hn3 : (q == n + 1) = false := by simp; omega
  have hqcw : q ≤ cw := by omega
  have hn' : (n : Int) + 1 ≤ 9223372036854775807 := by omega
  have hwr : IntKind.i64.wrap ((n : Int) + 1) = (n : Int) + 1 := wrap_small _ (by omega) (by omega)
  have hmin : min (q : Int) (n : Int) = (q : Int) := by omega
  have hmlt := hM.blk.lt
  clear h hT hM hn hv hcm
  go_enter Try.func39, Try.ntmps39
  go_wp2_with fail
  refine wp_region_R (RL [(5, fun w' => w'.cell? ⟨m, 1, none⟩ = some (.int .i64 (safe : Int))), (13, fun w' => w'.cell? ⟨m, 0, none⟩ = some (.slice B n cw)), (24, fun w' => w'.cell? ⟨m, 0, none⟩ = some (.slice B n cw))]) (by kernel_rfl) (RL_cons hc1 (RL_cons hc0 (RL_cons hc0 (RL_nil _)))) (fun hp => ?_)
  refine wpAnyR_take (i := 0) (oi := ⟨some 16, _, _, _, _, _⟩) (v := ?_) rfl (by kernel_rfl) (by kernel_rfl) (by kernel_rfl) (fun _ _ _ h => h) hp (.inl ⟨by rfl, fun w _ => ?_⟩) (fun hq => ?_)
  rotate_left
  · go_simp
    with_reducible rfl
  clear hp; have hp := hq; clear hq
  try simp only [Act.put, List.setIfInBounds_toArray, List.set_cons_zero, List.set_cons_succ]
  refine wpAnyR_take (i := 1) (oi := ⟨some 17, _, _, _, _, _⟩) (v := ?_) rfl (by kernel_rfl) (by kernel_rfl) (by kernel_rfl) (fun _ _ _ h => h) hp (.inl ⟨by rfl, fun w _ => ?_⟩) (fun hq => ?_)
  rotate_left
  · go_simp
    with_reducible rfl
  clear hp; have hp := hq; clear hq
  try simp only [Act.put, List.setIfInBounds_toArray, List.set_cons_zero, List.set_cons_succ]
  refine wpAnyR_take (i := 2) (oi := ⟨some 18, _, _, _, _, _⟩) (v := ?_) rfl (by kernel_rfl) (by kernel_rfl) (by kernel_rfl) (fun _ _ _ h => h) hp (.inl ⟨by rfl, fun w _ => ?_⟩) (fun hq => ?_)
  rotate_left
  · go_simp
    with_reducible rfl
  clear hp; have hp := hq; clear hq
  try simp only [Act.put, List.setIfInBounds_toArray, List.set_cons_zero, List.set_cons_succ]
  refine wpAnyR_take (i := 3) (oi := ⟨some 19, _, _, _, _, _⟩) (v := ?_) rfl (by kernel_rfl) (by kernel_rfl) (by kernel_rfl) (fun _ _ _ h => h) hp (.inl ⟨by rfl, fun w _ => ?_⟩) (fun hq => ?_)
  rotate_left
  · go_simp
    with_reducible rfl
  clear hp; have hp := hq; clear hq
  try simp only [Act.put, List.setIfInBounds_toArray, List.set_cons_zero, List.set_cons_succ]
  refine wpAnyR_take (i := 4) (oi := ⟨some 20, _, _, _, _, _⟩) (v := ?_) rfl (by kernel_rfl) (by kernel_rfl) (by kernel_rfl) (fun _ _ _ h => h) hp (.inl ⟨by rfl, fun w _ => ?_⟩) (fun hq => ?_)
  rotate_left
  · go_simp
    with_reducible rfl
  clear hp; have hp := hq; clear hq
  try simp only [Act.put, List.setIfInBounds_toArray, List.set_cons_zero, List.set_cons_succ]
  refine wpAnyR_take (i := 5) (oi := ⟨some 21, _, _, _, _, _⟩) (v := ?_) rfl (by kernel_rfl) (by kernel_rfl) (by kernel_rfl) (fun _ _ _ h => h) hp (.inl ⟨by rfl, fun w hR => ?_⟩) (fun hq => ?_)
  rotate_left
  · have hR := hR.1 rfl
    (try dsimp only at hR)
    go_simp
    with_reducible rfl
  clear hp; have hp := hq; clear hq
  try simp only [Act.put, List.setIfInBounds_toArray, List.set_cons_zero, List.set_cons_succ]
  refine wpAnyR_take (i := 6) (oi := ⟨some 22, _, _, _, _, _⟩) (v := ?_) rfl (by kernel_rfl) (by kernel_rfl) (by kernel_rfl) (fun _ _ _ h => h) hp (.inl ⟨by rfl, fun w _ => ?_⟩) (fun hq => ?_)
  rotate_left
  · go_simp
    with_reducible rfl
  clear hp; have hp := hq; clear hq
  try simp only [Act.put, List.setIfInBounds_toArray, List.set_cons_zero, List.set_cons_succ]
  refine wpAnyR_take (i := 7) (oi := ⟨some 23, _, _, _, _, _⟩) (v := ?_) rfl (by kernel_rfl) (by kernel_rfl) (by kernel_rfl) (fun _ _ _ h => h) hp (.inl ⟨by rfl, fun w _ => ?_⟩) (fun hq => ?_)
  rotate_left
  · go_simp
    with_reducible rfl
  clear hp; have hp := hq; clear hq
  try simp only [Act.put, List.setIfInBounds_toArray, List.set_cons_zero, List.set_cons_succ]
  refine wpAnyR_take (i := 8) (oi := ⟨some 24, _, _, _, _, _⟩) (v := ?_) rfl (by kernel_rfl) (by kernel_rfl) (by kernel_rfl) (fun _ _ _ h => h) hp (.inl ⟨by rfl, fun w _ => ?_⟩) (fun hq => ?_)
  rotate_left
  · go_simp
    with_reducible rfl
  clear hp; have hp := hq; clear hq
  try simp only [Act.put, List.setIfInBounds_toArray, List.set_cons_zero, List.set_cons_succ]
  refine wpAnyR_take (i := 9) (oi := ⟨some 25, _, _, _, _, _⟩) (v := ?_) rfl (by kernel_rfl) (by kernel_rfl) (by kernel_rfl) (fun _ _ _ h => h) hp (.inl ⟨by rfl, fun w _ => ?_⟩) (fun hq => ?_)
  rotate_left
  · go_simp
    with_reducible rfl
  clear hp; have hp := hq; clear hq
  try simp only [Act.put, List.setIfInBounds_toArray, List.set_cons_zero, List.set_cons_succ]
  refine wpAnyR_take (i := 10) (oi := ⟨some 26, _, _, _, _, _⟩) (v := ?_) rfl (by kernel_rfl) (by kernel_rfl) (by kernel_rfl) (fun _ _ _ h => h) hp (.inl ⟨by rfl, fun w _ => ?_⟩) (fun hq => ?_)
  rotate_left
  · go_simp
    with_reducible rfl
  clear hp; have hp := hq; clear hq
  try simp only [Act.put, List.setIfInBounds_toArray, List.set_cons_zero, List.set_cons_succ]
  refine wpAnyR_take (i := 11) (oi := ⟨some 27, _, _, _, _, _⟩) (v := ?_) rfl (by kernel_rfl) (by kernel_rfl) (by kernel_rfl) (fun _ _ _ h => h) hp (.inl ⟨by rfl, fun w _ => ?_⟩) (fun hq => ?_)
  rotate_left
  · go_simp
    with_reducible rfl
  clear hp; have hp := hq; clear hq
  try simp only [Act.put, List.setIfInBounds_toArray, List.set_cons_zero, List.set_cons_succ]
  refine wpAnyR_take (i := 12) (oi := ⟨some 28, _, _, _, _, _⟩) (v := ?_) rfl (by kernel_rfl) (by kernel_rfl) (by kernel_rfl) (fun _ _ _ h => h) hp (.inl ⟨by rfl, fun w _ => ?_⟩) (fun hq => ?_)
  rotate_left
  · go_simp
    with_reducible rfl
  clear hp; have hp := hq; clear hq
  try simp only [Act.put, List.setIfInBounds_toArray, List.set_cons_zero, List.set_cons_succ]
  refine wpAnyR_take (i := 13) (oi := ⟨some 29, _, _, _, _, _⟩) (v := ?_) rfl (by kernel_rfl) (by kernel_rfl) (by kernel_rfl) (fun _ _ _ h => h) hp (.inl ⟨by rfl, fun w hR => ?_⟩) (fun hq => ?_)
  rotate_left
  · have hR := hR.2.1 rfl
    (try dsimp only at hR)
    go_simp
    with_reducible rfl
  clear hp; have hp := hq; clear hq
  try simp only [Act.put, List.setIfInBounds_toArray, List.set_cons_zero, List.set_cons_succ]
  refine wpAnyR_take (i := 14) (oi := ⟨some 30, _, _, _, _, _⟩) (v := ?_) rfl (by kernel_rfl) (by kernel_rfl) (by kernel_rfl) (fun _ _ _ h => h) hp (.inl ⟨by rfl, fun w _ => ?_⟩) (fun hq => ?_)
  rotate_left
  · go_simp
    with_reducible rfl
  clear hp; have hp := hq; clear hq
  try simp only [Act.put, List.setIfInBounds_toArray, List.set_cons_zero, List.set_cons_succ]
  refine wpAnyR_take (i := 15) (oi := ⟨some 31, _, _, _, _, _⟩) (v := ?_) rfl (by kernel_rfl) (by kernel_rfl) (by kernel_rfl) (fun _ _ _ h => h) hp (.inl ⟨by rfl, fun w _ => ?_⟩) (fun hq => ?_)
  rotate_left
  · go_simp
    with_reducible rfl
  clear hp; have hp := hq; clear hq
  try simp only [Act.put, List.setIfInBounds_toArray, List.set_cons_zero, List.set_cons_succ]
  refine wpAnyR_take (i := 16) (oi := ⟨some 32, _, _, _, _, _⟩) (v := ?_) rfl (by kernel_rfl) (by kernel_rfl) (by kernel_rfl) (fun _ _ _ h => h) hp (.inl ⟨by rfl, fun w _ => ?_⟩) (fun hq => ?_)
  rotate_left
  · go_simp
    with_reducible rfl
  clear hp; have hp := hq; clear hq
  try simp only [Act.put, List.setIfInBounds_toArray, List.set_cons_zero, List.set_cons_succ]
  refine wpAnyR_take (i := 17) (oi := ⟨some 33, _, _, _, _, _⟩) (v := ?_) rfl (by kernel_rfl) (by kernel_rfl) (by kernel_rfl) (fun _ _ _ h => h) hp (.inl ⟨by rfl, fun w _ => ?_⟩) (fun hq => ?_)
  rotate_left
  · go_simp
    with_reducible rfl
  clear hp; have hp := hq; clear hq
  try simp only [Act.put, List.setIfInBounds_toArray, List.set_cons_zero, List.set_cons_succ]
  refine wpAnyR_take (i := 18) (oi := ⟨some 34, _, _, _, _, _⟩) (v := ?_) rfl (by kernel_rfl) (by kernel_rfl) (by kernel_rfl) (fun _ _ _ h => h) hp (.inl ⟨by rfl, fun w _ => ?_⟩) (fun hq => ?_)
  rotate_left
  · go_simp
    with_reducible rfl
  clear hp; have hp := hq; clear hq
  try simp only [Act.put, List.setIfInBounds_toArray, List.set_cons_zero, List.set_cons_succ]
  refine wpAnyR_take (i := 19) (oi := ⟨some 35, _, _, _, _, _⟩) (v := ?_) rfl (by kernel_rfl) (by kernel_rfl) (by kernel_rfl) (fun _ _ _ h => h) hp (.inl ⟨by rfl, fun w _ => ?_⟩) (fun hq => ?_)
  rotate_left
  · go_simp
    with_reducible rfl
  clear hp; have hp := hq; clear hq
  try simp only [Act.put, List.setIfInBounds_toArray, List.set_cons_zero, List.set_cons_succ]
  refine wpAnyR_take (i := 20) (oi := ⟨some 36, _, _, _, _, _⟩) (v := ?_) rfl (by kernel_rfl) (by kernel_rfl) (by kernel_rfl) (fun _ _ _ h => h) hp (.inl ⟨by rfl, fun w _ => ?_⟩) (fun hq => ?_)
  rotate_left
  · go_simp
    with_reducible rfl
  clear hp; have hp := hq; clear hq
  try simp only [Act.put, List.setIfInBounds_toArray, List.set_cons_zero, List.set_cons_succ]
  refine wpAnyR_take (i := 21) (oi := ⟨some 37, _, _, _, _, _⟩) (v := ?_) rfl (by kernel_rfl) (by kernel_rfl) (by kernel_rfl) (fun _ _ _ h => h) hp (.inl ⟨by rfl, fun w _ => ?_⟩) (fun hq => ?_)
  rotate_left
  · go_simp
    with_reducible rfl
  clear hp; have hp := hq; clear hq
  try simp only [Act.put, List.setIfInBounds_toArray, List.set_cons_zero, List.set_cons_succ]
  refine wpAnyR_take (i := 22) (oi := ⟨some 38, _, _, _, _, _⟩) (v := ?_) rfl (by kernel_rfl) (by kernel_rfl) (by kernel_rfl) (fun _ _ _ h => h) hp (.inl ⟨by rfl, fun w _ => ?_⟩) (fun hq => ?_)
  rotate_left
  · go_simp
    with_reducible rfl
  clear hp; have hp := hq; clear hq
  try simp only [Act.put, List.setIfInBounds_toArray, List.set_cons_zero, List.set_cons_succ]
  refine wpAnyR_take (i := 23) (oi := ⟨some 39, _, _, _, _, _⟩) (v := ?_) rfl (by kernel_rfl) (by kernel_rfl) (by kernel_rfl) (fun _ _ _ h => h) hp (.inl ⟨by rfl, fun w _ => ?_⟩) (fun hq => ?_)
  rotate_left
  · go_simp
    with_reducible rfl
  clear hp; have hp := hq; clear hq
  try simp only [Act.put, List.setIfInBounds_toArray, List.set_cons_zero, List.set_cons_succ]
  refine wpAnyR_take (i := 24) (oi := ⟨some 40, _, _, _, _, _⟩) (v := ?_) rfl (by kernel_rfl) (by kernel_rfl) (by kernel_rfl) (fun _ _ _ h => h) hp (.inl ⟨by rfl, fun w hR => ?_⟩) (fun hq => ?_)
  rotate_left
  · have hR := hR.2.2.1 rfl
    (try dsimp only at hR)
    go_simp
    with_reducible rfl
  clear hp; have hp := hq; clear hq
  try simp only [Act.put, List.setIfInBounds_toArray, List.set_cons_zero, List.set_cons_succ]
  refine wpAnyR_take (i := 25) (oi := ⟨some 41, _, _, _, _, _⟩) (v := ?_) rfl (by kernel_rfl) (by kernel_rfl) (by kernel_rfl) (fun _ _ _ h => h) hp (.inl ⟨by rfl, fun w _ => ?_⟩) (fun hq => ?_)
  rotate_left
  · go_simp
    with_reducible rfl
  clear hp; have hp := hq; clear hq
  try simp only [Act.put, List.setIfInBounds_toArray, List.set_cons_zero, List.set_cons_succ]
  refine wpAnyR_take (i := 26) (oi := ⟨some 42, _, _, _, _, _⟩) (v := ?_) rfl (by kernel_rfl) (by kernel_rfl) (by kernel_rfl) (fun _ _ _ h => h) hp (.inl ⟨by rfl, fun w _ => ?_⟩) (fun hq => ?_)
  rotate_left
  · go_simp
    with_reducible rfl
  clear hp; have hp := hq; clear hq
  try simp only [Act.put, List.setIfInBounds_toArray, List.set_cons_zero, List.set_cons_succ]
  refine wpAnyR_take (i := 27) (oi := ⟨some 43, _, _, _, _, _⟩) (v := ?_) rfl (by kernel_rfl) (by kernel_rfl) (by kernel_rfl) (fun _ _ _ h => h) hp (.inl ⟨by rfl, fun w _ => ?_⟩) (fun hq => ?_)
  rotate_left
  · go_simp
    with_reducible rfl
  clear hp; have hp := hq; clear hq
  try simp only [Act.put, List.setIfInBounds_toArray, List.set_cons_zero, List.set_cons_succ]
  refine wpAnyR_take (i := 28) (oi := ⟨some 44, _, _, _, _, _⟩) (v := ?_) rfl (by kernel_rfl) (by kernel_rfl) (by kernel_rfl) (fun _ _ _ h => h) hp (.inl ⟨by rfl, fun w _ => ?_⟩) (fun hq => ?_)
  rotate_left
  · go_simp
    with_reducible rfl
  clear hp; have hp := hq; clear hq
  try simp only [Act.put, List.setIfInBounds_toArray, List.set_cons_zero, List.set_cons_succ]
  refine wpAnyR_take (i := 29) (oi := ⟨some 45, _, _, _, _, _⟩) (v := undef) rfl (by kernel_rfl) (by kernel_rfl) (by kernel_rfl) (fun _ _ _ h => h) hp (.inr ⟨by rfl, rfl⟩) (fun hq => ?_)
  clear hp; have hp := hq; clear hq
  try simp only [Act.put, List.setIfInBounds_toArray, List.set_cons_zero, List.set_cons_succ]
  refine wpAnyR_take (i := 30) (oi := ⟨some 46, _, _, _, _, _⟩) (v := undef) rfl (by kernel_rfl) (by kernel_rfl) (by kernel_rfl) (fun _ _ _ h => h) hp (.inr ⟨by rfl, rfl⟩) (fun hq => ?_)
  clear hp; have hp := hq; clear hq
  try simp only [Act.put, List.setIfInBounds_toArray, List.set_cons_zero, List.set_cons_succ]
  refine wpAnyR_take (i := 31) (oi := ⟨some 47, _, _, _, _, _⟩) (v := undef) rfl (by kernel_rfl) (by kernel_rfl) (by kernel_rfl) (fun _ _ _ h => h) hp (.inr ⟨by rfl, rfl⟩) (fun hq => ?_)
  clear hp; have hp := hq; clear hq
  try simp only [Act.put, List.setIfInBounds_toArray, List.set_cons_zero, List.set_cons_succ]
  refine wpAnyR_take (i := 32) (oi := ⟨some 48, _, _, _, _, _⟩) (v := undef) rfl (by kernel_rfl) (by kernel_rfl) (by kernel_rfl) (fun _ _ _ h => h) hp (.inr ⟨by rfl, rfl⟩) (fun hq => ?_)
  clear hp; have hp := hq; clear hq
  try simp only [Act.put, List.setIfInBounds_toArray, List.set_cons_zero, List.set_cons_succ]
  refine wpAnyR_take (i := 33) (oi := ⟨some 49, _, _, _, _, _⟩) (v := undef) rfl (by kernel_rfl) (by kernel_rfl) (by kernel_rfl) (fun _ _ _ h => h) hp (.inr ⟨by rfl, rfl⟩) (fun hq => ?_)
  clear hp; have hp := hq; clear hq
  try simp only [Act.put, List.setIfInBounds_toArray, List.set_cons_zero, List.set_cons_succ]
  refine wpAnyR_take (i := 34) (oi := ⟨some 50, _, _, _, _, _⟩) (v := undef) rfl (by kernel_rfl) (by kernel_rfl) (by kernel_rfl) (fun _ _ _ h => h) hp (.inr ⟨by rfl, rfl⟩) (fun hq => ?_)
  clear hp; have hp := hq; clear hq
  try simp only [Act.put, List.setIfInBounds_toArray, List.set_cons_zero, List.set_cons_succ]
  refine wpAnyR_take (i := 35) (oi := ⟨some 51, _, _, _, _, _⟩) (v := undef) rfl (by kernel_rfl) (by kernel_rfl) (by kernel_rfl) (fun _ _ _ h => h) hp (.inr ⟨by rfl, rfl⟩) (fun hq => ?_)
  clear hp; have hp := hq; clear hq
  try simp only [Act.put, List.setIfInBounds_toArray, List.set_cons_zero, List.set_cons_succ]
  refine wpAnyR_take (i := 36) (oi := ⟨some 52, _, _, _, _, _⟩) (v := undef) rfl (by kernel_rfl) (by kernel_rfl) (by kernel_rfl) (fun _ _ _ h => h) hp (.inr ⟨by rfl, rfl⟩) (fun hq => ?_)
  clear hp; have hp := hq; clear hq
  try simp only [Act.put, List.setIfInBounds_toArray, List.set_cons_zero, List.set_cons_succ]
  refine wpAnyR_take (i := 37) (oi := ⟨some 53, _, _, _, _, _⟩) (v := undef) rfl (by kernel_rfl) (by kernel_rfl) (by kernel_rfl) (fun _ _ _ h => h) hp (.inr ⟨by rfl, rfl⟩) (fun hq => ?_)
  clear hp; have hp := hq; clear hq
  try simp only [Act.put, List.setIfInBounds_toArray, List.set_cons_zero, List.set_cons_succ]
  refine wpAnyR_take (i := 38) (oi := ⟨some 54, _, _, _, _, _⟩) (v := undef) rfl (by kernel_rfl) (by kernel_rfl) (by kernel_rfl) (fun _ _ _ h => h) hp (.inr ⟨by rfl, rfl⟩) (fun hq => ?_)
  clear hp; have hp := hq; clear hq
  try simp only [Act.put, List.setIfInBounds_toArray, List.set_cons_zero, List.set_cons_succ]
  refine wpAnyR_take (i := 39) (oi := ⟨some 55, _, _, _, _, _⟩) (v := undef) rfl (by kernel_rfl) (by kernel_rfl) (by kernel_rfl) (fun _ _ _ h => h) hp (.inr ⟨by rfl, rfl⟩) (fun hq => ?_)
  clear hp; have hp := hq; clear hq
  try simp only [Act.put, List.setIfInBounds_toArray, List.set_cons_zero, List.set_cons_succ]
  refine wpAnyR_take (i := 40) (oi := ⟨some 56, _, _, _, _, _⟩) (v := undef) rfl (by kernel_rfl) (by kernel_rfl) (by kernel_rfl) (fun _ _ _ h => h) hp (.inr ⟨by rfl, rfl⟩) (fun hq => ?_)
  clear hp; have hp := hq; clear hq
  try simp only [Act.put, List.setIfInBounds_toArray, List.set_cons_zero, List.set_cons_succ]
  refine wpAnyR_take (i := 41) (oi := ⟨some 57, _, _, _, _, _⟩) (v := undef) rfl (by kernel_rfl) (by kernel_rfl) (by kernel_rfl) (fun _ _ _ h => h) hp (.inr ⟨by rfl, rfl⟩) (fun hq => ?_)
  clear hp; have hp := hq; clear hq
  try simp only [Act.put, List.setIfInBounds_toArray, List.set_cons_zero, List.set_cons_succ]
  refine wpAnyR_take (i := 42) (oi := ⟨some 58, _, _, _, _, _⟩) (v := undef) rfl (by kernel_rfl) (by kernel_rfl) (by kernel_rfl) (fun _ _ _ h => h) hp (.inr ⟨by rfl, rfl⟩) (fun hq => ?_)
  clear hp; have hp := hq; clear hq
  try simp only [Act.put, List.setIfInBounds_toArray, List.set_cons_zero, List.set_cons_succ]
  refine wpAnyR_take (i := 43) (oi := ⟨some 59, _, _, _, _, _⟩) (v := undef) rfl (by kernel_rfl) (by kernel_rfl) (by kernel_rfl) (fun _ _ _ h => h) hp (.inr ⟨by rfl, rfl⟩) (fun hq => ?_)
  clear hp; have hp := hq; clear hq
  try simp only [Act.put, List.setIfInBounds_toArray, List.set_cons_zero, List.set_cons_succ]
  refine wpAnyR_take (i := 44) (oi := ⟨some 60, _, _, _, _, _⟩) (v := undef) rfl (by kernel_rfl) (by kernel_rfl) (by kernel_rfl) (fun _ _ _ h => h) hp (.inr ⟨by rfl, rfl⟩) (fun hq => ?_)
  clear hp; have hp := hq; clear hq
  try simp only [Act.put, List.setIfInBounds_toArray, List.set_cons_zero, List.set_cons_succ]
  refine wpAnyR_take (i := 45) (oi := ⟨some 61, _, _, _, _, _⟩) (v := undef) rfl (by kernel_rfl) (by kernel_rfl) (by kernel_rfl) (fun _ _ _ h => h) hp (.inr ⟨by rfl, rfl⟩) (fun hq => ?_)
  clear hp; have hp := hq; clear hq
  try simp only [Act.put, List.setIfInBounds_toArray, List.set_cons_zero, List.set_cons_succ]
  refine wpAnyR_take (i := 46) (oi := ⟨some 62, _, _, _, _, _⟩) (v := undef) rfl (by kernel_rfl) (by kernel_rfl) (by kernel_rfl) (fun _ _ _ h => h) hp (.inr ⟨by rfl, rfl⟩) (fun hq => ?_)
  clear hp; have hp := hq; clear hq
  try simp only [Act.put, List.setIfInBounds_toArray, List.set_cons_zero, List.set_cons_succ]
  refine wpAnyR_take (i := 47) (oi := ⟨some 63, _, _, _, _, _⟩) (v := ?_) rfl (by kernel_rfl) (by kernel_rfl) (by kernel_rfl) (fun _ _ _ h => h) hp (.inl ⟨by rfl, fun w _ => ?_⟩) (fun hq => ?_)
  rotate_left
  · go_simp
    with_reducible rfl
  clear hp; have hp := hq; clear hq
  try simp only [Act.put, List.setIfInBounds_toArray, List.set_cons_zero, List.set_cons_succ]
  refine wpAnyR_take (i := 48) (oi := ⟨some 64, _, _, _, _, _⟩) (v := ?_) rfl (by kernel_rfl) (by kernel_rfl) (by kernel_rfl) (fun _ _ _ h => h) hp (.inl ⟨by rfl, fun w _ => ?_⟩) (fun hq => ?_)
  rotate_left
  · go_simp
    with_reducible rfl
  clear hp; have hp := hq; clear hq
  try simp only [Act.put, List.setIfInBounds_toArray, List.set_cons_zero, List.set_cons_succ]
  refine wpAnyR_done (by kernel_rfl) ?_ _
  clear hp
  go_wp2_with fail
  refine wp_region_R (RL [(6, fun w' => w'.cell? ⟨m, 0, none⟩ = some (.slice B n cw))]) (by kernel_rfl) (RL_cons hc0 (RL_nil _)) (fun hp => ?_)
  refine wpAnyR_take (i := 0) (oi := ⟨some 73, _, _, _, _, _⟩) (v := ?_) rfl (by kernel_rfl) (by kernel_rfl) (by kernel_rfl) (fun _ _ _ h => h) hp (.inl ⟨by rfl, fun w _ => ?_⟩) (fun hq => ?_)
  rotate_left
  · go_simp
    with_reducible rfl
  clear hp; have hp := hq; clear hq
  try simp only [Act.put, List.setIfInBounds_toArray, List.set_cons_zero, List.set_cons_succ]
  refine wpAnyR_take (i := 1) (oi := ⟨some 74, _, _, _, _, _⟩) (v := ?_) rfl (by kernel_rfl) (by kernel_rfl) (by kernel_rfl) (fun _ _ _ h => h) hp (.inl ⟨by rfl, fun w _ => ?_⟩) (fun hq => ?_)
  rotate_left
  · go_simp
    with_reducible rfl
  clear hp; have hp := hq; clear hq
  try simp only [Act.put, List.setIfInBounds_toArray, List.set_cons_zero, List.set_cons_succ]
  refine wpAnyR_take (i := 2) (oi := ⟨some 75, _, _, _, _, _⟩) (v := ?_) rfl (by kernel_rfl) (by kernel_rfl) (by kernel_rfl) (fun _ _ _ h => h) hp (.inl ⟨by rfl, fun w _ => ?_⟩) (fun hq => ?_)
  rotate_left
  · go_simp
    with_reducible rfl
  clear hp; have hp := hq; clear hq
  try simp only [Act.put, List.setIfInBounds_toArray, List.set_cons_zero, List.set_cons_succ]
  refine wpAnyR_take (i := 3) (oi := ⟨some 76, _, _, _, _, _⟩) (v := ?_) rfl (by kernel_rfl) (by kernel_rfl) (by kernel_rfl) (fun _ _ _ h => h) hp (.inl ⟨by rfl, fun w _ => ?_⟩) (fun hq => ?_)
  rotate_left
  · go_simp
    with_reducible rfl
  clear hp; have hp := hq; clear hq
  try simp only [Act.put, List.setIfInBounds_toArray, List.set_cons_zero, List.set_cons_succ]
  refine wpAnyR_take (i := 4) (oi := ⟨some 77, _, _, _, _, _⟩) (v := ?_) rfl (by kernel_rfl) (by kernel_rfl) (by kernel_rfl) (fun _ _ _ h => h) hp (.inl ⟨by rfl, fun w _ => ?_⟩) (fun hq => ?_)
  rotate_left
  · go_simp
    with_reducible rfl
  clear hp; have hp := hq; clear hq
  try simp only [Act.put, List.setIfInBounds_toArray, List.set_cons_zero, List.set_cons_succ]
  refine wpAnyR_take (i := 5) (oi := ⟨some 78, _, _, _, _, _⟩) (v := ?_) rfl (by kernel_rfl) (by kernel_rfl) (by kernel_rfl) (fun _ _ _ h => h) hp (.inl ⟨by rfl, fun w _ => ?_⟩) (fun hq => ?_)
  rotate_left
  · go_simp
    with_reducible rfl
  clear hp; have hp := hq; clear hq
  try simp only [Act.put, List.setIfInBounds_toArray, List.set_cons_zero, List.set_cons_succ]
  refine wpAnyR_take (i := 6) (oi := ⟨some 79, _, _, _, _, _⟩) (v := ?_) rfl (by kernel_rfl) (by kernel_rfl) (by kernel_rfl) (fun _ _ _ h => h) hp (.inl ⟨by rfl, fun w hR => ?_⟩) (fun hq => ?_)
  rotate_left
  · have hR := hR.1 rfl
    (try dsimp only at hR)
    go_simp
    with_reducible rfl
  clear hp; have hp := hq; clear hq
  try simp only [Act.put, List.setIfInBounds_toArray, List.set_cons_zero, List.set_cons_succ]
  refine wpAnyR_take (i := 7) (oi := ⟨some 80, _, _, _, _, _⟩) (v := ?_) rfl (by kernel_rfl) (by kernel_rfl) (by kernel_rfl) (fun _ _ _ h => h) hp (.inl ⟨by rfl, fun w _ => ?_⟩) (fun hq => ?_)
  rotate_left
  · go_simp
    with_reducible rfl
  clear hp; have hp := hq; clear hq
  try simp only [Act.put, List.setIfInBounds_toArray, List.set_cons_zero, List.set_cons_succ]
  refine wpAnyR_take (i := 8) (oi := ⟨some 81, _, _, _, _, _⟩) (v := ?_) rfl (by kernel_rfl) (by kernel_rfl) (by kernel_rfl) (fun _ _ _ h => h) hp (.inl ⟨by rfl, fun w _ => ?_⟩) (fun hq => ?_)
  rotate_left
  · go_simp
    with_reducible rfl
  clear hp; have hp := hq; clear hq
  try simp only [Act.put, List.setIfInBounds_toArray, List.set_cons_zero, List.set_cons_succ]
  refine wpAnyR_step (i := 9) (o := ⟨some 82, _, _, _, _, _⟩) (by kernel_rfl) rfl (by rfl) (fun K hK => ?_) -- Op.call { callee := Callee.value (Operand.func 22), args := #[Operand.tmp 75, Operand.tmp 81], argTypes := #[4
  go_simp
  refine (same_calls _ _ _ _ _ _ (rs.take q) (rs.take q) _ (HT.out.1.below (Chg.below ((Chg.refl (fun _ => False) w).drew.drew) (fun _ h => h.elim) (Nat.le_refl _))) (HT.out.2.1.below (Chg.below ((Chg.refl (fun _ => False) w).drew.drew) (fun _ h => h.elim) (Nat.le_refl _)))).mono ?_
  rintro e w1 ⟨rfl, hch⟩
  show K _ _
  have HC := Lib.hid (((Chg.refl (fun _ => False) w).drew.drew).trans hch (fun _ h => h.elim))
  clear hch
  have hS6 : w1.cell? ⟨m, 0, none⟩ = some (.slice B n cw) := by rw [HC.out.cell (by exact hmlt) (fun h => h)]; exact hc0
  have hdt : decide (rs.take q = rs.take q) = true := decide_eq_true rfl
  rw [hdt]
  refine hK _ _ (pend_on hS6 pend_nil) (fun hq => ?_)
  clear hp hK K; have hp := hq; clear hq
  try simp only [Act.put, List.setIfInBounds_toArray, List.set_cons_zero, List.set_cons_succ]
  refine wpAnyR_take (i := 10) (oi := ⟨some 6, _, _, _, _, _⟩) (v := ?_) rfl (by kernel_rfl) (by kernel_rfl) (by kernel_rfl) (fun _ _ _ h => h) hp (.inl ⟨by rfl, fun w _ => ?_⟩) (fun hq => ?_)
  rotate_left
  · go_simp
    with_reducible rfl
  clear hp; have hp := hq; clear hq
  try simp only [Act.put, List.setIfInBounds_toArray, List.set_cons_zero, List.set_cons_succ]
  refine wpAnyR_done (by kernel_rfl) ?_ _
  clear hp
  go_wp2
  go_ret
  exact ⟨rfl, HC.out⟩

end Go.Proofs.Ytdnjelggdjimhaa
