/-
  The walk of the journal's Append, and of Sync and Len.
-/
import Derived.Test.YtdnjelggdjimhaaJw5
import Derived.Deep.DeepCutAuto
namespace Go.Proofs.Ytdnjelggdjimhaa
open Go.RowKit

theorem sync_calls {base g jb : Nat} {w : World} {d : Dk.D} {vd vn vw : Value} {e r : Int} (hJ : JBlk w jb g e r) (h : DiskAt w base g d vd vn vw) :
    Calls Try.prog 20 #[.pointer (some ⟨jb, 0, none⟩)] w fun e' w' => e' = .returned (.int .i64 (Dk.flushErr d)) ∧ Upd base g vd vn vw w (Dk.flush d) w' ∧ JBlk w' jb g e r := by
  have hj0 : w.cell? ⟨jb, 0, none⟩ = some (.pointer (some ⟨g, 0, none⟩)) := hJ.cell 0
  have H := Lib.hid h
  have HJ := Lib.hid hJ
  clear h hJ
  go_enter Try.func20, Try.ntmps20
  go_wp2_with fail
  refine (flush_upd H.out).mono ?_
  rintro e1 w1 ⟨rfl, hU⟩
  have HU := Lib.hid hU
  clear hU
  go_wp2
  go_ret
  refine ⟨rfl, HU.out, ?_⟩
  obtain ⟨_, _, _, _, hcu, _⟩ := HU.out
  exact hcu.blk HJ.out (JBlk.apart HJ.out H.out)

theorem len_calls {g jb : Nat} {w : World} {e r : Int} (hJ : JBlk w jb g e r) :
    Calls Try.prog 28 #[.pointer (some ⟨jb, 0, none⟩)] w fun e' w' => e' = .returned (.int .i64 r) ∧ w = w' := by
  have hj2 : w.cell? ⟨jb, 2, none⟩ = some (.int .i64 r) := hJ.cell 2
  clear hJ
  go_enter Try.func28, Try.ntmps28
  go_wp2
  go_ret
  exact ⟨rfl, rfl⟩

theorem wrap_small (x : Int) (h0 : 0 ≤ x) (h1 : x ≤ 9223372036854775807) : IntKind.i64.wrap x = x := by
  rw [IntKind.wrap_i64]; omega

theorem many_of (n : Nat) (h : n ≤ 60000) : max (1 : Int) (((n : Int) + 59 - 1) / 59) = (Dk.manyOf n : Int) := by
  unfold Dk.manyOf
  omega

/-- Where Append stands. -/
structure AppRel (w wr : World) (base g jb : Nat) (d : Dk.D) (vd vn vw : Value) (e r : Nat) (s : List UInt8) (n : Nat) (RES : Dk.D × Int) (f i : Nat) : Prop where
  mid : ∃ dd vd1 vn1 vw1, DiskAt wr base g dd vd1 vn1 vw1 ∧ Chg (fpD g vd vn vw) w wr ∧ (∀ k, fpD g vd1 vn1 vw1 k → fpD g vd vn vw k ∨ w.heap.size ≤ k) ∧ dd.now.length = n ∧ Dk.appGo dd e s f i = RES ∧ dd.wr.length ≤ d.wr.length + i
  jb : JBlk wr jb g (e : Int) (r : Int)

/-- A step of a disk and of the journal on it. -/
def UpdJ (base g jb : Nat) (vd vn vw : Value) (w : World) (d' : Dk.D) (w' : World) : Prop :=
  ∃ vd' vn' vw', DiskAt w' base g d' vd' vn' vw' ∧ Chg (fun k => k = jb ∨ fpD g vd vn vw k) w w' ∧ ∀ k, fpD g vd' vn' vw' k → fpD g vd vn vw k ∨ w.heap.size ≤ k
theorem Upd.j {base g : Nat} {vd vn vw : Value} {w w' : World} {d' : Dk.D} (jb : Nat) (h : Upd base g vd vn vw w d' w') : UpdJ base g jb vd vn vw w d' w' := by
  obtain ⟨vd', vn', vw', h1, h2, h3⟩ := h
  exact ⟨vd', vn', vw', h1, h2.mono (fun _ _ h => .inr h), h3⟩

/-- What Append leaves. -/
def AppTo (base g jb : Nat) (d : Dk.D) (e r : Nat) (s : List UInt8) (vd vn vw : Value) (w : World) (e' : Ending) (w' : World) : Prop :=
  (60000 < s.length ∧ e' = .returned (.int .i64 2) ∧ w = w') ∨
  (s.length ≤ 60000 ∧ d.down = true ∧ e' = .returned (.int .i64 70) ∧ w = w') ∨
  (s.length ≤ 60000 ∧ d.down = false ∧ d.now.length < e + Dk.manyOf s.length ∧ e' = .returned (.int .i64 72) ∧ Chg (fun _ => False) w w') ∨
  (s.length ≤ 60000 ∧ d.down = false ∧ e + Dk.manyOf s.length ≤ d.now.length ∧ e' = .returned (.int .i64 (Dk.appGo d e s (Dk.manyOf s.length) 0).2) ∧ UpdJ base g jb vd vn vw w (Dk.appGo d e s (Dk.manyOf s.length) 0).1 w' ∧
    (((Dk.appGo d e s (Dk.manyOf s.length) 0).2 = 0 ∧ JBlk w' jb g ((e + Dk.manyOf s.length : Nat) : Int) ((r + 1 : Nat) : Int)) ∨
     ((Dk.appGo d e s (Dk.manyOf s.length) 0).2 ≠ 0 ∧ JBlk w' jb g (e : Int) (r : Int))))

set_option maxRecDepth 100000 in
set_option maxHeartbeats 2000000 in
theorem append_calls {base g jb : Nat} {w : World} {d : Dk.D} {vd vn vw : Value} {e r : Nat} (s : List UInt8) (hsl : s.length ≤ 1099511627776) (hJ : JBlk w jb g (e : Int) (r : Int)) (h : DiskAt w base g d vd vn vw) (hwr : d.wr.length ≤ 1000000) (he : e ≤ 65536) (hr : r ≤ 1000000) :
    Calls Try.prog 19 #[.pointer (some ⟨jb, 0, none⟩), .string (bs s)] w (AppTo base g jb d e r s vd vn vw w) := by
  obtain ⟨S, hS⟩ : ∃ S, S = bs s := ⟨_, rfl⟩
  have hSz : S.size = s.length := by rw [hS, bs_size]
  rw [← hS]
  have hj0 : w.cell? ⟨jb, 0, none⟩ = some (.pointer (some ⟨g, 0, none⟩)) := hJ.cell 0
  have hj1 : w.cell? ⟨jb, 1, none⟩ = some (.int .i64 (e : Int)) := hJ.cell 1
  have hg3 : w.cell? ⟨g, 3, none⟩ = some (.bool d.down) := h.blk.cell 3
  have hn6 : d.now.length ≤ 65536 := h.ok.many.2
  obtain ⟨gn, cn, rfl, hgn, hgn', hcn, hcnm⟩ := own_form h.now (by have := h.ok.many; omega)
  have hg1 : w.cell? ⟨g, 1, none⟩ = some (.slice (some ⟨gn, 0, none⟩) d.now.length cn) := h.blk.cell 1
  have HS := Lib.hid hS
  have H := Lib.hid h
  have HJ := Lib.hid hJ
  have HW := Lib.hid (And.intro hwr (And.intro he hr))
  clear hS h hJ hwr he hr
  obtain ⟨n, hn⟩ : ∃ n, n = s.length := ⟨_, rfl⟩
  rw [← hn] at hSz hsl
  have HN := Lib.hid hn
  clear hn
  by_cases hbig : 60000 < n
  · have hd : decide ((60000 : Int) < (n : Int)) = true := by simp; omega
    go_enter Try.func19, Try.ntmps19
    go_wp2
    go_ret
    exact .inl ⟨by rw [← HN.out]; exact hbig, rfl, rfl⟩
  have hd : decide ((60000 : Int) < (n : Int)) = false := by simp; omega
  have hs6 : Hid (s.length ≤ 60000) := Lib.hid (by rw [← HN.out]; omega)
  cases hdn : d.down
  case true =>
    rw [hdn] at hg3
    have HDN := Lib.hid hdn
    clear hdn
    go_enter Try.func19, Try.ntmps19
    go_wp2
    go_ret
    exact .inr (.inl ⟨hs6.out, HDN.out, rfl, rfl⟩)
  rw [hdn] at hg3
  have HDN := Lib.hid hdn
  obtain ⟨many, hmany⟩ : ∃ many, many = Dk.manyOf s.length := ⟨_, rfl⟩
  have hm1 : max (1 : Int) (((n : Int) + 59 - 1) / 59) = (many : Int) := by rw [hmany, ← HN.out]; exact many_of n (by omega)
  have hm2 : many ≤ 1017 := by rw [hmany, ← HN.out]; unfold Dk.manyOf; omega
  have HM := Lib.hid hmany
  have he6 := HW.out.2.1
  have hwe : IntKind.i64.wrap ((e : Int) + (many : Int)) = (e : Int) + (many : Int) := wrap_small _ (by omega) (by omega)
  clear hdn hmany
  by_cases hfull : (d.now.length : Int) < (e : Int) + (many : Int)
  · have hf : decide ((d.now.length : Int) < (e : Int) + (many : Int)) = true := by simpa using hfull
    go_enter Try.func19, Try.ntmps19
    go_wp2_with fail
    refine wp_region_R (RL [(3, fun w' => w'.cell? ⟨jb, 1, none⟩ = some (.int .i64 (e : Int))), (9, fun w' => w'.cell? ⟨jb, 0, none⟩ = some (.pointer (some ⟨g, 0, none⟩))), (12, fun w' => w'.cell? ⟨g, 1, none⟩ = some (.slice (some ⟨gn, 0, none⟩) d.now.length cn))]) (by kernel_rfl) (RL_cons hj1 (RL_cons hj0 (RL_cons hg1 (RL_nil _)))) (fun hp => ?_)
    refine wpAnyR_take (i := 0) (oi := ⟨some 31, _, _, _, _, _⟩) (v := ?_) rfl (by kernel_rfl) (by kernel_rfl) (by kernel_rfl) (fun _ _ _ h => h) hp (.inl ⟨by rfl, fun w _ => ?_⟩) (fun hq => ?_)
    rotate_left
    · go_simp
      with_reducible rfl
    clear hp; have hp := hq; clear hq
    try simp only [Act.put, List.setIfInBounds_toArray, List.set_cons_zero, List.set_cons_succ]
    refine wpAnyR_take (i := 1) (oi := ⟨some 32, _, _, _, _, _⟩) (v := ?_) rfl (by kernel_rfl) (by kernel_rfl) (by kernel_rfl) (fun _ _ _ h => h) hp (.inl ⟨by rfl, fun w _ => ?_⟩) (fun hq => ?_)
    rotate_left
    · go_simp
      with_reducible rfl
    clear hp; have hp := hq; clear hq
    try simp only [Act.put, List.setIfInBounds_toArray, List.set_cons_zero, List.set_cons_succ]
    refine wpAnyR_take (i := 2) (oi := ⟨some 33, _, _, _, _, _⟩) (v := ?_) rfl (by kernel_rfl) (by kernel_rfl) (by kernel_rfl) (fun _ _ _ h => h) hp (.inl ⟨by rfl, fun w _ => ?_⟩) (fun hq => ?_)
    rotate_left
    · go_simp
      with_reducible rfl
    clear hp; have hp := hq; clear hq
    try simp only [Act.put, List.setIfInBounds_toArray, List.set_cons_zero, List.set_cons_succ]
    refine wpAnyR_take (i := 3) (oi := ⟨some 34, _, _, _, _, _⟩) (v := ?_) rfl (by kernel_rfl) (by kernel_rfl) (by kernel_rfl) (fun _ _ _ h => h) hp (.inl ⟨by rfl, fun w hR => ?_⟩) (fun hq => ?_)
    rotate_left
    · have hR := hR.1 rfl
      (try dsimp only at hR)
      go_simp
      with_reducible rfl
    clear hp; have hp := hq; clear hq
    try simp only [Act.put, List.setIfInBounds_toArray, List.set_cons_zero, List.set_cons_succ]
    refine wpAnyR_take (i := 4) (oi := ⟨some 35, _, _, _, _, _⟩) (v := ?_) rfl (by kernel_rfl) (by kernel_rfl) (by kernel_rfl) (fun _ _ _ h => h) hp (.inl ⟨by rfl, fun w _ => ?_⟩) (fun hq => ?_)
    rotate_left
    · go_simp
      with_reducible rfl
    clear hp; have hp := hq; clear hq
    try simp only [Act.put, List.setIfInBounds_toArray, List.set_cons_zero, List.set_cons_succ]
    refine wpAnyR_take (i := 5) (oi := ⟨some 36, _, _, _, _, _⟩) (v := ?_) rfl (by kernel_rfl) (by kernel_rfl) (by kernel_rfl) (fun _ _ _ h => h) hp (.inl ⟨by rfl, fun w _ => ?_⟩) (fun hq => ?_)
    rotate_left
    · go_simp
      with_reducible rfl
    clear hp; have hp := hq; clear hq
    try simp only [Act.put, List.setIfInBounds_toArray, List.set_cons_zero, List.set_cons_succ]
    refine wpAnyR_take (i := 6) (oi := ⟨some 37, _, _, _, _, _⟩) (v := ?_) rfl (by kernel_rfl) (by kernel_rfl) (by kernel_rfl) (fun _ _ _ h => h) hp (.inl ⟨by rfl, fun w _ => ?_⟩) (fun hq => ?_)
    rotate_left
    · go_simp
      with_reducible rfl
    clear hp; have hp := hq; clear hq
    try simp only [Act.put, List.setIfInBounds_toArray, List.set_cons_zero, List.set_cons_succ]
    refine wpAnyR_take (i := 7) (oi := ⟨some 38, _, _, _, _, _⟩) (v := ?_) rfl (by kernel_rfl) (by kernel_rfl) (by kernel_rfl) (fun _ _ _ h => h) hp (.inl ⟨by rfl, fun w _ => ?_⟩) (fun hq => ?_)
    rotate_left
    · go_simp
      with_reducible rfl
    clear hp; have hp := hq; clear hq
    try simp only [Act.put, List.setIfInBounds_toArray, List.set_cons_zero, List.set_cons_succ]
    refine wpAnyR_take (i := 8) (oi := ⟨some 39, _, _, _, _, _⟩) (v := ?_) rfl (by kernel_rfl) (by kernel_rfl) (by kernel_rfl) (fun _ _ _ h => h) hp (.inl ⟨by rfl, fun w _ => ?_⟩) (fun hq => ?_)
    rotate_left
    · go_simp
      with_reducible rfl
    clear hp; have hp := hq; clear hq
    try simp only [Act.put, List.setIfInBounds_toArray, List.set_cons_zero, List.set_cons_succ]
    refine wpAnyR_take (i := 9) (oi := ⟨some 40, _, _, _, _, _⟩) (v := ?_) rfl (by kernel_rfl) (by kernel_rfl) (by kernel_rfl) (fun _ _ _ h => h) hp (.inl ⟨by rfl, fun w hR => ?_⟩) (fun hq => ?_)
    rotate_left
    · have hR := hR.2.1 rfl
      (try dsimp only at hR)
      go_simp
      with_reducible rfl
    clear hp; have hp := hq; clear hq
    try simp only [Act.put, List.setIfInBounds_toArray, List.set_cons_zero, List.set_cons_succ]
    refine wpAnyR_take (i := 10) (oi := ⟨some 41, _, _, _, _, _⟩) (v := ?_) rfl (by kernel_rfl) (by kernel_rfl) (by kernel_rfl) (fun _ _ _ h => h) hp (.inl ⟨by rfl, fun w _ => ?_⟩) (fun hq => ?_)
    rotate_left
    · go_simp
      with_reducible rfl
    clear hp; have hp := hq; clear hq
    try simp only [Act.put, List.setIfInBounds_toArray, List.set_cons_zero, List.set_cons_succ]
    refine wpAnyR_take (i := 11) (oi := ⟨some 42, _, _, _, _, _⟩) (v := ?_) rfl (by kernel_rfl) (by kernel_rfl) (by kernel_rfl) (fun _ _ _ h => h) hp (.inl ⟨by rfl, fun w _ => ?_⟩) (fun hq => ?_)
    rotate_left
    · go_simp
      with_reducible rfl
    clear hp; have hp := hq; clear hq
    try simp only [Act.put, List.setIfInBounds_toArray, List.set_cons_zero, List.set_cons_succ]
    refine wpAnyR_take (i := 12) (oi := ⟨some 43, _, _, _, _, _⟩) (v := ?_) rfl (by kernel_rfl) (by kernel_rfl) (by kernel_rfl) (fun _ _ _ h => h) hp (.inl ⟨by rfl, fun w hR => ?_⟩) (fun hq => ?_)
    rotate_left
    · have hR := hR.2.2.1 rfl
      (try dsimp only at hR)
      go_simp
      with_reducible rfl
    clear hp; have hp := hq; clear hq
    try simp only [Act.put, List.setIfInBounds_toArray, List.set_cons_zero, List.set_cons_succ]
    refine wpAnyR_take (i := 13) (oi := ⟨some 44, _, _, _, _, _⟩) (v := ?_) rfl (by kernel_rfl) (by kernel_rfl) (by kernel_rfl) (fun _ _ _ h => h) hp (.inl ⟨by rfl, fun w _ => ?_⟩) (fun hq => ?_)
    rotate_left
    · go_simp
      with_reducible rfl
    clear hp; have hp := hq; clear hq
    try simp only [Act.put, List.setIfInBounds_toArray, List.set_cons_zero, List.set_cons_succ]
    refine wpAnyR_take (i := 14) (oi := ⟨some 45, _, _, _, _, _⟩) (v := ?_) rfl (by kernel_rfl) (by kernel_rfl) (by kernel_rfl) (fun _ _ _ h => h) hp (.inl ⟨by rfl, fun w _ => ?_⟩) (fun hq => ?_)
    rotate_left
    · go_simp
      with_reducible rfl
    clear hp; have hp := hq; clear hq
    try simp only [Act.put, List.setIfInBounds_toArray, List.set_cons_zero, List.set_cons_succ]
    refine wpAnyR_done (by kernel_rfl) ?_ _
    clear hp
    go_wp2
    go_ret
    exact .inr (.inr (.inl ⟨hs6.out, HDN.out, by rw [← HM.out]; omega, rfl, (Chg.refl _ w).drew⟩))
  have hf : decide ((d.now.length : Int) < (e : Int) + (many : Int)) = false := by simpa using hfull
  have hroom : e + many ≤ d.now.length := by omega
  go_enter Try.func19, Try.ntmps19
  go_wp2_with fail
  refine wp_region_R (RL [(3, fun w' => w'.cell? ⟨jb, 1, none⟩ = some (.int .i64 (e : Int))), (9, fun w' => w'.cell? ⟨jb, 0, none⟩ = some (.pointer (some ⟨g, 0, none⟩))), (12, fun w' => w'.cell? ⟨g, 1, none⟩ = some (.slice (some ⟨gn, 0, none⟩) d.now.length cn))]) (by kernel_rfl) (RL_cons hj1 (RL_cons hj0 (RL_cons hg1 (RL_nil _)))) (fun hp => ?_)
  refine wpAnyR_take (i := 0) (oi := ⟨some 31, _, _, _, _, _⟩) (v := ?_) rfl (by kernel_rfl) (by kernel_rfl) (by kernel_rfl) (fun _ _ _ h => h) hp (.inl ⟨by rfl, fun w _ => ?_⟩) (fun hq => ?_)
  rotate_left
  · go_simp
    with_reducible rfl
  clear hp; have hp := hq; clear hq
  try simp only [Act.put, List.setIfInBounds_toArray, List.set_cons_zero, List.set_cons_succ]
  refine wpAnyR_take (i := 1) (oi := ⟨some 32, _, _, _, _, _⟩) (v := ?_) rfl (by kernel_rfl) (by kernel_rfl) (by kernel_rfl) (fun _ _ _ h => h) hp (.inl ⟨by rfl, fun w _ => ?_⟩) (fun hq => ?_)
  rotate_left
  · go_simp
    with_reducible rfl
  clear hp; have hp := hq; clear hq
  try simp only [Act.put, List.setIfInBounds_toArray, List.set_cons_zero, List.set_cons_succ]
  refine wpAnyR_take (i := 2) (oi := ⟨some 33, _, _, _, _, _⟩) (v := ?_) rfl (by kernel_rfl) (by kernel_rfl) (by kernel_rfl) (fun _ _ _ h => h) hp (.inl ⟨by rfl, fun w _ => ?_⟩) (fun hq => ?_)
  rotate_left
  · go_simp
    with_reducible rfl
  clear hp; have hp := hq; clear hq
  try simp only [Act.put, List.setIfInBounds_toArray, List.set_cons_zero, List.set_cons_succ]
  refine wpAnyR_take (i := 3) (oi := ⟨some 34, _, _, _, _, _⟩) (v := ?_) rfl (by kernel_rfl) (by kernel_rfl) (by kernel_rfl) (fun _ _ _ h => h) hp (.inl ⟨by rfl, fun w hR => ?_⟩) (fun hq => ?_)
  rotate_left
  · have hR := hR.1 rfl
    (try dsimp only at hR)
    go_simp
    with_reducible rfl
  clear hp; have hp := hq; clear hq
  try simp only [Act.put, List.setIfInBounds_toArray, List.set_cons_zero, List.set_cons_succ]
  refine wpAnyR_take (i := 4) (oi := ⟨some 35, _, _, _, _, _⟩) (v := ?_) rfl (by kernel_rfl) (by kernel_rfl) (by kernel_rfl) (fun _ _ _ h => h) hp (.inl ⟨by rfl, fun w _ => ?_⟩) (fun hq => ?_)
  rotate_left
  · go_simp
    with_reducible rfl
  clear hp; have hp := hq; clear hq
  try simp only [Act.put, List.setIfInBounds_toArray, List.set_cons_zero, List.set_cons_succ]
  refine wpAnyR_take (i := 5) (oi := ⟨some 36, _, _, _, _, _⟩) (v := ?_) rfl (by kernel_rfl) (by kernel_rfl) (by kernel_rfl) (fun _ _ _ h => h) hp (.inl ⟨by rfl, fun w _ => ?_⟩) (fun hq => ?_)
  rotate_left
  · go_simp
    with_reducible rfl
  clear hp; have hp := hq; clear hq
  try simp only [Act.put, List.setIfInBounds_toArray, List.set_cons_zero, List.set_cons_succ]
  refine wpAnyR_take (i := 6) (oi := ⟨some 37, _, _, _, _, _⟩) (v := ?_) rfl (by kernel_rfl) (by kernel_rfl) (by kernel_rfl) (fun _ _ _ h => h) hp (.inl ⟨by rfl, fun w _ => ?_⟩) (fun hq => ?_)
  rotate_left
  · go_simp
    with_reducible rfl
  clear hp; have hp := hq; clear hq
  try simp only [Act.put, List.setIfInBounds_toArray, List.set_cons_zero, List.set_cons_succ]
  refine wpAnyR_take (i := 7) (oi := ⟨some 38, _, _, _, _, _⟩) (v := ?_) rfl (by kernel_rfl) (by kernel_rfl) (by kernel_rfl) (fun _ _ _ h => h) hp (.inl ⟨by rfl, fun w _ => ?_⟩) (fun hq => ?_)
  rotate_left
  · go_simp
    with_reducible rfl
  clear hp; have hp := hq; clear hq
  try simp only [Act.put, List.setIfInBounds_toArray, List.set_cons_zero, List.set_cons_succ]
  refine wpAnyR_take (i := 8) (oi := ⟨some 39, _, _, _, _, _⟩) (v := ?_) rfl (by kernel_rfl) (by kernel_rfl) (by kernel_rfl) (fun _ _ _ h => h) hp (.inl ⟨by rfl, fun w _ => ?_⟩) (fun hq => ?_)
  rotate_left
  · go_simp
    with_reducible rfl
  clear hp; have hp := hq; clear hq
  try simp only [Act.put, List.setIfInBounds_toArray, List.set_cons_zero, List.set_cons_succ]
  refine wpAnyR_take (i := 9) (oi := ⟨some 40, _, _, _, _, _⟩) (v := ?_) rfl (by kernel_rfl) (by kernel_rfl) (by kernel_rfl) (fun _ _ _ h => h) hp (.inl ⟨by rfl, fun w hR => ?_⟩) (fun hq => ?_)
  rotate_left
  · have hR := hR.2.1 rfl
    (try dsimp only at hR)
    go_simp
    with_reducible rfl
  clear hp; have hp := hq; clear hq
  try simp only [Act.put, List.setIfInBounds_toArray, List.set_cons_zero, List.set_cons_succ]
  refine wpAnyR_take (i := 10) (oi := ⟨some 41, _, _, _, _, _⟩) (v := ?_) rfl (by kernel_rfl) (by kernel_rfl) (by kernel_rfl) (fun _ _ _ h => h) hp (.inl ⟨by rfl, fun w _ => ?_⟩) (fun hq => ?_)
  rotate_left
  · go_simp
    with_reducible rfl
  clear hp; have hp := hq; clear hq
  try simp only [Act.put, List.setIfInBounds_toArray, List.set_cons_zero, List.set_cons_succ]
  refine wpAnyR_take (i := 11) (oi := ⟨some 42, _, _, _, _, _⟩) (v := ?_) rfl (by kernel_rfl) (by kernel_rfl) (by kernel_rfl) (fun _ _ _ h => h) hp (.inl ⟨by rfl, fun w _ => ?_⟩) (fun hq => ?_)
  rotate_left
  · go_simp
    with_reducible rfl
  clear hp; have hp := hq; clear hq
  try simp only [Act.put, List.setIfInBounds_toArray, List.set_cons_zero, List.set_cons_succ]
  refine wpAnyR_take (i := 12) (oi := ⟨some 43, _, _, _, _, _⟩) (v := ?_) rfl (by kernel_rfl) (by kernel_rfl) (by kernel_rfl) (fun _ _ _ h => h) hp (.inl ⟨by rfl, fun w hR => ?_⟩) (fun hq => ?_)
  rotate_left
  · have hR := hR.2.2.1 rfl
    (try dsimp only at hR)
    go_simp
    with_reducible rfl
  clear hp; have hp := hq; clear hq
  try simp only [Act.put, List.setIfInBounds_toArray, List.set_cons_zero, List.set_cons_succ]
  refine wpAnyR_take (i := 13) (oi := ⟨some 44, _, _, _, _, _⟩) (v := ?_) rfl (by kernel_rfl) (by kernel_rfl) (by kernel_rfl) (fun _ _ _ h => h) hp (.inl ⟨by rfl, fun w _ => ?_⟩) (fun hq => ?_)
  rotate_left
  · go_simp
    with_reducible rfl
  clear hp; have hp := hq; clear hq
  try simp only [Act.put, List.setIfInBounds_toArray, List.set_cons_zero, List.set_cons_succ]
  refine wpAnyR_take (i := 14) (oi := ⟨some 45, _, _, _, _, _⟩) (v := ?_) rfl (by kernel_rfl) (by kernel_rfl) (by kernel_rfl) (fun _ _ _ h => h) hp (.inl ⟨by rfl, fun w _ => ?_⟩) (fun hq => ?_)
  rotate_left
  · go_simp
    with_reducible rfl
  clear hp; have hp := hq; clear hq
  try simp only [Act.put, List.setIfInBounds_toArray, List.set_cons_zero, List.set_cons_succ]
  refine wpAnyR_done (by kernel_rfl) ?_ _
  clear hp
  obtain ⟨RES, hRES⟩ : ∃ RES, RES = Dk.appGo d e s many 0 := ⟨_, rfl⟩
  have HRES := Lib.hid hRES
  have R0 := Lib.hid (show AppRel w w.drew base g jb d vd (.slice (some ⟨gn, 0, none⟩) d.now.length cn) vw e r s d.now.length RES many 0 from ⟨⟨d, vd, _, vw, H.out.new_ (Chg.refl _ w).drew, (Chg.refl _ w).drew, fun k hk => .inl hk, rfl, hRES.symm, by omega⟩, HJ.out⟩)
  clear hRES hf hfull hm1 hg3 hd
  go_wp2_with fail
  go_loopg [47] many (fun q s47 wr => ∃ i : Nat, s47 = .int .i64 (i : Int) ∧ i + q = many ∧ Hid (AppRel w wr base g jb d vd (.slice (some ⟨gn, 0, none⟩) d.now.length cn) vw e r s d.now.length RES q i))
  case atStart => exact ⟨0, rfl, by omega, R0⟩
  case round =>
    obtain ⟨i, rfl, hi, hR⟩ := hrel
    obtain ⟨dd, vd1, vn1, vw1, hD, hc, hk, hnl, hcl, hdw⟩ := hR.out.mid
    have HD := Lib.hid hD
    have HC := Lib.hid (And.intro hc (And.intro hk (And.intro hnl (And.intro hcl hdw))))
    have HJ1 := Lib.hid hR.out.jb
    clear hD hc hk hnl hcl hdw hj1 hj0 hg1
    cases gk with
    | zero =>
      obtain rfl : i = many := by omega
      have hj1 : wr.cell? ⟨jb, 1, none⟩ = some (.int .i64 (e : Int)) := HJ1.out.cell 1
      have hj2 : wr.cell? ⟨jb, 2, none⟩ = some (.int .i64 (r : Int)) := HJ1.out.cell 2
      have hf1 : wr.frozen? ⟨jb, 1, none⟩ = false := HJ1.out.frozen 1
      have hf2 : wr.frozen? ⟨jb, 2, none⟩ = false := HJ1.out.frozen 2
      have hr6 := HW.out.2.2
      go_wp2
      go_ret
      obtain ⟨hc, hk, hnl, hcl, hdw⟩ := HC.out
      have hfin : Dk.appGo d e s (Dk.manyOf s.length) 0 = (dd, 0) := by rw [← HM.out, ← HRES.out, ← hcl]; rfl
      have hJ' := (HJ1.out.put 1 (.int .i64 ((e : Int) + (i : Int)))).put 2 (.int .i64 ((r : Int) + 1))
      have cJ := ((Chg.refl (· = jb) wr).setCell (p := ⟨jb, 1, none⟩) (.inl rfl) (.int .i64 ((e : Int) + (i : Int)))).setCell (p := ⟨jb, 2, none⟩) (.inl rfl) (.int .i64 ((r : Int) + 1))
      refine .inr (.inr (.inr ⟨hs6.out, HDN.out, by rw [← HM.out]; exact hroom, by rw [hfin]; rfl, ?_, .inl ⟨by rw [hfin], ?_⟩⟩))
      · rw [hfin]
        refine ⟨vd1, vn1, vw1, HD.out.keep cJ (fun k hk e => JBlk.apart HJ1.out HD.out (e ▸ hk)), (hc.mono (fp' := fun k => k = jb ∨ fpD g vd (.slice (some ⟨gn, 0, none⟩) d.now.length cn) vw k) (fun _ _ h => .inr h)).trans cJ (fun i hi => .inl (.inl hi)), hk⟩
      · rw [← HM.out]
        rw [show ((e + i : Nat) : Int) = (e : Int) + (i : Int) from by omega, show ((r + 1 : Nat) : Int) = (r : Int) + 1 from by omega]
        exact hJ'
    | succ f =>
      have him : (i : Int) < (many : Int) := by omega
      have hi59 : (i : Int) * 59 ≤ (n : Int) := by
        have h1 := HM.out
        rw [← HN.out] at h1
        unfold Dk.manyOf at h1
        omega
      have hi0 : (0 : Int) ≤ (i : Int) * 59 := by omega
      go_upto_region 14 with fail
      obtain ⟨R, hR'⟩ : ∃ R, R = S.extract (i * 59) n := ⟨_, rfl⟩
      rw [← hR']
      obtain ⟨l, hl⟩ : ∃ l, l = s.drop (i * 59) := ⟨_, rfl⟩
      have hRl : R = bs l := by rw [hR', HS.out, hl, bs_drop _ _ _ (by rw [HN.out]; exact Nat.le_refl _)]
      obtain ⟨rl, hrl⟩ : ∃ rl, rl = l.length := ⟨_, rfl⟩
      have hRz : R.size = rl := by rw [hRl, bs_size, hrl]
      have hrl6 : rl ≤ 60000 := by have := hs6.out; rw [hrl, hl, List.length_drop]; omega
      have HRL := Lib.hid (And.intro hRl (And.intro hl hrl))
      clear hR' hRl hl hrl
      obtain ⟨B, hB⟩ : ∃ B, B = built rl := ⟨_, rfl⟩
      have hB' : B = .int .u8 2 :: .int .u8 ((rl : Int) % 256) :: .int .u8 ((rl : Int) / 256) :: .int .u8 ((rl : Int) / 65536) :: zeros 60 := by rw [hB]; exact built_small rl hrl6
      have hBl : B.length = 64 := by rw [hB]; exact length_built _
      have hB1 : ∀ v ∈ B, v.oneCell' = true := by rw [hB]; exact one_built _
      have hthB : (wr.alloc (.cells (zeros 64).toArray 75)).there wr.heap.size 0 B.length := (Blk.fresh wr 75 _).there_ 0 _ (by simp [zeros, hBl])
      have hiB : (Try.prog.info? 75).map (·.size) = some B.length := by rw [Try.infoS, hBl]
      have HB := Lib.hid (And.intro hB (And.intro hB' (And.intro hBl (And.intro hB1 (And.intro hthB hiB)))))
      clear hB hB' hBl hB1 hthB hiB
      go_upto_if 67 with (first
        | (with_reducible refine wpList_buildS4 (o := ⟨some 65, _, _, _, _, _⟩) rfl (.tmp 56) (.tmp 60) (.tmp 64) rfl ((rl : Int) % 256) ((rl : Int) / 256) ((rl : Int) / 65536) rfl rfl rfl B HB.out.2.1 ?_)
        | (with_reducible refine wpList_allocS (o := ⟨some 8, _, _, _, _, _⟩) rfl rfl ?_)
        | ((with_reducible refine wpList_store_at (op := ⟨none, _, _, _, _, _⟩) rfl 75 (.tmp 8) (.tmp 65) rfl wr.heap.size 0 B rfl rfl HB.out.2.2.2.2.1 HB.out.2.2.2.2.2 HB.out.2.2.2.1 ?_); intro w2 hw2))
      obtain ⟨hBb, hB', hBl, hB1, hthB, hiB⟩ := HB.out
      have C2 : Chg (fun _ => False) wr w2 := by rw [hw2.out]; exact ((Chg.refl (fun _ => False) wr).alloc _).setCells (.inr (Nat.le_refl _)) _ _
      have hX2 : Blk w2 wr.heap.size 75 B.toArray := by
        rw [hw2.out]
        have := (Blk.fresh wr 75 (zeros 64).toArray).setCells (o := 0) (vs := B) (by simp [zeros, hBl])
        rw [show (splice (zeros 64).toArray.toList 0 B) = B from by simp only [splice]; rw [List.take_zero, List.nil_append, List.drop_eq_nil_of_le (by simp [zeros, hBl]), List.append_nil]] at this
        exact this
      obtain ⟨L, hL⟩ : ∃ L, L = (if (i == 0) = true then .int .u8 1 else .int .u8 2) :: (built rl).drop 1 := ⟨_, rfl⟩
      have hLl : L.length = 64 := by rw [hL]; simp [built, zeros]
      have HL := Lib.hid (And.intro hL hLl)
      have HX2 := Lib.hid (And.intro hX2 (And.intro C2 (And.intro hBb hBl)))
      clear hw2 hBb hB' hBl hB1 hthB hiB C2 hX2 hL hLl
      clear HB
      go_cut [] (fun wx => Hid (Blk wx wr.heap.size 75 L.toArray ∧ Chg (· = wr.heap.size) w2 wx))
      case first =>
        by_cases hi00 : i = 0
        · subst hi00
          have hb : ((0 : Int) == 0) = true := rfl
          have hx0 : w2.frozen? ⟨wr.heap.size, 0, none⟩ = false := HX2.out.1.frozen 0
          have hx1 : w2.cell? ⟨wr.heap.size, 0, none⟩ = some (.int .u8 2) := by rw [HX2.out.1.cell, HX2.out.2.2.1]; rfl
          go_wp2
          go_meet
          refine Lib.hid ⟨?_, (Chg.refl (· = wr.heap.size) w2).setCell (p := ⟨wr.heap.size, 0, none⟩) (.inl rfl) _⟩
          have := HX2.out.1.put 0 (.int .u8 1)
          rw [show (B.toArray.setIfInBounds 0 (.int .u8 1)) = L.toArray from by rw [HX2.out.2.2.1, HL.out.1]; simp [built]] at this
          exact this
        · have hb : ((i : Int) == 0) = false := by simp; omega
          go_wp2
          go_meet
          refine Lib.hid ⟨?_, Chg.refl _ _⟩
          have := HX2.out.1
          rw [show B = L from by rw [HX2.out.2.2.1, HL.out.1, if_neg (by simpa using hi00)]; simp [built]] at this
          exact this
      case rest =>
        obtain ⟨m, hm⟩ : ∃ m, m = min l.length 59 := ⟨_, rfl⟩
        have hsl2 : (Instr.sliceAt 75 (.pointer (some ⟨wr.heap.size, 0, none⟩)) (some (.int .i64 4)) (some (.int .i64 63)) none).run Try.prog wc = .ok (.slice (some ⟨wr.heap.size, 4, none⟩) 59 60) wc := sliceSec wc wr.heap.size 59 (by omega)
        have hth : wc.there wr.heap.size 4 m := hcut.out.1.there_ 4 m (by simp [HL.out.2]; omega)
        have HTH := Lib.hid (And.intro hth hm)
        have HCUT := Lib.hid hcut.out
        clear hth hm hcut
        have hls : (splice L 4 (bvs (l.take m))).length = 64 := by
          have := HTH.out.2
          rw [length_splice L 4 _ (by rw [length_bvs, List.length_take, HL.out.2]; omega), HL.out.2]
        obtain ⟨v63, hv63⟩ : ∃ v63, (splice L 4 (bvs (l.take m)))[63]? = some v63 := ⟨_, List.getElem?_eq_getElem (by omega)⟩
        have HV := Lib.hid (And.intro hls hv63)
        clear hls hv63
        go_wp2_with (first
          | ((with_reducible refine wpList_copy_bs (o := ⟨some 71, _, _, _, _, _⟩) rfl (.tmp 69) (.tmp 70) rfl wr.heap.size 4 59 60 l R HRL.out.1 m HTH.out.2 rfl rfl HTH.out.1 ?_); intro w3 hw3; have hX3 : Blk w3 wr.heap.size 75 (splice L 4 (bvs (l.take m))).toArray := by
              rw [hw3.out]
              exact HCUT.out.1.setCells (o := 4) (vs := bvs (l.take m)) (by have := HTH.out.2; rw [length_bvs, List.length_take]; simp [HL.out.2]; omega)
             have HX3 := Lib.hid hX3
             have hc63 : w3.cell? ⟨wr.heap.size, 63, none⟩ = some v63 := by rw [hX3.cell]; simpa using HV.out.2
             have hf63 : w3.frozen? ⟨wr.heap.size, 63, none⟩ = false := hX3.frozen 63
             clear hX3)
          | fail)
        obtain ⟨w4, hw4⟩ : ∃ w4, w4 = w3.setCell ⟨wr.heap.size, 63, none⟩ (.int .u8 1) := ⟨_, rfl⟩
        rw [← hw4]
        have C4 : Chg (fun _ => False) wr w4 := by
          have c3 : Chg (· = wr.heap.size) w2 w3 := by rw [hw3.out]; exact HCUT.out.2.setCells (.inl rfl) _ _
          rw [hw4]
          exact (HX2.out.2.1.trans (c3.setCell (p := ⟨wr.heap.size, 63, none⟩) (.inl rfl) _) (fun i hi => .inr (Nat.le_of_eq hi.symm)))
        have hX4 : Blk w4 wr.heap.size 75 (bvs (Dk.enc (i == 0) l)).toArray := by
          rw [hw4]
          have := HX3.out.put 63 (.int .u8 1)
          rw [← enc_cells (i == 0) l L (by rw [HL.out.1, HRL.out.2.2])]
          rw [HTH.out.2] at this
          simpa using this
        have hJ4 := C4.blk HJ1.out (fun h => h)
        have hD4 := HD.out.new_ C4
        have hj0 : w4.cell? ⟨jb, 0, none⟩ = some (.pointer (some ⟨g, 0, none⟩)) := hJ4.cell 0
        have hj1 : w4.cell? ⟨jb, 1, none⟩ = some (.int .i64 (e : Int)) := hJ4.cell 1
        have hwei : IntKind.i64.wrap ((e : Int) + (i : Int)) = (e : Int) + (i : Int) := wrap_small _ (by omega) (by omega)
        obtain ⟨E, hE⟩ : ∃ E, E = Dk.writeErr dd ((e : Int) + (i : Int)) 64 := ⟨_, rfl⟩
        have hgx : wr.heap.size ≠ g := by have := HD.out.blk.lt; omega
        have H4 := Lib.hid (And.intro hX4 (And.intro hJ4 (And.intro hD4 (And.intro C4 hgx))))
        have HE := Lib.hid hE
        clear hw4 hX4 hJ4 hD4 C4 hgx hw3 hc63 hf63 hE hsl2
        refine wp_region_R (RL [(3, fun w' => w'.cell? ⟨jb, 0, none⟩ = some (.pointer (some ⟨g, 0, none⟩))), (7, fun w' => w'.cell? ⟨jb, 1, none⟩ = some (.int .i64 (e : Int)))]) (by kernel_rfl) (RL_cons hj0 (RL_cons hj1 (RL_nil _))) (fun hp => ?_)
        refine wpAnyR_take (i := 0) (oi := ⟨some 73, _, _, _, _, _⟩) (v := ?_) rfl (by kernel_rfl) (by kernel_rfl) (by kernel_rfl) (fun _ _ _ h => h) hp (.inl ⟨by rfl, fun w _ => ?_⟩) (fun hq => ?_)
        rotate_left
        · go_simp
          with_reducible rfl
        clear hp; have hp := hq; clear hq
        try simp only [Act.put, List.setIfInBounds_toArray, List.set_cons_zero, List.set_cons_succ]
        refine wpAnyR_take (i := 1) (oi := ⟨some 74, _, _, _, _, _⟩) (v := ?_) rfl (by kernel_rfl) (by kernel_rfl) (by kernel_rfl) (fun _ _ _ h => h) hp (.inl ⟨by rfl, fun w _ => ?_⟩) (fun hq => ?_)
        rotate_left
        · go_simp
          with_reducible rfl
        clear hp; have hp := hq; clear hq
        try simp only [Act.put, List.setIfInBounds_toArray, List.set_cons_zero, List.set_cons_succ]
        refine wpAnyR_take (i := 2) (oi := ⟨some 75, _, _, _, _, _⟩) (v := ?_) rfl (by kernel_rfl) (by kernel_rfl) (by kernel_rfl) (fun _ _ _ h => h) hp (.inl ⟨by rfl, fun w _ => ?_⟩) (fun hq => ?_)
        rotate_left
        · go_simp
          with_reducible rfl
        clear hp; have hp := hq; clear hq
        try simp only [Act.put, List.setIfInBounds_toArray, List.set_cons_zero, List.set_cons_succ]
        refine wpAnyR_take (i := 3) (oi := ⟨some 76, _, _, _, _, _⟩) (v := ?_) rfl (by kernel_rfl) (by kernel_rfl) (by kernel_rfl) (fun _ _ _ h => h) hp (.inl ⟨by rfl, fun w hR => ?_⟩) (fun hq => ?_)
        rotate_left
        · have hR := hR.1 rfl
          (try dsimp only at hR)
          go_simp
          with_reducible rfl
        clear hp; have hp := hq; clear hq
        try simp only [Act.put, List.setIfInBounds_toArray, List.set_cons_zero, List.set_cons_succ]
        refine wpAnyR_take (i := 4) (oi := ⟨some 77, _, _, _, _, _⟩) (v := ?_) rfl (by kernel_rfl) (by kernel_rfl) (by kernel_rfl) (fun _ _ _ h => h) hp (.inl ⟨by rfl, fun w _ => ?_⟩) (fun hq => ?_)
        rotate_left
        · go_simp
          with_reducible rfl
        clear hp; have hp := hq; clear hq
        try simp only [Act.put, List.setIfInBounds_toArray, List.set_cons_zero, List.set_cons_succ]
        refine wpAnyR_take (i := 5) (oi := ⟨some 78, _, _, _, _, _⟩) (v := ?_) rfl (by kernel_rfl) (by kernel_rfl) (by kernel_rfl) (fun _ _ _ h => h) hp (.inl ⟨by rfl, fun w _ => ?_⟩) (fun hq => ?_)
        rotate_left
        · go_simp
          with_reducible rfl
        clear hp; have hp := hq; clear hq
        try simp only [Act.put, List.setIfInBounds_toArray, List.set_cons_zero, List.set_cons_succ]
        refine wpAnyR_take (i := 6) (oi := ⟨some 79, _, _, _, _, _⟩) (v := ?_) rfl (by kernel_rfl) (by kernel_rfl) (by kernel_rfl) (fun _ _ _ h => h) hp (.inl ⟨by rfl, fun w _ => ?_⟩) (fun hq => ?_)
        rotate_left
        · go_simp
          with_reducible rfl
        clear hp; have hp := hq; clear hq
        try simp only [Act.put, List.setIfInBounds_toArray, List.set_cons_zero, List.set_cons_succ]
        refine wpAnyR_take (i := 7) (oi := ⟨some 80, _, _, _, _, _⟩) (v := ?_) rfl (by kernel_rfl) (by kernel_rfl) (by kernel_rfl) (fun _ _ _ h => h) hp (.inl ⟨by rfl, fun w hR => ?_⟩) (fun hq => ?_)
        rotate_left
        · have hR := hR.2.1 rfl
          (try dsimp only at hR)
          go_simp
          with_reducible rfl
        clear hp; have hp := hq; clear hq
        try simp only [Act.put, List.setIfInBounds_toArray, List.set_cons_zero, List.set_cons_succ]
        refine wpAnyR_take (i := 8) (oi := ⟨some 81, _, _, _, _, _⟩) (v := ?_) rfl (by kernel_rfl) (by kernel_rfl) (by kernel_rfl) (fun _ _ _ h => h) hp (.inl ⟨by rfl, fun w _ => ?_⟩) (fun hq => ?_)
        rotate_left
        · go_simp
          with_reducible rfl
        clear hp; have hp := hq; clear hq
        try simp only [Act.put, List.setIfInBounds_toArray, List.set_cons_zero, List.set_cons_succ]
        refine wpAnyR_take (i := 9) (oi := ⟨some 82, _, _, _, _, _⟩) (v := ?_) rfl (by kernel_rfl) (by kernel_rfl) (by kernel_rfl) (fun _ _ _ h => h) hp (.inl ⟨by rfl, fun w _ => ?_⟩) (fun hq => ?_)
        rotate_left
        · go_simp
          with_reducible rfl
        clear hp; have hp := hq; clear hq
        try simp only [Act.put, List.setIfInBounds_toArray, List.set_cons_zero, List.set_cons_succ]
        refine wpAnyR_take (i := 10) (oi := ⟨some 83, _, _, _, _, _⟩) (v := ?_) rfl (by kernel_rfl) (by kernel_rfl) (by kernel_rfl) (fun _ _ _ h => h) hp (.inl ⟨by rfl, fun w _ => ?_⟩) (fun hq => ?_)
        rotate_left
        · go_simp
          with_reducible rfl
        clear hp; have hp := hq; clear hq
        try simp only [Act.put, List.setIfInBounds_toArray, List.set_cons_zero, List.set_cons_succ]
        refine wpAnyR_step (i := 11) (o := ⟨some 84, _, _, _, _, _⟩) (by kernel_rfl) rfl (by rfl) (fun K hK => ?_) -- Op.call { callee := Callee.value (Operand.func 10), args := #[Operand.tmp 76, Operand.tmp 82, Operand.tmp 83],
        go_simp
        have hD5 := H4.out.2.2.1.new_ (Chg.refl _ w4).drew
        refine (write_upd ((e : Int) + (i : Int)) (some ⟨wr.heap.size, 0, none⟩) 64 64 (Dk.enc (i == 0) l) hD5 (Dk.length_enc _ _).symm (.inr ⟨_, rfl, fun j v hv => by
          rw [Addr.add_mid, Nat.zero_add, World.cell?_drew, H4.out.1.cell]; simpa using hv⟩) (fun _ ad hA => by cases hA; exact H4.out.2.2.2.2) (by have := HC.out.2.2.2.2; have := HW.out.1; simp only [maxLen]; omega)).mono ?_
        rw [Dk.length_enc, ← HE.out]
        rintro e1 w5 ⟨rfl, hU⟩
        show K _ _
        have hU' := hU
        obtain ⟨vd2, vn2, vw2, hD2, hc2, hk2⟩ := hU'
        have hJ5 := hc2.blk (Blk.drew H4.out.2.1) (JBlk.apart (w := w4.drew) H4.out.2.1 hD5)
        have hS3 : w5.cell? ⟨jb, 0, none⟩ = some (.pointer (some ⟨g, 0, none⟩)) := hJ5.cell 0
        have hS7 : w5.cell? ⟨jb, 1, none⟩ = some (.int .i64 (e : Int)) := hJ5.cell 1
        refine hK _ _ (pend_off (by kernel_rfl) (pend_on hS7 pend_nil)) (fun hq => ?_)
        clear hp hK K; have hp := hq; clear hq
        try simp only [Act.put, List.setIfInBounds_toArray, List.set_cons_zero, List.set_cons_succ]
        refine wpAnyR_take (i := 12) (oi := ⟨some 9, _, _, _, _, _⟩) (v := ?_) rfl (by kernel_rfl) (by kernel_rfl) (by kernel_rfl) (fun _ _ _ h => h) hp (.inl ⟨by rfl, fun w _ => ?_⟩) (fun hq => ?_)
        rotate_left
        · go_simp
          with_reducible rfl
        clear hp; have hp := hq; clear hq
        try simp only [Act.put, List.setIfInBounds_toArray, List.set_cons_zero, List.set_cons_succ]
        refine wpAnyR_done (by kernel_rfl) ?_ _
        clear hp
        have HU := Lib.hid (And.intro hU (And.intro hD2 (And.intro hc2 (And.intro hk2 hJ5))))
        clear hU hD2 hc2 hk2 hJ5 hD5 hS3 hS7 hj0 hj1
        have hcl := HC.out.2.2.2.1
        unfold Dk.appGo at hcl
        rw [show (((e + i : Nat)) : Int) = (e : Int) + (i : Int) from by omega, ← HE.out, ← HRL.out.2.1] at hcl
        by_cases h0 : E = 0
        · have hd0 : (E == 0) = true := by simp [h0]
          subst h0
          have HCL2 := Lib.hid (show Dk.appGo (Dk.write dd ((e : Int) + (i : Int)) (Dk.enc (i == 0) l)) e s f (i + 1) = RES from by rwa [if_pos rfl] at hcl)
          clear hcl
          go_wp2
          go_roundg f
          case measure => omega
          case rel =>
            obtain ⟨hc, hk, hnl, _, hdw⟩ := HC.out
            obtain ⟨_, hD2, hc2, hk2, hJ2⟩ := HU.out
            refine ⟨i + 1, by go_num, by omega, Lib.hid ⟨⟨Dk.write dd ((e : Int) + (i : Int)) (Dk.enc (i == 0) l), vd2, vn2, vw2, hD2, ((hc.trans H4.out.2.2.2.1 (fun _ h => h.elim)).drew).trans hc2 hk, fun k h => ?_, by rw [Dk.write_len]; exact hnl, HCL2.out, by have := Dk.write_wr dd ((e : Int) + (i : Int)) (Dk.enc (i == 0) l); omega⟩, hJ2⟩⟩
            rcases hk2 k h with h | h
            · exact hk k h
            · exact .inr (Nat.le_trans hc.size (Nat.le_trans H4.out.2.2.2.1.size h))
        · have hd0 : (E == 0) = false := by simpa using h0
          have HCL2 := Lib.hid (show (Dk.write dd ((e : Int) + (i : Int)) (Dk.enc (i == 0) l), E) = RES from by rwa [if_neg h0] at hcl)
          clear hcl
          go_wp2
          go_ret
          obtain ⟨hc, hk, hnl, _, hdw⟩ := HC.out
          have hfin : Dk.appGo d e s (Dk.manyOf s.length) 0 = (Dk.write dd ((e : Int) + (i : Int)) (Dk.enc (i == 0) l), E) := by rw [← HM.out, ← HRES.out, HCL2.out]
          refine .inr (.inr (.inr ⟨hs6.out, HDN.out, by rw [← HM.out]; exact hroom, by rw [hfin]; rfl, ?_, .inr ⟨by rw [hfin]; exact h0, HU.out.2.2.2.2⟩⟩))
          rw [hfin]
          exact (Upd.trans ((hc.trans H4.out.2.2.2.1 (fun _ h => h.elim)).drew) hk HU.out.1).j jb

end Go.Proofs.Ytdnjelggdjimhaa
