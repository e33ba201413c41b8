/-
  The plain model of a disk: sectors as lists of bytes, the writes that are not durable, the power. No program in sight.
-/
import Derived.WalkKit
namespace Go.Proofs.Ytdnjelggdjimhaa
namespace Dk

/-- A sector: 64 bytes. -/
abbrev Sec := List UInt8

/-- A sector of zero bytes. -/
def zsec : Sec := List.replicate 64 0
theorem length_zsec : zsec.length = 64 := by simp [zsec]

/-- Bytes laid over a sector of zero bytes. -/
def pad (b : List UInt8) : Sec := b ++ List.replicate (64 - b.length) 0
theorem length_pad (b : List UInt8) (h : b.length ≤ 64) : (pad b).length = 64 := by simp [pad]; omega
theorem pad_get (b : List UInt8) (h : b.length ≤ 64) (i : Nat) (hi : i < 64) : (pad b).getD i 0 = b.getD i 0 := by
  simp only [pad, List.getD_eq_getElem?_getD, List.getElem?_append]
  split
  · rfl
  · rw [List.getElem?_replicate, if_pos (by omega), List.getElem?_eq_none (by omega)]; rfl

structure D where
  dur : List Sec
  now : List Sec
  wr : List (Nat × Sec)
  down : Bool
  armed : Bool
  left : Nat

/-- A write is laid over the sectors. -/
def put1 (l : List Sec) (p : Nat × Sec) : List Sec := l.set p.1 p.2
def putAll (l : List Sec) (ps : List (Nat × Sec)) : List Sec := ps.foldl put1 l
/-- The first n bytes of a write are laid over the sectors. -/
def torn1 (l : List Sec) (n : Nat) (p : Nat × Sec) : List Sec := l.set p.1 (p.2.take n ++ (l.getD p.1 zsec).drop n)
/-- How many bytes of the i-th write a crash keeps. -/
def keptOf (keep : List Int) (i : Nat) : Nat := (min (max (keep.getD i 0) 0) 64).toNat
def tornFrom (keep : List Int) : Nat → List Sec → List (Nat × Sec) → List Sec
  | _, l, [] => l
  | i, l, p :: ps => tornFrom keep (i + 1) (torn1 l (keptOf keep i) p) ps

theorem length_put1 (l : List Sec) (p : Nat × Sec) : (put1 l p).length = l.length := by simp [put1]
theorem length_putAll (ps : List (Nat × Sec)) : ∀ l : List Sec, (putAll l ps).length = l.length := by
  induction ps with
  | nil => intro l; rfl
  | cons p ps ih => intro l; simp only [putAll, List.foldl_cons] at ih ⊢; rw [ih, length_put1]
theorem length_torn1 (l : List Sec) (n : Nat) (p : Nat × Sec) : (torn1 l n p).length = l.length := by simp [torn1]
theorem length_tornFrom (keep : List Int) (ps : List (Nat × Sec)) : ∀ (i : Nat) (l : List Sec), (tornFrom keep i l ps).length = l.length := by
  induction ps with
  | nil => intro i l; rfl
  | cons p ps ih => intro i l; simp only [tornFrom]; rw [ih, length_torn1]

theorem putAll_snoc (l : List Sec) (ps : List (Nat × Sec)) (p : Nat × Sec) : putAll l (ps ++ [p]) = put1 (putAll l ps) p := by simp [putAll]
theorem tornFrom_snoc (keep : List Int) (ps : List (Nat × Sec)) (p : Nat × Sec) : ∀ (i : Nat) (l : List Sec),
    tornFrom keep i l (ps ++ [p]) = torn1 (tornFrom keep i l ps) (keptOf keep (i + ps.length)) p := by
  induction ps with
  | nil => intro i l; simp [tornFrom]
  | cons q ps ih => intro i l; simp only [List.cons_append, tornFrom, List.length_cons]; rw [ih]; congr 2; omega
theorem putAll_take (l : List Sec) (ps : List (Nat × Sec)) (k : Nat) (p : Nat × Sec) (h : ps[k]? = some p) : putAll l (ps.take (k + 1)) = put1 (putAll l (ps.take k)) p := by
  rw [List.take_add_one, h]; exact putAll_snoc _ _ _
theorem tornFrom_take (keep : List Int) (l : List Sec) (ps : List (Nat × Sec)) (k : Nat) (p : Nat × Sec) (h : ps[k]? = some p) :
    tornFrom keep 0 l (ps.take (k + 1)) = torn1 (tornFrom keep 0 l (ps.take k)) (keptOf keep k) p := by
  rw [List.take_add_one, h]
  show tornFrom keep 0 l (ps.take k ++ [p]) = _
  rw [tornFrom_snoc]
  have hk : k < ps.length := by
    rcases Nat.lt_or_ge k ps.length with h1 | h1
    · exact h1
    · rw [List.getElem?_eq_none h1] at h; cases h
  rw [List.length_take, Nat.min_eq_left (by omega), Nat.zero_add]

/-- What is true of every disk: sectors have 64 bytes, and as many are durable as there are; a write is to a sector that is there. -/
structure Ok (d : D) : Prop where
  many : 16 ≤ d.now.length ∧ d.now.length ≤ 65536
  same : d.dur.length = d.now.length
  dur64 : ∀ s ∈ d.dur, s.length = 64
  now64 : ∀ s ∈ d.now, s.length = 64
  wr64 : ∀ p ∈ d.wr, p.1 < d.now.length ∧ p.2.length = 64
  left : d.left ≤ 9223372036854775807
  now : d.now = putAll d.dur d.wr

theorem put1_64 {l : List Sec} {p : Nat × Sec} (hl : ∀ s ∈ l, s.length = 64) (hp : p.2.length = 64) : ∀ s ∈ put1 l p, s.length = 64 := by
  intro s hs
  rcases List.mem_or_eq_of_mem_set hs with h | h
  · exact hl s h
  · rw [h]; exact hp
theorem putAll_64 (ps : List (Nat × Sec)) : ∀ l : List Sec, (∀ s ∈ l, s.length = 64) → (∀ p ∈ ps, p.2.length = 64) → ∀ s ∈ putAll l ps, s.length = 64 := by
  induction ps with
  | nil => intro l hl _; exact hl
  | cons p ps ih =>
    intro l hl hp
    simp only [putAll, List.foldl_cons] at ih ⊢
    exact ih _ (put1_64 hl (hp p (by simp))) (fun q hq => hp q (by simp [hq]))
theorem getD_64 {l : List Sec} (hl : ∀ s ∈ l, s.length = 64) (i : Nat) : (l.getD i zsec).length = 64 := by
  rw [List.getD_eq_getElem?_getD]
  rcases h : l[i]? with _ | s
  · exact length_zsec
  · exact hl s (List.mem_of_getElem? h)
theorem keptOf_le (keep : List Int) (i : Nat) : keptOf keep i ≤ 64 := by unfold keptOf; omega
theorem torn1_64 {l : List Sec} {p : Nat × Sec} {n : Nat} (hn : n ≤ 64) (hl : ∀ s ∈ l, s.length = 64) (hp : p.2.length = 64) : ∀ s ∈ torn1 l n p, s.length = 64 := by
  intro s hs
  rcases List.mem_or_eq_of_mem_set hs with h | h
  · exact hl s h
  · rw [h, List.length_append, List.length_take, List.length_drop, getD_64 hl, hp]; omega
theorem tornFrom_64 (keep : List Int) (ps : List (Nat × Sec)) : ∀ (i : Nat) (l : List Sec), (∀ s ∈ l, s.length = 64) → (∀ p ∈ ps, p.2.length = 64) → ∀ s ∈ tornFrom keep i l ps, s.length = 64 := by
  induction ps with
  | nil => intro i l hl _; exact hl
  | cons p ps ih =>
    intro i l hl hp
    simp only [tornFrom]
    exact ih _ _ (torn1_64 (keptOf_le _ _) hl (hp p (by simp))) (fun q hq => hp q (by simp [hq]))

/-- A new disk. -/
def new (n : Nat) : D := ⟨List.replicate n zsec, List.replicate n zsec, [], false, false, 0⟩
theorem new_ok (n : Nat) (h : 16 ≤ n) (h' : n ≤ 65536) : Ok (new n) := by
  refine ⟨by simp [new]; omega, by simp [new], ?_, ?_, by simp [new], by simp [new], rfl⟩
  · intro s hs; rw [(List.mem_replicate.1 hs).2]; exact length_zsec
  · intro s hs; rw [(List.mem_replicate.1 hs).2]; exact length_zsec

/-- A call is counted; false: the power fails at it. -/
def spends (d : D) : Bool := !d.armed || d.left != 0
def spent (d : D) : D := if !d.armed then d else if d.left = 0 then { d with down := true } else { d with left := d.left - 1 }
theorem spent_ok {d : D} (h : Ok d) : Ok (spent d) := by
  unfold spent
  split
  · exact h
  · split
    · exact ⟨h.many, h.same, h.dur64, h.now64, h.wr64, h.left, h.now⟩
    · exact ⟨h.many, h.same, h.dur64, h.now64, h.wr64, by have := h.left; simp only; omega, h.now⟩

/-- The error of Write. -/
def writeErr (d : D) (at_ : Int) (n : Nat) : Int :=
  if d.down then 70 else if at_ < 0 ∨ (d.now.length : Int) ≤ at_ then 1 else if 64 < n then 2 else if spends d then 0 else 70
def wrote (d : D) (at_ : Nat) (x : Sec) : D := { d with now := d.now.set at_ x, wr := d.wr ++ [(at_, x)] }
def write (d : D) (at_ : Int) (b : List UInt8) : D :=
  if d.down then d else if at_ < 0 ∨ (d.now.length : Int) ≤ at_ then d else if 64 < b.length then d else if spends d then wrote (spent d) at_.toNat (pad b) else spent d
theorem wrote_ok {d : D} (h : Ok d) {at_ : Nat} {x : Sec} (hat : at_ < d.now.length) (hx : x.length = 64) : Ok (wrote d at_ x) := by
  refine ⟨by simpa [wrote] using h.many, by simpa [wrote] using h.same, h.dur64, put1_64 (p := (at_, x)) h.now64 hx, ?_, h.left, ?_⟩
  · intro p hp
    simp only [wrote, List.mem_append, List.mem_singleton, List.length_set] at hp ⊢
    rcases hp with hp | rfl
    · exact h.wr64 p hp
    · exact ⟨hat, hx⟩
  · show d.now.set at_ x = putAll d.dur (d.wr ++ [(at_, x)])
    rw [putAll_snoc, ← h.now]; rfl
theorem spent_now (d : D) : (spent d).now = d.now := by
  unfold spent
  split
  · rfl
  · split <;> rfl
theorem spent_dur (d : D) : (spent d).dur = d.dur := by
  unfold spent
  split
  · rfl
  · split <;> rfl
theorem spent_wr (d : D) : (spent d).wr = d.wr := by
  unfold spent
  split
  · rfl
  · split <;> rfl
theorem spent_armed (d : D) : (spent d).armed = d.armed := by
  unfold spent
  split
  · rfl
  · split <;> rfl
theorem spent_down (d : D) (h : spends d = true) : (spent d).down = d.down := by
  unfold spent; unfold spends at h
  split
  · rfl
  · split
    · simp_all
    · rfl
theorem spent_down' (d : D) (h : spends d = false) : (spent d).down = true := by
  unfold spent; unfold spends at h
  split
  · simp_all
  · split
    · rfl
    · simp_all
theorem write_ok {d : D} (h : Ok d) (at_ : Int) (b : List UInt8) : Ok (write d at_ b) := by
  unfold write
  split
  · exact h
  · split
    · exact h
    · split
      · exact h
      · split
        · exact wrote_ok (spent_ok h) (by rw [spent_now]; omega) (length_pad _ (by omega))
        · exact spent_ok h

def flushErr (d : D) : Int := if d.down then 70 else if spends d then 0 else 70
def flushed (d : D) : D := { d with dur := putAll d.dur d.wr, wr := [] }
def flush (d : D) : D := if d.down then d else if spends d then flushed (spent d) else spent d
theorem flushed_ok {d : D} (h : Ok d) : Ok (flushed d) :=
  ⟨h.many, by show (putAll d.dur d.wr).length = _; rw [length_putAll]; exact h.same, putAll_64 _ _ h.dur64 (fun p hp => (h.wr64 p hp).2), h.now64, by simp [flushed], h.left, h.now⟩
theorem flush_ok {d : D} (h : Ok d) : Ok (flush d) := by
  unfold flush
  split
  · exact h
  · split
    · exact flushed_ok (spent_ok h)
    · exact spent_ok h

def stopErr (d : D) (calls : Int) : Int := if d.down then 70 else if calls < 0 then 1 else 0
def stop (d : D) (calls : Int) : D := if d.down then d else if calls < 0 then d else { d with armed := true, left := calls.toNat }
theorem stop_ok {d : D} (h : Ok d) (calls : Int) (hc : calls ≤ 9223372036854775807) : Ok (stop d calls) := by
  unfold stop
  split
  · exact h
  · split
    · exact h
    · exact ⟨h.many, h.same, h.dur64, h.now64, h.wr64, by simp only; omega, h.now⟩

def crash (d : D) (keep : List Int) : D :=
  { d with dur := tornFrom keep 0 d.dur d.wr, now := tornFrom keep 0 d.dur d.wr, wr := [], down := false, armed := false }
theorem crash_ok {d : D} (h : Ok d) (keep : List Int) : Ok (crash d keep) := by
  have h64 := tornFrom_64 keep d.wr 0 d.dur h.dur64 (fun p hp => (h.wr64 p hp).2)
  refine ⟨?_, rfl, h64, h64, by simp [crash], h.left, rfl⟩
  show 16 ≤ (tornFrom keep 0 d.dur d.wr).length ∧ _
  simp only [crash, length_tornFrom, h.same]
  exact h.many

def readErr (d : D) (at_ : Int) : Int := if d.down then 70 else if at_ < 0 ∨ (d.now.length : Int) ≤ at_ then 1 else 0

end Dk
end Go.Proofs.Ytdnjelggdjimhaa
