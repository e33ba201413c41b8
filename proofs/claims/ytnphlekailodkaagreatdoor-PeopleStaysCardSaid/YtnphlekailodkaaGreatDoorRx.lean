/-
  A written line is read back, in plain Lean; the reference reads it alike.
-/
import Derived.Test.YtnphlekailodkaaGreatDoorRd0
namespace Go.Proofs.YtnphlekailodkaaGreatDoor
open Go.RowKit
namespace Pe

theorem dig_small {u : Nat} (h : u < 10) : (UInt8.ofNat (48 + u)).toNat = 48 + u := by
  rw [UInt8.toNat_ofNat']; omega
theorem dig_mem : ∀ (u : Nat) (c : UInt8), c ∈ Lib.decDigits u → 48 ≤ c.toNat ∧ c.toNat ≤ 57 := by
  intro u
  induction u using Nat.strongRecOn with
  | _ u ih =>
    intro c hc
    rw [Lib.decDigits] at hc
    split at hc
    · rename_i h
      rw [List.mem_singleton.1 hc, dig_small h]; omega
    · rename_i h
      rcases List.mem_append.1 hc with hc | hc
      · exact ih (u / 10) (by omega) c hc
      · rw [List.mem_singleton.1 hc, dig_small (by omega)]; omega
theorem dig_ne (u : Nat) : Lib.decDigits u ≠ [] := by
  rw [Lib.decDigits]
  split <;> simp
theorem dig_len : ∀ (k u : Nat), u < 10 ^ (k + 1) → (Lib.decDigits u).length ≤ k + 1
  | 0, u, h => by rw [Lib.decDigits, dif_pos (by simpa using h)]; simp
  | k + 1, u, h => by
    rw [Lib.decDigits]
    split
    · simp
    · have := dig_len k (u / 10) (by rw [Nat.pow_succ] at h; omega)
      simp only [List.length_append, List.length_cons, List.length_nil]
      omega
theorem parse_snoc (c : UInt8) : ∀ (l : List UInt8) (acc u : Nat), Lib.parseUint10 acc l = .ok u → Lib.parseUint10 acc (l ++ [c]) = Lib.parseUint10 u [c]
  | [], acc, u, h => by simp only [Lib.parseUint10] at h; injection h with h; subst h; rfl
  | d :: r, acc, u, h => by
    rw [List.cons_append]
    unfold Lib.parseUint10 at h ⊢
    split at h
    · rename_i h1
      rw [if_pos h1]
      split at h
      · cases h
      · rename_i h2
        rw [if_neg h2]
        split at h
        · cases h
        · rename_i h3
          rw [if_neg h3]
          rw [parse_snoc c r _ _ h]
          simp only [Lib.parseUint10]
    · cases h
theorem parse_dig : ∀ u : Nat, u ≤ 1000000000 → Lib.parseUint10 0 (Lib.decDigits u) = .ok u := by
  intro u
  induction u using Nat.strongRecOn with
  | _ u ih =>
    intro hu
    rw [Lib.decDigits]
    split
    · rename_i h
      have h1 := dig_small h
      simp only [Lib.parseUint10, h1]
      rw [if_pos (by omega), if_neg (by omega), if_neg (by omega)]
      congr 1; omega
    · rename_i h
      rw [parse_snoc _ _ _ _ (ih (u / 10) (by omega) (by omega))]
      have h1 := dig_small (u := u % 10) (by omega)
      simp only [Lib.parseUint10, h1]
      rw [if_pos (by omega), if_neg (by omega), if_neg (by omega)]
      congr 1; omega
theorem dec_nat {n : Int} (h : 0 ≤ n) : dec n = Lib.decDigits n.toNat := by
  unfold dec Lib.itoa
  rw [if_neg (by omega)]
theorem num_dec {n : Int} (h0 : 0 ≤ n) (h1 : n ≤ 1000000) : num? (dec n) = some n := by
  rw [dec_nat h0]
  obtain ⟨u, rfl⟩ := Int.eq_ofNat_of_zero_le h0
  simp only [Int.toNat_natCast]
  have hp := parse_dig u (by omega)
  have hm := dig_mem u
  cases hd : Lib.decDigits u with
  | nil => exact absurd hd (dig_ne u)
  | cons c r =>
    have hc := hm c (by rw [hd]; simp)
    rw [hd] at hp
    have e : Lib.atoiAll (c :: r) = .ok (u : Int) := by
      simp only [Lib.atoiAll]
      rw [if_neg (by omega)]
      simp only [Lib.parseMag]
      rw [if_neg (by simp), hp]
      simp only
      rw [if_neg (by omega), if_neg (by omega), if_neg (by omega)]
    unfold num?
    rw [e]
theorem dec_blank {n : Int} (h0 : 0 ≤ n) : (32 : UInt8) ∉ dec n := by
  rw [dec_nat h0]
  intro hc
  have := dig_mem _ _ hc
  simp at this
/-- What the digits of a text write, behind those read already. -/
def rdig : Int → List UInt8 → Int
  | n, [] => n
  | n, c :: r => if c.toNat < 48 ∨ 57 < c.toNat then -1 else rdig (n * 10 + ((c.toNat : Int) - 48)) r
def rnum (l : List UInt8) : Int := if l.length < 1 ∨ 7 < l.length then -1 else rdig 0 l
theorem rdig_snoc (c : UInt8) : ∀ (l : List UInt8) (n : Int), (∀ d ∈ l, 48 ≤ d.toNat ∧ d.toNat ≤ 57) → rdig n (l ++ [c]) = rdig (rdig n l) [c]
  | [], n, _ => rfl
  | d :: r, n, h => by
    have hd := h d (by simp)
    have e1 : ∀ t, rdig n (d :: t) = rdig (n * 10 + ((d.toNat : Int) - 48)) t := fun t => by rw [rdig, if_neg (by omega)]
    rw [List.cons_append, e1, e1]
    exact rdig_snoc c r (n * 10 + ((d.toNat : Int) - 48)) (fun e he => h e (by simp [he]))
theorem rdig_dig : ∀ u : Nat, rdig 0 (Lib.decDigits u) = (u : Int) := by
  intro u
  induction u using Nat.strongRecOn with
  | _ u ih =>
    rw [Lib.decDigits]
    split
    · rename_i h
      have h1 := dig_small h
      simp only [rdig, h1]
      rw [if_neg (by omega)]
      omega
    · rename_i h
      rw [rdig_snoc _ _ _ (dig_mem _), ih (u / 10) (by omega)]
      have h1 := dig_small (u := u % 10) (by omega)
      simp only [rdig, h1]
      rw [if_neg (by omega)]
      omega
theorem rnum_dec {n : Int} (h0 : 0 ≤ n) (h1 : n ≤ 1000000) : rnum (dec n) = n := by
  rw [dec_nat h0]
  obtain ⟨u, rfl⟩ := Int.eq_ofNat_of_zero_le h0
  simp only [Int.toNat_natCast]
  have hl := dig_len 6 u (by omega)
  have hp : 0 < (Lib.decDigits u).length := List.length_pos_iff.2 (dig_ne u)
  unfold rnum
  rw [if_neg (by omega), rdig_dig]

def setAll : List Nat → List Int → Ent → Ent
  | o :: os, v :: vs, x => setAll os vs (x.set o v)
  | _, _, x => x
/-- The numbers that the reference reads. -/
def rnums : Nat → List UInt8 → List Int × List UInt8
  | 0, l => ([], l)
  | k + 1, l => (rnum (cut1 l).1 :: (rnums k (cut1 l).2).1, (rnums k (cut1 l).2).2)
def rcounts (k : Nat) : Nat := if k = 1 then 3 else if k = 5 then 7 else if k = 7 then 5 else if k = 3 ∨ k = 6 then 2 else 4
def rparse (l : List UInt8) : Ent :=
  let K := kindOf (cut1 (cut1 l).2).1
  let r := rnums (rcounts K) (cut1 (cut1 l).2).2
  let x := setAll (offs K) r.1 { zero with day := rnum (cut1 l).1, kind := K }
  if K = 1 then { x with name := r.2 } else x
def readR (l : List UInt8) : Ent × Int := if formed (rparse l) = 0 ∧ line (rparse l) = l then (rparse l, 0) else (zero, 4)

/-- A text that is empty or goes on with a blank. -/
def Open (t : List UInt8) : Prop := t = [] ∨ ∃ r, t = 32 :: r
theorem cut1_open {a t : List UInt8} (ha : (32 : UInt8) ∉ a) (ht : Open t) : cut1 (a ++ t) = (a, t.drop 1) := by
  rcases ht with rfl | ⟨r, rfl⟩
  · rw [List.append_nil, cut1_none ha]; rfl
  · rw [cut1_some r ha]; rfl
theorem open_tail (x : Ent) : Open (tail x) := by
  unfold tail
  split
  · exact .inr ⟨_, rfl⟩
  · exact .inl rfl
theorem nums_cons (x : Ent) (o : Nat) (os : List Nat) : nums x (o :: os) = 32 :: (dec (x.get o) ++ nums x os) := by simp [nums]
theorem open_nums (x : Ent) (os : List Nat) {t : List UInt8} (ht : Open t) : Open (nums x os ++ t) := by
  cases os with
  | nil => exact ht
  | cons o os => rw [nums_cons]; exact .inr ⟨_, rfl⟩
theorem readNums_line (x : Ent) (hf : Fine x) {t : List UInt8} (ht : Open t) : ∀ (os : List Nat) (y : Ent), readNums os y ((nums x os ++ t).drop 1) = some (setAll os (os.map x.get) y, t.drop 1)
  | [], y => by simp only [nums, List.flatMap_nil, List.nil_append, readNums, setAll]
  | o :: os, y => by
    rw [nums_cons]
    simp only [List.cons_append, List.drop_succ_cons, List.drop_zero, List.append_assoc, readNums]
    rw [cut1_open (dec_blank (hf.low o)) (open_nums x os ht), num_dec (hf.low o) (hf.high o)]
    simp only [List.map_cons, setAll]
    exact readNums_line x hf ht os _
theorem rnums_line (x : Ent) (hf : Fine x) {t : List UInt8} (ht : Open t) : ∀ (os : List Nat), rnums os.length ((nums x os ++ t).drop 1) = (os.map x.get, t.drop 1)
  | [] => by simp only [nums, List.flatMap_nil, List.nil_append, List.length_nil, rnums, List.map_nil]
  | o :: os => by
    rw [nums_cons]
    simp only [List.cons_append, List.drop_succ_cons, List.drop_zero, List.append_assoc, List.length_cons, rnums]
    rw [cut1_open (dec_blank (hf.low o)) (open_nums x os ht), rnum_dec (hf.low o) (hf.high o), rnums_line x hf ht os]
    rfl
theorem line_cuts (x : Ent) (hf : Fine x) : (cut1 (line x)).1 = dec x.day ∧ (cut1 (cut1 (line x)).2).1 = word x.kind ∧ (cut1 (cut1 (line x)).2).2 = (nums x (offs x.kind) ++ tail x).drop 1 := by
  have h1 : line x = dec x.day ++ 32 :: (word x.kind ++ (nums x (offs x.kind) ++ tail x)) := by unfold line head; simp
  have h2 : cut1 (line x) = (dec x.day, word x.kind ++ (nums x (offs x.kind) ++ tail x)) := by rw [h1, cut1_some (a := dec x.day) _ (dec_blank (hf.low 0))]
  have hw : (32 : UInt8) ∉ word x.kind := by
    obtain h | h | h | h | h | h | h : x.kind = 1 ∨ x.kind = 2 ∨ x.kind = 3 ∨ x.kind = 4 ∨ x.kind = 5 ∨ x.kind = 6 ∨ x.kind = 7 := by have := hf.kind1; have := hf.kind7; omega
    all_goals rw [h]; decide
  have h3 := cut1_open hw (open_nums x (offs x.kind) (open_tail x))
  rw [h2]
  refine ⟨rfl, ?_, ?_⟩
  · rw [h3]
  · rw [h3]
theorem setAll_line (x : Ent) (hf : Fine x) : (if x.kind = 1 then { setAll (offs x.kind) ((offs x.kind).map x.get) { zero with day := x.day, kind := x.kind } with name := (tail x).drop 1 } else setAll (offs x.kind) ((offs x.kind).map x.get) { zero with day := x.day, kind := x.kind }) = x := by
  have hs := hf.same
  have h1 := hf.kind1
  have h7 := hf.kind7
  clear hf
  obtain ⟨day, kind, since, til, person, place, other, at_, order, name⟩ := x
  dsimp only at *
  obtain rfl | rfl | rfl | rfl | rfl | rfl | rfl : kind = 1 ∨ kind = 2 ∨ kind = 3 ∨ kind = 4 ∨ kind = 5 ∨ kind = 6 ∨ kind = 7 := by omega
  all_goals exact hs
theorem parse_line {x : Ent} (h : formed x = 0) : parse (line x) = some x := by
  have hf := fine h
  obtain ⟨h1, h2, h3⟩ := line_cuts x hf
  have hk : kindOf (word x.kind) = x.kind := (kindOf_iff hf.kind1 hf.kind7).2 rfl
  unfold parse
  rw [h1, h2, h3, num_dec (n := x.day) (hf.low 0) (hf.high 0), hk]
  simp only
  rw [readNums_line x hf (open_tail x)]
  simp only
  exact congrArg some (setAll_line x hf)
theorem offs_len {k : Nat} (h1 : 1 ≤ k) (h7 : k ≤ 7) : rcounts k = (offs k).length := by
  obtain rfl | rfl | rfl | rfl | rfl | rfl | rfl : k = 1 ∨ k = 2 ∨ k = 3 ∨ k = 4 ∨ k = 5 ∨ k = 6 ∨ k = 7 := by omega
  all_goals rfl
theorem rparse_line {x : Ent} (h : formed x = 0) : rparse (line x) = x := by
  have hf := fine h
  obtain ⟨h1, h2, h3⟩ := line_cuts x hf
  have hk : kindOf (word x.kind) = x.kind := (kindOf_iff hf.kind1 hf.kind7).2 rfl
  have h4 : rnums (rcounts x.kind) ((nums x (offs x.kind) ++ tail x).drop 1) = ((offs x.kind).map x.get, (tail x).drop 1) := by rw [offs_len hf.kind1 hf.kind7, rnums_line x hf (open_tail x)]
  unfold rparse
  rw [h1, h2, h3, rnum_dec (n := x.day) (hf.low 0) (hf.high 0), hk]
  simp only
  rw [h4]
  exact setAll_line x hf
theorem readP_line {x : Ent} (h : formed x = 0) : readP (line x) = (x, 0) := by
  unfold readP
  rw [parse_line h]
  simp only
  rw [if_pos ⟨h, trivial⟩]
theorem readP_ok {l : List UInt8} {z : Ent} {g : Int} (h : readP l = (z, g)) : (g = 0 ∧ formed z = 0 ∧ line z = l) ∨ (g = 4 ∧ z = zero) := by
  unfold readP at h
  split at h
  · injection h with h1 h2; exact .inr ⟨h2.symm, h1.symm⟩
  · split at h
    · rename_i x _ hx
      injection h with h1 h2
      subst h1
      exact .inl ⟨h2.symm, hx⟩
    · injection h with h1 h2; exact .inr ⟨h2.symm, h1.symm⟩
theorem readR_eq (l : List UInt8) : readR l = readP l := by
  unfold readR
  split
  · rename_i h
    have := readP_line h.1
    rw [h.2] at this
    exact this.symm
  · rename_i h
    rcases readP_ok (l := l) (z := (readP l).1) (g := (readP l).2) rfl with ⟨h1, h2, h3⟩ | ⟨h1, h2⟩
    · exfalso
      apply h
      have := rparse_line h2
      rw [h3] at this
      rw [this]
      exact ⟨h2, h3⟩
    · exact Prod.ext h2.symm h1.symm
end Pe
end Go.Proofs.YtnphlekailodkaaGreatDoor
