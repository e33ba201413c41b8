/-
  The plain law of the journal: records and their sectors. No program in sight.
-/
import Derived.Test.YtdnjelggdjimhaaJw5
namespace Go.Proofs.Ytdnjelggdjimhaa
namespace Dk

theorem enc_0 (first : Bool) (r : List UInt8) : (enc first r).getD 0 0 = if first then 1 else 2 := by unfold enc; cases first <;> rfl
theorem enc_63 (first : Bool) (r : List UInt8) : (enc first r).getD 63 0 = 1 := by
  unfold enc
  have : ∀ (a b c d : UInt8) (X : List UInt8), X.length = 59 → (a :: b :: c :: d :: (X ++ [1])).getD 63 0 = (1 : UInt8) := fun a b c d X h => by
    rw [List.getD_eq_getElem?_getD]
    simp only [List.getElem?_cons_succ]
    rw [List.getElem?_append_right (by omega), h]
    rfl
  exact this _ _ _ _ _ (by simp; omega)
theorem lft_enc (first : Bool) (r : List UInt8) (h : r.length < 16777216) : lft (enc first r) = r.length := by
  unfold lft enc
  simp only [List.getD_cons_succ, List.getD_cons_zero]
  have hn : ∀ n : Nat, (UInt8.ofNat (n % 256)).toNat = n % 256 := fun n => by rw [UInt8.toNat_ofNat_of_lt' (by simp [UInt8.size]; omega)]
  rw [hn, hn, hn]
  omega
theorem dataOf_enc (first : Bool) (r : List UInt8) (h : r.length < 16777216) : dataOf (enc first r) = r.take 59 := by
  unfold dataOf
  rw [lft_enc first r h]
  unfold enc
  simp only [List.drop_succ_cons, List.drop_zero]
  rw [List.append_assoc, List.take_append_of_le_length (by simp; omega), List.take_take]
  by_cases h' : r.length ≤ 59
  · rw [List.take_of_length_le (l := r) (i := 59) (by omega), List.take_of_length_le (by omega)]
  · rw [show min (min r.length 59) 59 = 59 from by omega]

/-- A sector that a disk holds, at its kind. -/
def ldL (L : List Sec) (p kind : Nat) : Sec × Bool :=
  if p < L.length then (L.getD p zsec, (L.getD p zsec).getD 0 0 == UInt8.ofNat kind && (L.getD p zsec).getD 63 0 == 1) else (zsec, false)
theorem loadOf_L {d : D} (hd : d.down = false) (p kind : Nat) : loadOf d (p : Int) kind = ldL d.now p kind := by
  by_cases h : p < d.now.length
  · have hz : readErr d (p : Int) = 0 := by unfold readErr; rw [hd, if_neg (by decide), if_neg (by omega)]
    unfold loadOf ldL; rw [hz, if_neg (by decide), if_pos h, Int.toNat_natCast]
  · have hz : readErr d (p : Int) = 1 := by unfold readErr; rw [hd, if_neg (by decide), if_pos (by omega)]
    unfold loadOf ldL; rw [hz, if_pos (by decide), if_neg h]
def recGoL (L : List Sec) (size : Nat) : Nat → Nat → Sec × Bool → List UInt8 → Option (List UInt8 × Nat)
  | 0, _, _, _ => none
  | f + 1, next, x, b =>
    if x.2 = true ∧ lft x.1 + b.length = size then
      if (b ++ dataOf x.1).length = size then some (b ++ dataOf x.1, next) else recGoL L size f (next + 1) (ldL L next 2) (b ++ dataOf x.1)
    else none
theorem recGo_L {d : D} (hd : d.down = false) (size : Nat) : ∀ (f next : Nat) (x : Sec × Bool) (b : List UInt8), recGo d size f next x b = recGoL d.now size f next x b
  | 0, _, _, _ => rfl
  | f + 1, next, x, b => by unfold recGo recGoL; rw [loadOf_L hd, recGo_L hd size f]
def recL (L : List Sec) (p : Nat) : Option (List UInt8 × Nat) := recGoL L (lft (ldL L p 1).1) (lft (ldL L p 1).1 + 1) (p + 1) (ldL L p 1) []
theorem rec_L {d : D} (hd : d.down = false) (p : Nat) : rec d p = recL d.now p := by unfold rec recL; rw [loadOf_L hd, recGo_L hd]
def recsL (L : List Sec) : Nat → Nat → List (List UInt8) × Nat
  | 0, p => ([], p)
  | f + 1, p => match recL L p with
    | none => ([], p)
    | some (s, n) => (s :: (recsL L f n).1, (recsL L f n).2)
theorem recs_L {d : D} (hd : d.down = false) : ∀ (f p : Nat), recs d f p = recsL d.now f p
  | 0, _ => rfl
  | f + 1, p => by
    unfold recs recsL
    rw [rec_L hd]
    cases recL d.now p with
    | none => rfl
    | some r => simp only [recs_L hd f]

/-- The sectors of a record. -/
def encR (s : List UInt8) : List Sec := (List.range (manyOf s.length)).map fun i => enc (i == 0) (s.drop (i * 59))
def encs (rs : List (List UInt8)) : List Sec := rs.flatMap encR
theorem length_encR (s : List UInt8) : (encR s).length = manyOf s.length := by simp [encR]
theorem manyOf_pos (n : Nat) : 0 < manyOf n := by unfold manyOf; omega
theorem encs_append (a b : List (List UInt8)) : encs (a ++ b) = encs a ++ encs b := by simp [encs]
theorem encs_one (s : List UInt8) : encs [s] = encR s := by simp [encs]
theorem encR_get (s : List UInt8) (i : Nat) (h : i < manyOf s.length) : (encR s)[i]? = some (enc (i == 0) (s.drop (i * 59))) := by simp [encR, h]
theorem length_encs (rs : List (List UInt8)) : rs.length ≤ (encs rs).length := by
  induction rs with
  | nil => simp
  | cons s r ih =>
    have : (encs (s :: r)).length = (encR s).length + (encs r).length := by simp [encs]
    have := length_encR s
    have := manyOf_pos s.length
    simp only [List.length_cons]; omega

theorem ldL_at {L : List Sec} {p : Nat} {x : Sec} (h : L[p]? = some x) (kind : Nat) : ldL L p kind = (x, x.getD 0 0 == UInt8.ofNat kind && x.getD 63 0 == 1) := by
  have hl : p < L.length := (List.getElem?_eq_some_iff.1 h).1
  unfold ldL
  rw [if_pos hl, List.getD_eq_getElem?_getD, h]
  rfl

theorem recGo_enc (s : List UInt8) (hs : s.length < 16777216) (L : List Sec) (p : Nat) (hL : ∀ i, i < manyOf s.length → L[p + i]? = some (enc (i == 0) (s.drop (i * 59)))) :
    ∀ (f i : Nat), i < manyOf s.length → manyOf s.length ≤ i + f → recGoL L s.length f (p + i + 1) (enc (i == 0) (s.drop (i * 59)), true) (s.take (i * 59)) = some (s, p + manyOf s.length)
  | 0, i, hi, hf => by omega
  | f + 1, i, hi, hf => by
    have hm : manyOf s.length = max 1 ((s.length + 58) / 59) := rfl
    have hi59 : i * 59 ≤ s.length := by omega
    have hdl : (s.drop (i * 59)).length < 16777216 := by rw [List.length_drop]; omega
    unfold recGoL
    rw [lft_enc _ _ hdl, dataOf_enc _ _ hdl, if_pos ⟨rfl, by rw [List.length_drop, List.length_take]; omega⟩]
    have hcat : s.take (i * 59) ++ (s.drop (i * 59)).take 59 = s.take ((i + 1) * 59) := by
      rw [show (i + 1) * 59 = i * 59 + 59 from by omega, List.take_add]
    rw [hcat]
    by_cases hlast : i + 1 = manyOf s.length
    · have hle : s.length ≤ (i + 1) * 59 := by omega
      rw [if_pos (by rw [List.length_take]; omega), List.take_of_length_le hle, show p + i + 1 = p + manyOf s.length from by omega]
    · have hlt : (i + 1) * 59 < s.length := by omega
      rw [if_neg (by rw [List.length_take]; omega)]
      have hx := hL (i + 1) (by omega)
      rw [show p + i + 1 = p + (i + 1) from by omega, ldL_at hx 2]
      have : (enc (i + 1 == 0) (s.drop ((i + 1) * 59))).getD 0 0 == UInt8.ofNat 2 && (enc (i + 1 == 0) (s.drop ((i + 1) * 59))).getD 63 0 == 1 := by
        rw [enc_0, enc_63]; rfl
      rw [this]
      exact recGo_enc s hs L p hL f (i + 1) (by omega) (by omega)

theorem rec_enc (s : List UInt8) (hs : s.length < 16777216) (A T : List Sec) : recL (A ++ (encR s ++ T)) A.length = some (s, A.length + manyOf s.length) := by
  have hL : ∀ i, i < manyOf s.length → (A ++ (encR s ++ T))[A.length + i]? = some (enc (i == 0) (s.drop (i * 59))) := fun i hi => by
    rw [List.getElem?_append_right (by omega), Nat.add_sub_cancel_left, List.getElem?_append_left (by rw [length_encR]; exact hi), encR_get s i hi]
  have h0 := ldL_at (hL 0 (manyOf_pos _)) 1
  have hv : ((enc (0 == 0) (s.drop (0 * 59))).getD 0 0 == UInt8.ofNat 1 && (enc (0 == 0) (s.drop (0 * 59))).getD 63 0 == 1) = true := by rw [enc_0, enc_63]; rfl
  rw [hv] at h0
  unfold recL
  rw [show A.length + 0 = A.length from rfl] at h0
  rw [h0]
  have hsz : lft (enc (0 == 0) (s.drop (0 * 59))) = s.length := by rw [lft_enc _ _ (by simpa using hs)]; simp
  rw [hsz]
  have := recGo_enc s hs _ _ hL (s.length + 1) 0 (manyOf_pos _) (by unfold manyOf; omega)
  simpa using this

theorem recs_encs (T : List Sec) : ∀ (rs : List (List UInt8)) (A : List Sec) (f : Nat), (∀ s ∈ rs, s.length < 16777216) → rs.length ≤ f →
    recsL (A ++ (encs rs ++ T)) f A.length = (rs ++ (recsL (A ++ (encs rs ++ T)) (f - rs.length) (A ++ encs rs).length).1, (recsL (A ++ (encs rs ++ T)) (f - rs.length) (A ++ encs rs).length).2)
  | [], A, f, _, _ => by simp [encs]
  | s :: rs, A, 0, _, hf => by simp at hf
  | s :: rs, A, f + 1, h, hf => by
    have e : A ++ (encs (s :: rs) ++ T) = A ++ (encR s ++ (encs rs ++ T)) := by simp [encs]
    have e2 : A ++ (encs (s :: rs) ++ T) = (A ++ encR s) ++ (encs rs ++ T) := by simp [encs]
    have hr := rec_enc s (h s (by simp)) A (encs rs ++ T)
    have ih := recs_encs T rs (A ++ encR s) f (fun x hx => h x (by simp [hx])) (by simp at hf; omega)
    rw [← e2] at ih
    rw [← e] at hr
    rw [List.length_append, length_encR] at ih
    conv => lhs; unfold recsL
    rw [hr]
    simp only
    rw [ih]
    have e3 : (A ++ encR s ++ encs rs).length = (A ++ encs (s :: rs)).length := by simp [encs]
    rw [e3, show f + 1 - (s :: rs).length = f - rs.length from by simp]
    rfl

end Dk
end Go.Proofs.Ytdnjelggdjimhaa
