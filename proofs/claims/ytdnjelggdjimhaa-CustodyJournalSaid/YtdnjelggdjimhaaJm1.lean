/-
  The reference journal in memory; its cost, copies of lists, Opened, Append.
-/
import Derived.Test.YtdnjelggdjimhaaJl4
import Derived.Deep.DeepCutAuto
namespace Go.Proofs.Ytdnjelggdjimhaa
open Go.RowKit

/-- A reference journal in memory. -/
structure MJat (w : World) (base m : Nat) (vr : Value) (rs : List (List UInt8)) (safe : Nat) (failed : Bool) (P : ByteArray) : Prop where
  blk : Blk w m 61 #[vr, .int .i64 (safe : Int), .bool failed, .string P]
  low : base ≤ m
  own : w.ownsRow base 9 1 vr rs.length (svs rs)
theorem MJat.keep {w w' : World} {base m : Nat} {vr : Value} {rs : List (List UInt8)} {safe : Nat} {failed : Bool} {P : ByteArray} {fp : Nat → Prop} (h : MJat w base m vr rs safe failed P) (hc : Chg fp w w') (h1 : ¬ fp m) (h2 : ∀ k, vr.ownBlock = some k → ¬ fp k) : MJat w' base m vr rs safe failed P :=
  ⟨hc.blk h.blk h1, h.low, hc.own h.own h2⟩
/-- What a step of a reference journal may change. -/
def FpM (w : World) (base m : Nat) (rs : List (List UInt8)) : Nat → Prop := fun i => i = m ∨ ∃ vr safe failed P, MJat w base m vr rs safe failed P ∧ vr.ownBlock = some i
theorem FpM.low {w : World} {base m : Nat} {rs : List (List UInt8)} {vr : Value} {safe : Nat} {failed : Bool} {P : ByteArray} (h : MJat w base m vr rs safe failed P) : ∀ i, FpM w base m rs i → base ≤ i := by
  rintro i (rfl | ⟨vr', _, _, _, h', hi⟩)
  · exact h.low
  · exact (h'.own.lt i hi).1

def costJ (rs : List (List UInt8)) : Nat := (rs.map fun s => 1 + s.length / 32).sum
theorem costJ_append (a b : List (List UInt8)) : costJ (a ++ b) = costJ a + costJ b := by simp [costJ]
theorem costJ_one (s : List UInt8) : costJ [s] = 1 + s.length / 32 := by simp [costJ]
theorem costJ_take (l : List (List UInt8)) (i : Nat) : costJ (l.take i) ≤ costJ l := by
  conv => rhs; rw [← List.take_append_drop i l, costJ_append]
  omega
theorem encs_costJ (l : List (List UInt8)) : (Dk.encs l).length ≤ 2 * costJ l := by
  induction l with
  | nil => simp [Dk.encs, costJ]
  | cons s l ih =>
    have e : s :: l = [s] ++ l := rfl
    rw [e, Dk.encs_append, costJ_append, Dk.encs_one, List.length_append, Dk.length_encR, costJ_one]
    have : Dk.manyOf s.length = max 1 ((s.length + 58) / 59) := rfl
    omega
theorem costJ_encs (l : List (List UInt8)) : costJ l ≤ 4 * (Dk.encs l).length := by
  induction l with
  | nil => simp [Dk.encs, costJ]
  | cons s l ih =>
    have e : s :: l = [s] ++ l := rfl
    rw [e, Dk.encs_append, costJ_append, Dk.encs_one, List.length_append, Dk.length_encR, costJ_one]
    have : Dk.manyOf s.length = max 1 ((s.length + 58) / 59) := rfl
    omega
theorem take_snoc' {l : List (List UInt8)} {i : Nat} {s : List UInt8} (h : l[i]? = some s) : l.take (i + 1) = l.take i ++ [s] := by
  rw [List.take_add_one, h]; rfl

theorem Cost_calls (n : Nat) (w : World) (hn : n ≤ 1099511627776) : Calls Try.prog 42 #[.int .i64 (n : Int)] w fun e w' => e = .returned (.int .i64 ((1 + n / 32 : Nat) : Int)) ∧ w = w' := by
  go_enter Try.func42, Try.ntmps42
  go_wp2
  go_ret
  exact ⟨by congr 2, rfl⟩

set_option maxHeartbeats 1000000 in
theorem cost_calls {w : World} {base m : Nat} {vr : Value} {rs : List (List UInt8)} {safe : Nat} {failed : Bool} {P : ByteArray} (h : MJat w base m vr rs safe failed P) (hs : ∀ s ∈ rs, s.length ≤ 60000) (hc : costJ rs ≤ 1099511627776) :
    Calls Try.prog 27 #[.pointer (some ⟨m, 0, none⟩)] w fun e w' => e = .returned (.int .i64 (costJ rs : Int)) ∧ w = w' := by
  obtain ⟨A, c, rfl, hT⟩ := own_texts h.own rfl
  have hc0 : w.cell? ⟨m, 0, none⟩ = some (.slice A rs.length c) := h.blk.cell 0
  have hmost := hT.most
  obtain ⟨n, hn⟩ : ∃ n, n = rs.length := ⟨_, rfl⟩
  rw [← hn] at hc0 hT hmost
  have HT := Lib.hid (And.intro hT (And.intro hs (And.intro hn hc)))
  clear hT h hs hn hc
  go_enter Try.func27, Try.ntmps27
  go_wp2_with fail
  go_loopg [3, 4] n (fun q s3 s4 wr => ∃ (i t : Nat), s3 = .int .i64 (t : Int) ∧ s4 = .int .i64 (i : Int) ∧ i + q = n ∧ t ≤ 1099511627776 ∧ wr = w ∧ Hid (t = costJ (rs.take i)))
  case atStart => exact ⟨0, 0, by go_num, by go_num, by omega, by omega, rfl, Lib.hid (by simp [costJ])⟩
  case round =>
    obtain ⟨i, t, rfl, rfl, hi, ht, rfl, hR⟩ := hrel
    by_cases hgo : i < n
    · have hd1 : decide ((i : Int) < (n : Int)) = true := by simp; omega
      obtain ⟨s, hs⟩ : ∃ s, rs[i]? = some s := ⟨_, List.getElem?_eq_getElem (by have := HT.out.2.2.1; omega)⟩
      obtain ⟨ad, rfl, hadl, hc1⟩ := HT.out.1.at_.resolve_left (fun e => by rw [e] at hs; cases hs)
      have hca : wr.cell? (ad.add i) = some (.string (bs s)) := hc1 i s hs
      obtain ⟨S, hS⟩ : ∃ S, S = bs s := ⟨_, rfl⟩
      have hSz : S.size = s.length := by rw [hS, bs_size]
      have hsl : s.length ≤ 60000 := HT.out.2.1 s (List.mem_of_getElem? hs)
      have hct := costJ_take rs (i + 1)
      rw [take_snoc' hs, costJ_append, costJ_one, ← hR.out] at hct
      have hcm := HT.out.2.2.2
      have htn : t + (1 + s.length / 32) ≤ 1099511627776 := by omega
      have HS := Lib.hid hs
      rw [← hS] at hca
      clear hs hS hc1 hct hcm
      obtain ⟨sl, hsl'⟩ : ∃ sl, sl = s.length := ⟨_, rfl⟩
      rw [← hsl'] at hSz hsl htn
      have HSL := Lib.hid hsl'
      clear hsl'
      go_wp2_with fail
      refine (Cost_calls sl wr (by omega)).mono ?_
      rintro e w1 ⟨rfl, rfl⟩
      obtain ⟨cc, hcc⟩ : ∃ cc : Nat, cc = 1 + sl / 32 := ⟨_, rfl⟩
      rw [← hcc] at htn ⊢
      have HCC := Lib.hid hcc
      clear hcc
      dsimp only
      go_wp2
      go_roundg (gk - 1)
      case measure => omega
      case rel =>
        refine ⟨i + 1, t + cc, by congr 1, by go_num, by omega, by omega, rfl, Lib.hid ?_⟩
        rw [take_snoc' HS.out, costJ_append, costJ_one, ← hR.out, HCC.out, HSL.out]
    · have hd1 : decide ((i : Int) < (n : Int)) = false := by simp; omega
      go_wp2
      go_ret
      refine ⟨?_, rfl⟩
      rw [hR.out, List.take_of_length_le (by have := HT.out.2.2.1; omega)]
      rfl

set_option maxHeartbeats 2000000 in
theorem Texts_calls (A : Option Addr) (n c : Nat) (l : List (List UInt8)) (w : World) (h : TextsAt w A n l) (hn : n ≤ 100000) :
    Calls Try.prog 47 #[.slice A n c] w fun e w' => ∃ B cw, e = .returned (.slice B n cw) ∧ w'.ownsRow w.heap.size 9 1 (.slice B n cw) n (svs l) ∧ Chg (fun _ => False) w w' := by
  obtain ⟨i0, hi0, hz0, hz1, hz2⟩ := info_parts Try.infoStr
  have HI0 := Lib.hid (And.intro hi0 (And.intro hz0 (And.intro hz1 hz2)))
  clear hi0 hz0 hz1 hz2
  have HT := Lib.hid h
  clear h
  go_enter Try.func47, Try.ntmps47
  go_wp2_with fail
  go_loopg [3, 4] n (fun q s3 s4 wr => ∃ (i : Nat) (B : Option Addr) (cw : Nat), s3 = .slice B i cw ∧ s4 = .int .i64 (i : Int) ∧ i + q = n ∧ Hid (wr.ownsRow w.heap.size 9 1 (.slice B i cw) i (svs (l.take i)) ∧ Chg (fun _ => False) w wr))
  case atStart => exact ⟨0, none, 0, by go_num, by go_num, by omega, Lib.hid ⟨by simpa [svs] using World.ownsRow_nil _ _ _ _, Chg.refl _ _⟩⟩
  case round =>
    obtain ⟨i, B, cw, rfl, rfl, hi, hR⟩ := hrel
    by_cases hgo : i < n
    · have hd1 : decide ((i : Int) < (n : Int)) = true := by simp; omega
      obtain ⟨s, hs⟩ : ∃ s, l[i]? = some s := ⟨_, List.getElem?_eq_getElem (by have := HT.out.len; omega)⟩
      obtain ⟨ad, rfl, hadl, hc1⟩ := HT.out.at_.resolve_left (fun e => by rw [e] at hs; cases hs)
      have hb1 : (ad.add i).block = ad.block := by unfold Addr.add; split <;> rfl
      have hca : wr.cell? (ad.add i) = some (.string (bs s)) := by rw [hR.out.2.cell (by rw [hb1]; exact hadl) (fun h => h)]; exact hc1 i s hs
      obtain ⟨S, hS⟩ : ∃ S, S = bs s := ⟨_, rfl⟩
      rw [← hS] at hca
      have hlen : (svs (l.take i)).length = i := by simp only [svs, List.length_map, List.length_take]; have := HT.out.len; omega
      have ho3 := hR.out.1
      have hO1 := ho3.alloc (.cells #[.string S] 9)
      have hn1 := World.news_of_block (cs := #[.string S]) (t := 9) (fr := (0, 0)) (heap_alloc_new wr _)
      have HO := Lib.hid (And.intro hO1 (And.intro hn1 (And.intro ho3 (show i + 1 ≤ maxLen ∧ (i + 1) * 16 ≤ 140737488355328 ∧ w.heap.size ≤ (wr.alloc (.cells #[.string S] 9)).heap.size from ⟨by simp only [maxLen]; omega, by omega, by have := hR.out.2.size; simp; omega⟩))))
      have HS := Lib.hid (And.intro hs hS)
      clear hO1 hn1 ho3 hs hS hc1 hb1 hadl hlen
      go_wp2_with (first
        | ((with_reducible refine wpList_append_lies (o := ⟨some 17, _, _, _, _, _⟩) _ rfl (.tmp 11) (.tmp 16) 44 rfl w.heap.size 9 i0 (.string ⟨#[]⟩) 1 16 Try.underlying44 HI0.out.1 HI0.out.2.1 HI0.out.2.2.1 HI0.out.2.2.2 size_strz Nat.one_pos (.slice B i cw) i (svs (l.take i)) rfl HO.out.1 ⟨wr.heap.size, 0, none⟩ 1 1 [.string S] rfl rfl HO.out.2.1 (one_str S) Nat.one_pos HO.out.2.2.2.1 HO.out.2.2.2.2.1 HO.out.2.2.2.2.2 _ rfl ?_); intro g' cap w6 hown hgrow hat6 hlt6)
        | fail)
      go_wp2
      have C6 : Chg (fun i' => (Value.slice B i cw).ownBlock = some i') wr w6 := ((Chg.refl _ wr).alloc _).trans (Chg.of_grownBy (fp := fun i' => (Value.slice B i cw).ownBlock = some i') hgrow (fun k hk => .inl hk)) (fun i hi => .inl hi)
      go_roundg (gk - 1)
      case measure => omega
      case rel =>
        refine ⟨i + 1, some ⟨g', 0, none⟩, cap, by simp, by go_num, by omega, Lib.hid ⟨?_, ?_⟩⟩
        · rw [take_snoc' HS.out.1, svs_snoc, show sv s = .string S from by rw [HS.out.2]]
          exact hown
        · exact ((hR.out.2.mono (fp' := fun k => w.heap.size ≤ k) (fun k _ h => h.elim)).trans C6 (fun k hk => .inl (HO.out.2.2.1.lt k hk).1)).mono (fun k hk h => absurd hk (Nat.not_lt.2 h))
    · have hd1 : decide ((i : Int) < (n : Int)) = false := by simp; omega
      obtain rfl : i = n := by omega
      go_wp2
      go_ret
      refine ⟨B, cw, rfl, ?_, hR.out.2⟩
      have := hR.out.1
      rwa [List.take_of_length_le (by have := HT.out.len; omega)] at this

/-- A row of strings is none of another block's. -/
theorem svs_ne_blk {w : World} {base n b : Nat} {v : Value} {xs : List Value} {t : TypeId} {cs : Array Value} (h : w.ownsRow base 9 1 v n xs) (hb : Blk w b t cs) (hne : 9 ≠ t) : ∀ k, v.ownBlock = some k → k ≠ b := own_ne_blk h hb hne

set_option maxHeartbeats 1000000 in
theorem Opened_calls (A : Option Addr) (n c : Nat) (l : List (List UInt8)) {w : World} {base m : Nat} {vr : Value} {rs : List (List UInt8)} {safe : Nat} {failed : Bool} {P : ByteArray} (hb : base ≤ w.heap.size) (hM : MJat w base m vr rs safe failed P) (h : TextsAt w A n l) (hn : n ≤ 100000) :
    Calls Try.prog 40 #[.pointer (some ⟨m, 0, none⟩), .slice A n c] w fun e w' => e = .returned (.tuple #[]) ∧ (∃ vr', MJat w' base m vr' l n false ⟨#[]⟩) ∧ Chg (fun i => i = m) w w' := by
  have HM := Lib.hid (And.intro hM (And.intro h hb))
  clear hM h
  go_enter Try.func40, Try.ntmps40
  go_wp2_with fail
  refine (Texts_calls A n c l w HM.out.2.1 hn).mono ?_
  rintro e w1 ⟨B, cw, rfl, hown, hch⟩
  have hblk := hch.blk HM.out.1.blk (fun h => h)
  have HB := Lib.hid (And.intro hblk (And.intro hown hch))
  have hc0 : w1.cell? ⟨m, 0, none⟩ = some vr := hblk.cell 0
  have hc1 : w1.cell? ⟨m, 1, none⟩ = some (.int .i64 (safe : Int)) := hblk.cell 1
  have hc2 : w1.cell? ⟨m, 2, none⟩ = some (.bool failed) := hblk.cell 2
  have hc3 : w1.cell? ⟨m, 3, none⟩ = some (.string P) := hblk.cell 3
  have hf0 := hblk.frozen 0
  have hf1 := hblk.frozen 1
  have hf2 := hblk.frozen 2
  have hf3 := hblk.frozen 3
  clear hblk hown hch
  dsimp only
  go_wp2
  go_end0
  have hb := (((HB.out.1.put 0 (.slice B n cw)).put 1 (.int .i64 (n : Int))).put 2 (.bool false)).put 3 (.string ⟨#[]⟩)
  have hch := ((((Chg.refl (· = m) w1).setCell (p := ⟨m, 0, none⟩) (.inl rfl) (.slice B n cw)).setCell (p := ⟨m, 1, none⟩) (.inl rfl) (.int .i64 (n : Int))).setCell (p := ⟨m, 2, none⟩) (.inl rfl) (.bool false)).setCell (p := ⟨m, 3, none⟩) (.inl rfl) (.string ⟨#[]⟩)
  have hnl := HM.out.2.1.len
  refine ⟨rfl, ⟨.slice B n cw, hb, HM.out.1.low, ?_⟩, (HB.out.2.2.mono (fun _ _ h => h.elim)).trans hch (fun i hi => .inl hi)⟩
  rw [← hnl]
  exact hch.own (own_weaken HB.out.2.1 HM.out.2.2) (fun k hk e => svs_ne_blk HB.out.2.1 HB.out.1 (by decide) k hk e)

set_option maxHeartbeats 1000000 in
theorem mAppend_ok {w : World} {base m : Nat} {vr : Value} {rs : List (List UInt8)} {safe : Nat} {failed : Bool} {P : ByteArray} (s : List UInt8) (hb : base ≤ w.heap.size) (hM : MJat w base m vr rs safe failed P) (hn : rs.length ≤ 100000) :
    Calls Try.prog 41 #[.pointer (some ⟨m, 0, none⟩), .string (bs s), .int .i64 0] w fun e w' => e = .returned (.tuple #[]) ∧ (∃ vr', MJat w' base m vr' (rs ++ [s]) safe failed P) ∧ Chg (FpM w base m rs) w w' := by
  obtain ⟨i0, hi0, hz0, hz1, hz2⟩ := info_parts Try.infoStr
  have HI0 := Lib.hid (And.intro hi0 (And.intro hz0 (And.intro hz1 hz2)))
  clear hi0 hz0 hz1 hz2
  obtain ⟨B, cw, rfl, hlc, hcm⟩ := own_shape hM.own
  have hblk := hM.blk
  have hc0 : w.cell? ⟨m, 0, none⟩ = some (.slice B rs.length cw) := hblk.cell 0
  have hf0 := hblk.frozen 0
  obtain ⟨S, hS⟩ : ∃ S, S = bs s := ⟨_, rfl⟩
  rw [← hS]
  obtain ⟨n, hnl⟩ : ∃ n, n = rs.length := ⟨_, rfl⟩
  rw [← hnl] at hc0 hn
  have hown := hM.own
  rw [← hnl] at hown hM
  have hO1 := hown.alloc (.cells #[.string S] 9)
  have hn1 := World.news_of_block (cs := #[.string S]) (t := 9) (fr := (0, 0)) (heap_alloc_new w _)
  have HO := Lib.hid (And.intro hO1 (And.intro hn1 (And.intro hown (show n + 1 ≤ maxLen ∧ (n + 1) * 16 ≤ 140737488355328 ∧ base ≤ (w.alloc (.cells #[.string S] 9)).heap.size from ⟨by simp only [maxLen]; omega, by omega, by simp; omega⟩))))
  have HS := Lib.hid hS
  have HN := Lib.hid hnl
  have HM := Lib.hid hM
  have HB := Lib.hid hb
  clear hO1 hn1 hown hS hnl hM hb hlc hcm hblk
  go_enter Try.func41, Try.ntmps41
  go_wp2_with (first
    | ((with_reducible refine wpList_append_lies (o := ⟨some 15, _, _, _, _, _⟩) _ rfl (.tmp 12) (.tmp 14) 44 rfl base 9 i0 (.string ⟨#[]⟩) 1 16 Try.underlying44 HI0.out.1 HI0.out.2.1 HI0.out.2.2.1 HI0.out.2.2.2 size_strz Nat.one_pos (.slice B n cw) n (svs rs) rfl HO.out.1 ⟨w.heap.size, 0, none⟩ 1 1 [.string S] rfl rfl HO.out.2.1 (one_str S) Nat.one_pos HO.out.2.2.2.1 HO.out.2.2.2.2.1 HO.out.2.2.2.2.2 _ rfl ?_); intro g' cap w6 hown hgrow hat6 hlt6; have C6 : Chg (fun i' => (Value.slice B n cw).ownBlock = some i') w w6 := ((Chg.refl _ w).alloc _).trans (Chg.of_grownBy (fp := fun i' => (Value.slice B n cw).ownBlock = some i') hgrow (fun k hk => .inl hk)) (fun i hi => .inl hi); have hb6 := C6.blk HM.out.blk (fun e => own_ne_blk HO.out.2.2.1 HM.out.blk (by decide) m e rfl); have hc6 : w6.cell? ⟨m, 0, none⟩ = some (.slice B n cw) := hb6.cell 0; have hf6 := hb6.frozen 0; have H6 := Lib.hid (And.intro hown (And.intro C6 hb6)); clear hown hgrow hat6 hlt6 C6 hb6)
    | fail)
  go_end0
  have hnl := HN.out
  have hbp := H6.out.2.2.put 0 (.slice (some ⟨g', 0, none⟩) (n + 1) cap)
  have hch := (Chg.refl (· = m) w6).setCell (p := ⟨m, 0, none⟩) (.inl rfl) (.slice (some ⟨g', 0, none⟩) (n + 1) cap)
  refine ⟨rfl, ⟨.slice (some ⟨g', 0, none⟩) (n + 1) cap, hbp, HM.out.low, ?_⟩, ((H6.out.2.1.mono (fp' := FpM w base m rs) (fun i _ hi => .inr ⟨_, _, _, _, HM.out, hi⟩)).trans hch (fun i hi => .inl (.inl hi)))⟩
  rw [svs_snoc, List.length_append, ← hnl, show sv s = .string S from by rw [HS.out]]
  exact hch.own H6.out.1 (fun k hk e => svs_ne_blk H6.out.1 H6.out.2.2 (by decide) k hk e)

set_option maxHeartbeats 1000000 in
theorem mAppend_down {w : World} {base m : Nat} {vr : Value} {rs : List (List UInt8)} {safe : Nat} {failed : Bool} {P : ByteArray} (s : List UInt8) (hM : MJat w base m vr rs safe failed P) :
    Calls Try.prog 41 #[.pointer (some ⟨m, 0, none⟩), .string (bs s), .int .i64 70] w fun e w' => e = .returned (.tuple #[]) ∧ (∃ failed' P', MJat w' base m vr rs safe failed' P') ∧ Chg (fun i => i = m) w w' := by
  have hblk := hM.blk
  have hc2 : w.cell? ⟨m, 2, none⟩ = some (.bool failed) := hblk.cell 2
  have hc3 : w.cell? ⟨m, 3, none⟩ = some (.string P) := hblk.cell 3
  have hf2 := hblk.frozen 2
  have hf3 := hblk.frozen 3
  have HM := Lib.hid hM
  clear hM hblk
  cases failed
  · go_enter Try.func41, Try.ntmps41
    go_wp2
    go_end0
    have hbp := (HM.out.blk.put 2 (.bool true)).put 3 (.string (bs s))
    have hch := ((Chg.refl (· = m) w).setCell (p := ⟨m, 2, none⟩) (.inl rfl) (.bool true)).setCell (p := ⟨m, 3, none⟩) (.inl rfl) (.string (bs s))
    exact ⟨rfl, ⟨true, bs s, hbp, HM.out.low, hch.own HM.out.own (fun k hk e => svs_ne_blk HM.out.own HM.out.blk (by decide) k hk e)⟩, hch⟩
  · go_enter Try.func41, Try.ntmps41
    go_wp2
    go_end0
    exact ⟨rfl, ⟨true, P, HM.out⟩, Chg.refl _ _⟩
end Go.Proofs.Ytdnjelggdjimhaa
