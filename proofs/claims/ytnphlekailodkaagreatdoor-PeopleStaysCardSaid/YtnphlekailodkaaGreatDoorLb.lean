/-
  What the code calls of Go's library: strconv.Itoa, strconv.Atoi, strings.Cut at one byte.
-/
import Derived.Shelf.Strconv.Itoa3
import Derived.Shelf.Strconv.AtoiAll
import Derived.Shelf.Strconv.ErrVarAll
import Derived.Shelf.Strings.Cut
import Derived.Lib.IndexBytes
import Derived.Test.YtnphlekailodkaaGreatDoorSh
import Derived.Lib.AtoiOr
import Derived.Lib.AtoiErrMem
import Derived.Ground.NamesProg
import Derived.Test.YtnphlekailodkaaGreatDoorPa
namespace Go.Proofs
open Go.Shelf Go.RowKit Go.Lib
section
variable {P : Program} {ρ : Ren}
set_option maxHeartbeats 2000000 in
set_option maxRecDepth 100000 in
/-- internal/stringslite.Cut at a separator of one byte: no bound on the string. -/
theorem YtnphlekailodkaaGreatDoor.stringslite_Cut_one (L : Lays.n220 P ρ) (s : ByteArray) (c : UInt8) (w : World) (hs : s.size ≤ 9223372036854775807) :
    Calls P (ρ.f 220) #[.string s, .string ⟨#[c]⟩] w fun e w' => e = .returned (.tuple #[.string ⟨(Lib.cut s.data.toList [c]).1.toArray⟩, .string ⟨(Lib.cut s.data.toList [c]).2.1.toArray⟩, .bool (Lib.cut s.data.toList [c]).2.2]) ∧ ∃ n, w' = w.drewN n := by
  obtain ⟨sep, hsep⟩ : ∃ sep : ByteArray, sep = ⟨#[c]⟩ := ⟨_, rfl⟩
  have hsl : sep.data.toList = [c] := by rw [hsep]
  rw [← hsep, ← hsl]
  have hix1 : ∀ w, Calls P (ρ.f 219) #[.string s, .string sep] w fun e w' => e = .returned (.int .i64 (Lib.index s.data.toList sep.data.toList)) ∧ w' = w := fun w => by
    rw [hsl, Lib.index_one, hsep]
    exact Any.stringslite_Index_one { L with } s c w
  rcases Lib.indexB_cases s sep with hix | ⟨i, hix, hroom⟩
  · obtain ⟨e1, e2, e3⟩ := Lib.cutB_miss s sep hix
    rw [e1, e2, e3]
    have t3 := L.t3; have t4 := L.t4; have t9 := L.t9
    have a3 : ∀ w, (isAgg (ρ.t 3)).run P w = .ok false w := run_isAgg_plain L.t3 rfl; have a4 : ∀ w, (isAgg (ρ.t 4)).run P w = .ok false w := run_isAgg_plain L.t4 rfl; have a9 : ∀ w, (isAgg (ρ.t 9)).run P w = .ok false w := run_isAgg_plain L.t9 rfl
    have e219 : ∀ args w, (callFunc (ρ.f 219) args).run P w = .ok (.enter (ρ.f 219) args) w := enters_of L.f219 (by kernel_rfl) rfl
    have mixed := L.mixed; have z3 := L.z3; have v3 := L.v3; have z4 := L.z4; have v4 := L.v4; have z9 := L.z9; have v9 := L.v9
    have HIX := Lib.hid hix1
    clear hix1 hsl hsep
    go_enter L.f220, Body.n220_ntmps ρ
    go_wp2_with (go_at_fn (ρ.f 219); refine (HIX.out _).mono ?_; rintro e w' ⟨rfl, rfl⟩; rw [show Lib.index s.data.toList sep.data.toList = _ from hix])
    go_ret3
    exact ⟨rfl, 0, rfl⟩
  · obtain ⟨e1, e2, e3⟩ := Lib.cutB_hit s sep i hix
    rw [e1, e2, e3]
    have c1 : (0 : Int) ≤ ↑i := by omega
    have c2 : (↑i : Int) ≤ ↑s.size := by omega
    have c3 : (0 : Int) ≤ ↑i + ↑sep.size := by omega
    have c4 : (↑i + ↑sep.size : Int) ≤ ↑s.size := by omega
    have c5 : IntKind.i64.wrap (↑i + ↑sep.size : Int) = ↑i + ↑sep.size := by rw [IntKind.wrap_i64]; omega
    have t3 := L.t3; have t4 := L.t4; have t9 := L.t9
    have a3 : ∀ w, (isAgg (ρ.t 3)).run P w = .ok false w := run_isAgg_plain L.t3 rfl; have a4 : ∀ w, (isAgg (ρ.t 4)).run P w = .ok false w := run_isAgg_plain L.t4 rfl; have a9 : ∀ w, (isAgg (ρ.t 9)).run P w = .ok false w := run_isAgg_plain L.t9 rfl
    have e219 : ∀ args w, (callFunc (ρ.f 219) args).run P w = .ok (.enter (ρ.f 219) args) w := enters_of L.f219 (by kernel_rfl) rfl
    have mixed := L.mixed; have z3 := L.z3; have v3 := L.v3; have z4 := L.z4; have v4 := L.v4; have z9 := L.z9; have v9 := L.v9
    have HIX := Lib.hid hix1
    clear hix1 hsl hsep
    go_enter L.f220, Body.n220_ntmps ρ
    go_wp2_with (go_at_fn (ρ.f 219); refine (HIX.out _).mono ?_; rintro e w' ⟨rfl, rfl⟩; rw [show Lib.index s.data.toList sep.data.toList = _ from hix])
    go_region_o
    go_wp2
    go_ret3
    exact ⟨rfl, 1, rfl⟩
set_option maxHeartbeats 1000000 in
theorem YtnphlekailodkaaGreatDoor.strings_Cut_one (L : Lays.n145 P ρ) (s : ByteArray) (c : UInt8) (w : World) (hs : s.size ≤ 9223372036854775807) :
    Calls P (ρ.f 145) #[.string s, .string ⟨#[c]⟩] w fun e w' => e = .returned (.tuple #[.string ⟨(Lib.cut s.data.toList [c]).1.toArray⟩, .string ⟨(Lib.cut s.data.toList [c]).2.1.toArray⟩, .bool (Lib.cut s.data.toList [c]).2.2]) ∧ ∃ n, w' = w.drewN n := by
  have t4 := L.t4; have t9 := L.t9; have t59 := L.t59
  have a4 : ∀ w, (isAgg (ρ.t 4)).run P w = .ok false w := run_isAgg_plain L.t4 rfl; have a9 : ∀ w, (isAgg (ρ.t 9)).run P w = .ok false w := run_isAgg_plain L.t9 rfl; have a59 : ∀ w, (isAgg (ρ.t 59)).run P w = .ok false w := run_isAgg_plain L.t59 rfl
  have e220 : ∀ args w, (callFunc (ρ.f 220) args).run P w = .ok (.enter (ρ.f 220) args) w := enters_of L.f220 (by kernel_rfl) rfl
  have mixed := L.mixed; have z4 := L.z4; have v4 := L.v4; have z9 := L.z9; have v9 := L.v9; have z59 := L.z59; have v59 := L.v59
  go_enter L.f145, Body.n145_ntmps ρ
  go_wp2_with (go_at_fn (ρ.f 220); refine (YtnphlekailodkaaGreatDoor.stringslite_Cut_one { L with } _ _ _ hs).mono ?_; rintro e w' ⟨rfl, n, rfl⟩)
  go_ret3
  exact ⟨rfl, n, rfl⟩
end
namespace YtnphlekailodkaaGreatDoor

/-- What the library's variables hold, as far as the code reads them. -/
structure Laid (w : World) : Prop where
  tab : Lib.TabIs Tryz.prog w "internal/strconv.uint64pow10" .u64 Lib.pow10Tab
  syn : ∃ tp p, w.var? Tryz.prog "strconv.ErrSyntax" = some #[.iface tp p]
  rng : ∃ tp p, w.var? Tryz.prog "strconv.ErrRange" = some #[.iface tp p]
theorem var_below {P : Program} {w w' : World} {n : String} {cs : Array Value} (h : w.var? P n = some cs) (hb : Below w.heap.size w w') : w'.var? P n = some cs := by
  unfold World.var? at h ⊢
  cases hg : P.globalNamed n with
  | none => rw [hg] at h; cases h
  | some g =>
    rw [hg] at h
    simp only [Option.bind_some] at h ⊢
    have hlt : g < w.heap.size := by
      by_cases hl : g < w.heap.size
      · exact hl
      · rw [Array.getElem?_eq_none (by omega)] at h; cases h
    rw [hb.block g hlt]
    exact h
theorem Laid.below {w w' : World} (h : Laid w) (hb : Below w.heap.size w w') : Laid w' := by
  obtain ⟨tp, p, h2⟩ := h.syn
  obtain ⟨tq, q, h3⟩ := h.rng
  exact ⟨var_below h.tab hb, ⟨tp, p, var_below h2 hb⟩, ⟨tq, q, var_below h3 hb⟩⟩

/-- The text of a number. -/
def dec (n : Int) : List UInt8 := Lib.itoa n
theorem Itoa_calls (n : Int) (h0 : -9223372036854775808 ≤ n) (h1 : n ≤ 9223372036854775807) (w : World) (h : Laid w) :
    Calls Tryz.prog 147 #[.int .i64 n] w fun e w' => e = .returned (.string (bs (dec n))) ∧ Below w.heap.size w w' := by
  refine (Any.strconv_Itoa laysItoa n h0 h1 w h.tab).mono ?_
  rintro e w' ⟨rfl, k, os, rfl⟩
  refine ⟨rfl, ⟨rfl, rfl, rfl, by simp [Sort.grow], fun i hi => ?_⟩⟩
  show (w.heap ++ os)[i]? = _
  rw [Array.getElem?_append_left hi]

namespace Pe
/-- What stands ahead of the first blank, and what stands behind it. -/
def cut1 (l : List UInt8) : List UInt8 × List UInt8 := (l.takeWhile (· != 32), (l.dropWhile (· != 32)).drop 1)
theorem takeWhile_all : ∀ {l : List UInt8}, 32 ∉ l → l.takeWhile (· != 32) = l ∧ l.dropWhile (· != 32) = []
  | [], _ => ⟨rfl, rfl⟩
  | x :: r, h => by
    have hx : (x != 32) = true := by simp only [bne_iff_ne]; rintro rfl; exact h (by simp)
    obtain ⟨h1, h2⟩ := takeWhile_all (l := r) (fun hr => h (by simp [hr]))
    simp [hx, h1, h2]
theorem takeWhile_some : ∀ {a : List UInt8} (b : List UInt8), 32 ∉ a → (a ++ 32 :: b).takeWhile (· != 32) = a ∧ (a ++ 32 :: b).dropWhile (· != 32) = 32 :: b
  | [], b, _ => by simp
  | x :: r, b, h => by
    have hx : (x != 32) = true := by simp only [bne_iff_ne]; rintro rfl; exact h (by simp)
    obtain ⟨h1, h2⟩ := takeWhile_some (a := r) b (fun hr => h (by simp [hr]))
    simp [hx, h1, h2]
theorem cut1_none {l : List UInt8} (h : 32 ∉ l) : cut1 l = (l, []) := by
  obtain ⟨h1, h2⟩ := takeWhile_all h
  unfold cut1
  rw [h1, h2]; rfl
theorem cut1_some {a : List UInt8} (b : List UInt8) (h : 32 ∉ a) : cut1 (a ++ 32 :: b) = (a, b) := by
  obtain ⟨h1, h2⟩ := takeWhile_some b h
  unfold cut1
  rw [h1, h2]; rfl
theorem cut1_le (l : List UInt8) : (cut1 l).1.length ≤ l.length ∧ (cut1 l).2.length ≤ l.length := by
  by_cases h : 32 ∈ l
  · obtain ⟨a, b, rfl, ha⟩ := List.eq_append_cons_of_mem h
    rw [cut1_some b ha]; simp; omega
  · rw [cut1_none h]; simp
theorem lib_index : ∀ {a : List UInt8} (b : List UInt8), 32 ∉ a → Lib.indexByte (a ++ 32 :: b) 32 = (a.length : Int)
  | [], b, _ => by simp [Lib.indexByte]
  | x :: r, b, h => by
    have hx : (x == 32) = false := by simp only [beq_eq_false_iff_ne]; rintro rfl; exact h (by simp)
    have ih := lib_index (a := r) b (fun hr => h (by simp [hr]))
    have hn : (((r.length : Nat) : Int) == -1) = false := by simp
    rw [List.cons_append, Lib.indexByte, hx, ih, hn]
    simp
theorem lib_index_none : ∀ {a : List UInt8}, 32 ∉ a → Lib.indexByte a 32 = -1
  | [], _ => by simp [Lib.indexByte]
  | x :: r, h => by
    have hx : (x == 32) = false := by simp only [beq_eq_false_iff_ne]; rintro rfl; exact h (by simp)
    have ih := lib_index_none (a := r) (fun hr => h (by simp [hr]))
    rw [Lib.indexByte, hx, ih]
    simp
theorem lib_cut (l : List UInt8) : (Lib.cut l [32]).1 = (cut1 l).1 ∧ (Lib.cut l [32]).2.1 = (cut1 l).2 := by
  unfold Lib.cut
  rw [Lib.index_one]
  by_cases h : 32 ∈ l
  · obtain ⟨a, b, rfl, ha⟩ := List.eq_append_cons_of_mem h
    rw [lib_index b ha, cut1_some b ha, if_pos (by omega)]
    simp
  · rw [lib_index_none h, cut1_none h, if_neg (by omega)]
    simp
end Pe
theorem Cut_calls (l : List UInt8) (w : World) (hl : l.length ≤ 9223372036854775807) :
    Calls Tryz.prog 108 #[.string (bs l), .string ⟨#[32]⟩] w fun e w' => (∃ v, e = .returned (.tuple #[.string (bs (Pe.cut1 l).1), .string (bs (Pe.cut1 l).2), .bool v])) ∧ ∃ n, w' = w.drewN n := by
  refine (YtnphlekailodkaaGreatDoor.strings_Cut_one laysCut (bs l) 32 w (by rw [bs_size]; exact hl)).mono ?_
  rintro e w' ⟨rfl, hw⟩
  refine ⟨⟨(Lib.cut (bs l).data.toList [32]).2.2, ?_⟩, hw⟩
  have h := Pe.lib_cut l
  rw [bs_data, h.1, h.2]
  rfl
/-- What strconv.Atoi makes of a text. -/
def num? (l : List UInt8) : Option Int := match Lib.atoiAll l with | .ok v => some v | _ => none
theorem Atoi_calls (l : List UInt8) (w : World) (hl : l.length ≤ 281474976710656) (h : Laid w) :
    Calls Tryz.prog 109 #[.string (bs l)] w fun e w' => (match num? l with | some v => e = .returned (.tuple #[.int .i64 v, .nilIface]) | none => ∃ n t p, e = .returned (.tuple #[.int .i64 n, .iface t p])) ∧ Below w.heap.size w w' := by
  have hb := bs_data l
  have hsz : (bs l).size ≤ 281474976710656 := by rw [bs_size]; exact hl
  obtain ⟨tp, p, h2⟩ := h.syn
  obtain ⟨tq, q, h3⟩ := h.rng
  unfold num?
  cases ha : Lib.atoiAll l
  · rename_i v
    rw [← hb] at ha
    refine (Any.strconv_Atoi_ok laysAtoi (bs l) (by omega) v ha w).mono ?_
    rintro e w' ⟨rfl, hw⟩
    refine ⟨rfl, ?_⟩
    rcases hw with rfl | ⟨t, rfl⟩
    · exact Below.refl _ _
    · exact Lib.bytesWorld_below _ _ _
  · skip
    rw [← hb] at ha
    refine (Any.strconv_Atoi_syntax_var laysAtoi (bs l) hsz ha tp p w h2).mono ?_
    rintro e w' ⟨N, rfl, _, _, hb⟩
    exact ⟨⟨_, _, _, rfl⟩, hb⟩
  · skip
    rw [← hb] at ha
    refine (Any.strconv_Atoi_range_var laysAtoi (bs l) hsz ha tq q w h3).mono ?_
    rintro e w' ⟨N, rfl, _, _, hb⟩
    exact ⟨⟨_, _, _, rfl⟩, hb⟩
end YtnphlekailodkaaGreatDoor
end Go.Proofs
