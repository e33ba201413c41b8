/-
  The walk of the journal's Open.
-/
import Derived.Test.YtdnjelggdjimhaaJw3
namespace Go.Proofs.Ytdnjelggdjimhaa
open Go.RowKit

namespace Dk
theorem loadOf_in {d : D} {p kind : Nat} (h : (loadOf d (p : Int) kind).2 = true) : p < d.now.length := by
  unfold loadOf at h
  split at h
  · simp at h
  · rename_i hz
    unfold readErr at hz
    split at hz
    · simp at hz
    · split at hz
      · simp at hz
      · omega
theorem recGo_bound {d : D} (size : Nat) : ∀ (f next : Nat) (x : Sec × Bool) (b : List UInt8) (s : List UInt8) (n : Nat), (x.2 = true → next ≤ d.now.length) → recGo d size f next x b = some (s, n) → next ≤ n ∧ n ≤ d.now.length ∧ s.length = size
  | 0, _, _, _, _, _, _, h => by simp [recGo] at h
  | f + 1, next, x, b, s, n, hx, h => by
    unfold recGo at h
    split at h
    · rename_i h1
      split at h
      · rename_i h2
        cases h
        exact ⟨Nat.le_refl _, hx h1.1, h2⟩
      · have := recGo_bound size f (next + 1) _ _ s n (fun hl => loadOf_in hl) h
        exact ⟨by omega, this.2⟩
    · cases h
theorem rec_bound {d : D} {at_ n : Nat} {s : List UInt8} (h : rec d at_ = some (s, n)) : at_ < n ∧ n ≤ d.now.length ∧ s.length < 16777216 := by
  unfold rec at h
  have := recGo_bound _ _ _ _ _ s n (fun hl => loadOf_in hl) h
  have hl := lft_lt (loadOf d (at_ : Int) 1).1
  omega
/-- The records from a sector on, and the sector behind them. -/
def recs (d : D) : Nat → Nat → List (List UInt8) × Nat
  | 0, at_ => ([], at_)
  | f + 1, at_ => match rec d at_ with
    | none => ([], at_)
    | some (s, n) => (s :: (recs d f n).1, (recs d f n).2)
theorem recs_bound {d : D} : ∀ (f at_ : Nat), at_ ≤ d.now.length → at_ + (recs d f at_).1.length ≤ (recs d f at_).2 ∧ (recs d f at_).2 ≤ d.now.length
  | 0, at_, h => by simp [recs]; exact h
  | f + 1, at_, h => by
    unfold recs
    cases hr : rec d at_ with
    | none => simp; exact h
    | some p =>
      obtain ⟨s, n⟩ := p
      have hb := rec_bound hr
      have := recs_bound f n hb.2.1
      simp only [List.length_cons]
      omega
/-- What Open finds, and what it does. -/
def found (d : D) : List (List UInt8) × Nat := recs d (d.now.length + 1) 0
def cleared (d : D) : D × Int := clr d (found d).2 (d.now.length - (found d).2)
end Dk

/-- What Open returns. -/
def OpenTo (base g : Nat) (d : Dk.D) (vd vn vw : Value) (w : World) (e : Ending) (w' : World) : Prop :=
  (d.down = true ∧ e = .returned (.tuple #[.pointer none, .slice none 0 0, .int .i64 70]) ∧ w = w') ∨
  (d.down = false ∧ Upd base g vd vn vw w (Dk.cleared d).1 w' ∧
    (((Dk.cleared d).2 ≠ 0 ∧ e = .returned (.tuple #[.pointer none, .slice none 0 0, .int .i64 (Dk.cleared d).2])) ∨
     ((Dk.cleared d).2 = 0 ∧ ∃ jb vl, e = .returned (.tuple #[.pointer (some ⟨jb, 0, none⟩), vl, .int .i64 0]) ∧ w.heap.size ≤ jb ∧ JBlk w' jb g ((Dk.found d).2 : Int) ((Dk.found d).1.length : Int) ∧
       w'.ownsRow w.heap.size 9 1 vl (Dk.found d).1.length (svs (Dk.found d).1))))

theorem size_strz : (Value.string ⟨#[]⟩).cells.size = 1 := rfl
theorem one_str (S : ByteArray) : ∀ u ∈ [Value.string S], u.oneCell' = true := by simp [Value.oneCell']

structure OpRel (w wr : World) (g jb : Nat) (d : Dk.D) (RES : List (List UInt8) × Nat) (f at_ : Nat) (vl : Value) (ss : List (List UInt8)) : Prop where
  jb : JBlk wr jb g (at_ : Int) 0
  own : wr.ownsRow w.heap.size 9 1 vl ss.length (svs ss)
  chg : Chg (fun _ => False) w wr
  res : (ss ++ (Dk.recs d f at_).1, (Dk.recs d f at_).2) = RES
  le : at_ ≤ d.now.length
  fuel : d.now.length + 1 ≤ at_ + f
  many : ss.length ≤ at_

set_option maxRecDepth 100000 in
set_option maxHeartbeats 1000000 in
theorem open_calls {base g : Nat} {w : World} {d : Dk.D} {vd vn vw : Value} (h : DiskAt w base g d vd vn vw) (hwr : d.wr.length ≤ 1000000) :
    Calls Try.prog 18 #[.pointer (some ⟨g, 0, none⟩)] w (OpenTo base g d vd vn vw w) := by
  have hc3 : w.cell? ⟨g, 3, none⟩ = some (.bool d.down) := h.blk.cell 3
  cases hdn : d.down
  case true =>
    rw [hdn] at hc3
    go_enter Try.func18, Try.ntmps18
    go_wp2_with (go_at_call 29; refine (up_calls g _ true (by assumption)).mono ?_; rintro e w' ⟨rfl, rfl⟩)
    go_ret3
    exact .inl ⟨hdn, rfl, rfl⟩
  rw [hdn] at hc3
  have E := Lib.hid hdn
  have H := Lib.hid h
  have HW := Lib.hid hwr
  obtain ⟨RES, hRES⟩ : ∃ RES, RES = Dk.found d := ⟨_, rfl⟩
  have hn6 : d.now.length ≤ 65536 := h.ok.many.2
  have HRES := Lib.hid hRES
  obtain ⟨i0, hi0, hz0, hz1, hz2⟩ := info_parts Try.infoStr
  have HI0 := Lib.hid (And.intro hi0 (And.intro hz0 (And.intro hz1 hz2)))
  clear hi0 hz0 hz1 hz2 hdn h hwr hRES
  go_enter Try.func18, Try.ntmps18
  go_wp2_with (first | (go_at_call 29; refine (up_calls g _ false (by assumption)).mono ?_; rintro e w' ⟨rfl, rfl⟩) | fail)
  have R0 : OpRel w (w.alloc (.cells #[.pointer (some ⟨g, 0, none⟩), .int .i64 0, .int .i64 0] 84)) g w.heap.size d RES (d.now.length + 1) 0 (.slice none 0 0) [] :=
    ⟨Blk.fresh _ _ _, World.ownsRow_nil _ _ _ _, (Chg.refl _ w).alloc _, by rw [HRES.out]; rfl, Nat.zero_le _, by omega, Nat.le_refl _⟩
  have HR0 := Lib.hid R0
  clear R0 hc3
  go_loopg [7] (d.now.length + 1) (fun q s7 wr => ∃ (at_ : Nat) (A : Option Addr) (c : Nat) (ss : List (List UInt8)), s7 = .slice A ss.length c ∧ Hid (OpRel w wr g w.heap.size d RES q at_ (.slice A ss.length c) ss))
  case atStart => exact ⟨0, none, 0, [], rfl, HR0⟩
  case round =>
    obtain ⟨at_, A, c, ss, rfl, hR⟩ := hrel
    obtain ⟨f, rfl⟩ : ∃ f, gk = f + 1 := ⟨gk - 1, by have := hR.out.fuel; have := hR.out.le; omega⟩
    have hj1 : wr.cell? ⟨w.heap.size, 1, none⟩ = some (.int .i64 (at_ : Int)) := hR.out.jb.cell 1
    have hres := hR.out.res
    unfold Dk.recs at hres
    have HRS := Lib.hid hres
    clear hres
    go_wp2_with fail
    refine (record_calls at_ (by have := hR.out.le; omega) hR.out.jb (H.out.new_ hR.out.chg)).mono ?_
    rintro e1 w1 ⟨rfl, hc1⟩
    have HC1 := Lib.hid hc1
    have HJ1 := Lib.hid (hc1.blk hR.out.jb (fun h => h))
    clear hc1 hj1
    cases hrec : Dk.rec d at_ with
    | none =>
      have HRS2 := Lib.hid (show (ss, at_) = RES from by have := HRS.out; rw [hrec] at this; simpa using this)
      clear hrec HRS
      have hl : Hid (ss.length ≤ d.now.length) := Lib.hid (Nat.le_trans hR.out.many hR.out.le)
      unfold recVal
      have hj2 := HJ1.out.cell 2
      have hjf2 := HJ1.out.frozen 2
      go_wp2_with fail
      have C2 : Chg (fun _ => False) w (w1.setCell ⟨w.heap.size, 2, none⟩ (.int .i64 (ss.length : Int))) := (hR.out.chg.trans HC1.out (fun _ h => h.elim)).setCell (p := ⟨w.heap.size, 2, none⟩) (.inr (Nat.le_refl _)) _
      have hD2 := H.out.new_ C2
      refine (clear_calls at_ (ss.length : Int) (HJ1.out.put 2 _) hD2 HW.out hR.out.le).mono ?_
      have hfd : Dk.found d = (ss, at_) := by rw [← HRES.out, ← HRS2.out]
      have hcd : Dk.cleared d = Dk.clr d at_ (d.now.length - at_) := by unfold Dk.cleared; rw [hfd]
      rw [← hcd]
      obtain ⟨E', hE'⟩ : ∃ E', E' = (Dk.cleared d).2 := ⟨_, rfl⟩
      rw [← hE']
      rintro e2 w3 ⟨rfl, hU, hJ3⟩
      have hU0 := Upd.trans (C2.mono (fp' := fpD g vd vn vw) (fun _ _ h => h.elim)) (fun k hk => .inl hk) hU
      have hO3 : w3.ownsRow w.heap.size 9 1 (.slice A ss.length c) ss.length (svs ss) := by
        obtain ⟨_, _, _, _, hcu, _⟩ := hU
        have h1 := HC1.out.own hR.out.own (fun _ _ h => h)
        have h2 := ((Chg.refl (· = w.heap.size) w1).setCell (p := ⟨w.heap.size, 2, none⟩) (.inl rfl) (.int .i64 (ss.length : Int))).own h1 (fun k hk e => own_ne_blk hR.out.own hR.out.jb (by decide) k hk e)
        exact hcu.own h2 (fun k hk hf => by have := (hR.out.own.lt k hk).1; have := H.out.lt k hf; omega)
      have HF := Lib.hid (And.intro hfd (And.intro hE' (And.intro hU0 (And.intro hJ3 hO3))))
      clear hfd hcd hE' hU hU0 hJ3 hO3 hj2 hjf2 C2 hD2
      by_cases h0 : E' = 0
      · have hd0 : (E' == 0) = true := by simp [h0]
        subst h0
        go_wp2
        go_ret3
        obtain ⟨hfd, hE', hU0, hJ3, hO3⟩ := HF.out
        refine .inr ⟨E.out, hU0, .inr ⟨hE'.symm, w.heap.size, .slice A ss.length c, rfl, Nat.le_refl _, ?_, ?_⟩⟩
        · rw [hfd]; exact hJ3
        · rw [hfd]; exact hO3
      · have hd0 : (E' == 0) = false := by simpa using h0
        go_wp2
        go_ret3
        obtain ⟨hfd, hE', hU0, hJ3, hO3⟩ := HF.out
        exact .inr ⟨E.out, hU0, .inl ⟨by rw [← hE']; exact h0, by rw [← hE']; rfl⟩⟩
    | some p =>
      obtain ⟨s, nx⟩ := p
      have hb := Dk.rec_bound hrec
      have HRS2 := Lib.hid (show (ss ++ s :: (Dk.recs d f nx).1, (Dk.recs d f nx).2) = RES from by have := HRS.out; rw [hrec] at this; exact this)
      have HB := Lib.hid hb
      clear hrec HRS hb
      obtain ⟨S, hS⟩ : ∃ S, S = bs s := ⟨_, rfl⟩
      unfold recVal
      simp only
      rw [← hS]
      have HS := Lib.hid hS
      clear hS
      have hO1 := (HC1.out.own hR.out.own (fun _ _ h => h)).alloc (.cells #[.string S] 9)
      have hn1 := World.news_of_block (cs := #[.string S]) (t := 9) (fr := (0, 0)) (heap_alloc_new w1 _)
      have hbd : ss.length + 1 ≤ maxLen ∧ (ss.length + 1) * 16 ≤ 140737488355328 ∧ w.heap.size ≤ (w1.alloc (.cells #[.string S] 9)).heap.size := by
        have := hR.out.many; have := hR.out.le; have h1 := hR.out.chg.size; have h2 := HC1.out.size
        refine ⟨by simp only [maxLen]; omega, by omega, by simp; omega⟩
      have HO := Lib.hid (And.intro hO1 (And.intro hn1 hbd))
      clear hO1 hn1 hbd
      go_wp2_with (first
        | ((with_reducible refine wpList_append_lies (o := ⟨some 35, _, _, _, _, _⟩) _ rfl (.tmp 32) (.tmp 34) 44 rfl w.heap.size 9 i0 (.string ⟨#[]⟩) 1 16 Try.underlying44 HI0.out.1 HI0.out.2.1 HI0.out.2.2.1 HI0.out.2.2.2 size_strz Nat.one_pos (.slice A ss.length c) ss.length (svs ss) rfl HO.out.1 ⟨w1.heap.size, 0, none⟩ 1 1 [.string S] rfl rfl HO.out.2.1 (one_str S) Nat.one_pos HO.out.2.2.1 HO.out.2.2.2.1 HO.out.2.2.2.2 _ rfl ?_); intro g' cap w6 hown hgrow hat6 hlt6; have C6 : Chg (fun i => (Value.slice A ss.length c).ownBlock = some i) w1 w6 := ((Chg.refl _ w1).alloc _).trans (Chg.of_grownBy (fp := fun i => (Value.slice A ss.length c).ownBlock = some i) hgrow (fun k hk => .inl hk)) (fun i hi => .inl hi); have HJ6 := C6.blk HJ1.out (fun e => own_ne_blk hR.out.own hR.out.jb (by decide) w.heap.size e rfl); have hj1 := HJ6.cell 1; have hjf := HJ6.frozen 1)
        | fail)
      go_roundg f
      case measure => omega
      case rel =>
        have CJ : Chg (· = w.heap.size) w6 (w6.setCell ⟨w.heap.size, 1, none⟩ (.int .i64 (nx : Int))) := (Chg.refl (· = w.heap.size) w6).setCell (p := ⟨w.heap.size, 1, none⟩) (.inl rfl) _
        obtain ⟨hb1, hb2, _⟩ := HB.out
        refine ⟨nx, some ⟨g', 0, none⟩, cap, ss ++ [s], by simp, Lib.hid ⟨HJ6.put 1 _, ?_, ?_, ?_, hb2, ?_, ?_⟩⟩
        · rw [List.length_append, svs_snoc, show sv s = .string S from by rw [HS.out]]
          exact CJ.own hown (fun k hk e => own_ne_blk hown HJ6 (by decide) k hk e)
        · exact ((hR.out.chg.trans HC1.out (fun _ h => h.elim)).trans C6 (fun i hi => .inr ((hR.out.own.lt i hi).1))).trans CJ (fun i hi => .inr (Nat.le_of_eq hi.symm))
        · rw [← HRS2.out]; simp
        · have := hR.out.fuel; omega
        · have := hR.out.many; simp; omega

end Go.Proofs.Ytdnjelggdjimhaa
