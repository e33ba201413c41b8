/-
  A journal and its reference side by side: opened, append2.
-/
import Derived.Test.YtdnjelggdjimhaaJm2
namespace Go.Proofs.Ytdnjelggdjimhaa
open Go.RowKit

theorem JOn.keep {w w' : World} {base g jb : Nat} {d : Dk.D} {rs : List (List UInt8)} {k : Nat} {part : List Dk.Sec} {fp : Nat → Prop} (h : JOn w base g jb d rs k part) (hc : Chg fp w w') (h1 : ¬ fp jb) (h2 : ∀ vd vn vw, DiskAt w base g d vd vn vw → ∀ i, fpD g vd vn vw i → ¬ fp i) : JOn w' base g jb d rs k part := by
  obtain ⟨⟨hb, vd, vn, vw, hD⟩, hlow, hJ, hcore⟩ := h
  exact ⟨⟨Nat.le_trans hb hc.size, vd, vn, vw, hD.keep hc (h2 vd vn vw hD)⟩, hlow, hc.blk hJ h1, hcore⟩
theorem DOn.keep {w w' : World} {base g : Nat} {d : Dk.D} {fp : Nat → Prop} (h : DOn w base g d) (hc : Chg fp w w') (h2 : ∀ vd vn vw, DiskAt w base g d vd vn vw → ∀ i, fpD g vd vn vw i → ¬ fp i) : DOn w' base g d := by
  obtain ⟨hb, vd, vn, vw, hD⟩ := h
  exact ⟨Nat.le_trans hb hc.size, vd, vn, vw, hD.keep hc (h2 vd vn vw hD)⟩
theorem fpD_ne_m {w : World} {base g m : Nat} {d : Dk.D} {vd vn vw : Value} {cs : Array Value} (hD : DiskAt w base g d vd vn vw) (hM : Blk w m 61 cs) : ∀ i, fpD g vd vn vw i → i ≠ m := by
  rintro i (h | h | h | h) rfl
  · exact Blk.apart hM hD.blk (by decide) h
  · exact own_ne_blk hD.dur hM (by decide) i h rfl
  · exact own_ne_blk hD.now hM (by decide) i h rfl
  · exact own_ne_blk hD.wr hM (by decide) i h rfl
theorem fpD_ne_M {w : World} {base g m : Nat} {d : Dk.D} {vd vn vw : Value} {vr : Value} {rs : List (List UInt8)} {safe : Nat} {failed : Bool} {P : ByteArray} (hD : DiskAt w base g d vd vn vw) (hM : MJat w base m vr rs safe failed P) : ∀ i, fpD g vd vn vw i → ¬ FpM w base m rs i := by
  rintro i hi (h | ⟨vr', _, _, _, hM', h⟩)
  · exact fpD_ne_m hD hM.blk i hi h
  · exact str_apart hM'.own hD i h hi
theorem MJat.keepD {w w' : World} {base g m : Nat} {d : Dk.D} {vr : Value} {rs : List (List UInt8)} {safe : Nat} {failed : Bool} {P : ByteArray} (h : MJat w base m vr rs safe failed P) (hc : Chg (FpD base g d w) w w') : MJat w' base m vr rs safe failed P :=
  h.keep hc (fun ⟨_, _, _, hD, hf⟩ => fpD_ne_m hD h.blk m hf rfl) (fun k hk ⟨_, _, _, hD, hf⟩ => str_apart h.own hD k hk hf)
theorem MJat.keepJ {w w' : World} {base g m jb : Nat} {d : Dk.D} {vr : Value} {rs : List (List UInt8)} {safe : Nat} {failed : Bool} {P : ByteArray} {e r : Int} (h : MJat w base m vr rs safe failed P) (hJ : JBlk w jb g e r) (hc : Chg (FpJ base g jb d w) w w') : MJat w' base m vr rs safe failed P := by
  refine h.keep hc ?_ ?_
  · rintro (rfl | ⟨_, _, _, hD, hf⟩)
    · exact Blk.apart h.blk hJ (by decide) rfl
    · exact fpD_ne_m hD h.blk m hf rfl
  · rintro k hk (rfl | ⟨_, _, _, hD, hf⟩)
    · exact own_ne_blk h.own hJ (by decide) k hk rfl
    · exact str_apart h.own hD k hk hf
theorem JOn.keepM {w w' : World} {base g jb m : Nat} {d : Dk.D} {rs rs' : List (List UInt8)} {k : Nat} {part : List Dk.Sec} {vr : Value} {safe : Nat} {failed : Bool} {P : ByteArray} (h : JOn w base g jb d rs k part) (hM : MJat w base m vr rs' safe failed P) (hc : Chg (FpM w base m rs') w w') : JOn w' base g jb d rs k part := by
  refine h.keep hc ?_ (fun vd vn vw hD => fpD_ne_M hD hM)
  rintro (hi | ⟨_, _, _, _, hM', hi⟩)
  · exact Blk.apart hM.blk h.jb (by decide) hi.symm
  · exact own_ne_blk hM'.own h.jb (by decide) jb hi rfl
theorem chg_m {w w' : World} {base m : Nat} {rs : List (List UInt8)} (hc : Chg (fun i => i = m) w w') : Chg (FpM w base m rs) w w' := hc.mono (fun _ _ h => .inl h)
theorem chg_0 {w w' : World} {fp : Nat → Prop} (hc : Chg (fun _ => False) w w') : Chg fp w w' := hc.mono (fun _ _ h => h.elim)
theorem below_m {w w' : World} {base m : Nat} {vr : Value} {rs : List (List UInt8)} {safe : Nat} {failed : Bool} {P : ByteArray} (hb : base ≤ w.heap.size) (h : MJat w base m vr rs safe failed P) (hc : Chg (FpM w base m rs) w w') : Below base w w' := hc.below (FpM.low h) hb
theorem below_0 {w w' : World} {base : Nat} (hb : base ≤ w.heap.size) (hc : Chg (fun _ => False) w w') : Below base w w' := hc.below (fun _ h => h.elim) hb

theorem May_yes (A : Option Addr) (q c : Nat) {w : World} {base m : Nat} {vr : Value} {rs : List (List UInt8)} {safe : Nat} {failed : Bool} {P : ByteArray} (cr : Bool) (hcr : cr = false → q = rs.length) (hM : MJat w base m vr rs safe failed P) (hq : safe ≤ q) (hql : q ≤ rs.length) (hqc : q ≤ c) (hbig : rs.length ≤ 100000) (h : TextsAt w A q (rs.take q)) :
    Calls Try.prog 39 #[.pointer (some ⟨m, 0, none⟩), .slice A q c, .bool cr] w fun e w' => e = .returned (.bool true) ∧ Chg (fun _ => False) w w' := by
  cases cr
  · refine (May_same A q c (rs.take q) hM h).mono ?_
    rintro e w' ⟨rfl, hc⟩
    rw [List.take_of_length_le (by rw [hcr rfl]; exact Nat.le_refl _)]
    exact ⟨by simp, hc⟩
  · exact May_crashed A q c hM hq hql hqc hbig h

/-- What Open gives. -/
def OpensTo (base g : Nat) (d : Dk.D) (rr : List (List UInt8)) (w : World) (F : Dk.D → World → Prop) (e : Ending) (w' : World) : Prop :=
  ∃ d', Chg (FpD base g d w) w w' ∧ d'.now.length = d.now.length ∧
    ((∃ jb vl, e = .returned (.tuple #[.pointer (some ⟨jb, 0, none⟩), vl, .int .i64 0]) ∧ w.heap.size ≤ jb ∧ JOn w' base g jb d' rr rr.length [] ∧ d'.down = false ∧ d'.armed = d.armed ∧ w'.ownsRow base 9 1 vl rr.length (svs rr)) ∨
     (d.armed = true ∧ e = .returned (.tuple #[.pointer none, .slice none 0 0, .int .i64 70]) ∧ d'.down = true ∧ F d' w'))

theorem below_o {w w' : World} {base g m : Nat} {d : Dk.D} (hb : base ≤ w.heap.size) (hm : base ≤ m) (hc : Chg (fun i => FpD base g d w i ∨ i = m) w w') : Below base w w' := by
  refine hc.below (fun i hi => ?_) hb
  rcases hi with ⟨_, _, _, hD, hf⟩ | rfl
  · exact hD.high i hf
  · exact hm
/-- A block of another type is none of a disk's. -/
theorem fpD_ne_blk {w : World} {base g b : Nat} {t : TypeId} {d : Dk.D} {vd vn vw : Value} {cs : Array Value} (hD : DiskAt w base g d vd vn vw) (hb : Blk w b t cs) (h1 : t ≠ 73) (h2 : 75 ≠ t) (h3 : 77 ≠ t) : ∀ i, fpD g vd vn vw i → i ≠ b := by
  rintro i (h | h | h | h) rfl
  · exact Blk.apart hb hD.blk h1 h
  · exact own_ne_blk hD.dur hb h2 i h rfl
  · exact own_ne_blk hD.now hb h2 i h rfl
  · exact own_ne_blk hD.wr hb h3 i h rfl

set_option maxRecDepth 100000 in
set_option maxHeartbeats 2000000 in
theorem opened_calls {base g m : Nat} {w : World} {d : Dk.D} {rs : List (List UInt8)} {F : Dk.D → World → Prop} {vr : Value} {safe : Nat} {failed : Bool} {P : ByteArray} (q : Nat) (hO : Calls Try.prog 18 #[.pointer (some ⟨g, 0, none⟩)] w (OpensTo base g d (rs.take q) w F)) (hF : ∀ d' w', F d' w' → DOn w' base g d') (hb : base ≤ w.heap.size) (hD : DOn w base g d)
    (hM : MJat w base m vr rs safe failed P) (hq : safe ≤ q) (hql : q ≤ rs.length) (cr : Bool) (hcr : cr = false → q = rs.length) (hbig : rs.length ≤ 100000) :
    Calls Try.prog 25 #[.pointer (some ⟨g, 0, none⟩), .pointer (some ⟨m, 0, none⟩), .bool cr] w fun e w' => Chg (fun i => FpD base g d w i ∨ i = m) w w' ∧ ∃ d', d'.now.length = d.now.length ∧
      ((∃ jb vr', e = .returned (.tuple #[.pointer (some ⟨jb, 0, none⟩), .bool true]) ∧ JOn w' base g jb d' (rs.take q) q [] ∧ d'.down = false ∧ d'.armed = d.armed ∧ MJat w' base m vr' (rs.take q) q false ⟨#[]⟩) ∨
       (d.armed = true ∧ e = .returned (.tuple #[.pointer none, .bool true]) ∧ d'.down = true ∧ F d' w' ∧ MJat w' base m vr rs safe failed P)) := by
  have H := Lib.hid (And.intro hF (And.intro hb (And.intro hD (And.intro hM (And.intro hq (And.intro hql (And.intro hcr hbig)))))))
  have HO := Lib.hid hO
  clear hF hb hD hM hq hql hcr hbig hO
  go_enter Try.func25, Try.ntmps25
  go_wp2_with fail
  refine HO.out.mono ?_
  rintro e w1 ⟨d1, hc1, hl1, hor⟩
  have hB1 : Chg (fun i => FpD base g d w i ∨ i = m) w w1 := hc1.mono (fun _ _ h => .inl h)
  have hM1 := H.out.2.2.2.1.keepD hc1
  rcases hor with ⟨jb, vl, rfl, hjb, hJ1, hd1, ha1, hown⟩ | ⟨ha, rfl, hd1, hF1⟩
  case inr =>
    obtain ⟨_, vd, vn, vw, hD1⟩ := H.out.1 d1 w1 hF1
    have hg3 : w1.cell? ⟨g, 3, none⟩ = some (.bool true) := by rw [← hd1]; exact hD1.blk.cell 3
    have H1 := Lib.hid (And.intro hB1 (And.intro hM1 (And.intro hl1 (And.intro ha (And.intro hd1 hF1)))))
    clear hB1 hM1 hl1 ha hd1 hF1 hD1 hc1
    dsimp only
    go_wp2_with fail
    refine (down_calls g _ _ hg3).mono ?_
    rintro e w2 ⟨rfl, rfl⟩
    dsimp only
    go_wp2
    go_ret2
    exact ⟨H1.out.1, d1, H1.out.2.2.1, .inr ⟨H1.out.2.2.2.1, rfl, H1.out.2.2.2.2.1, H1.out.2.2.2.2.2, H1.out.2.1⟩⟩
  have hlq : (rs.take q).length = q := by rw [List.length_take]; have := H.out.2.2.2.2.2.1; omega
  rw [hlq] at hJ1 hown
  obtain ⟨A, c, rfl, hT1⟩ := own_texts hown hlq.symm
  obtain ⟨A', c', hv, hlc, hcm⟩ := own_shape hown
  obtain ⟨rfl, _, rfl⟩ : A = A' ∧ q = q ∧ c = c' := by injection hv with h1 h2 h3; exact ⟨h1, h2, h3⟩
  have hjl : JBlk w1 jb g ((Dk.encs (rs.take q)).length : Int) (q : Int) := by have := hJ1.jb; rw [hlq] at this; exact this
  have H1 := Lib.hid (And.intro hB1 (And.intro hM1 (And.intro hl1 (And.intro hJ1 (And.intro hd1 (And.intro ha1 (And.intro hT1 hjl)))))))
  clear hB1 hM1 hl1 hJ1 hd1 ha1 hT1 hown hv hcm hc1 hjb hjl
  dsimp only
  go_wp2_with fail
  refine (len_calls H1.out.2.2.2.2.2.2.2).mono ?_
  rintro e w2 ⟨rfl, rfl⟩
  dsimp only
  go_wp2_with fail
  refine (May_yes A q c cr H.out.2.2.2.2.2.2.1 H1.out.2.1 H.out.2.2.2.2.1 H.out.2.2.2.2.2.1 hlc H.out.2.2.2.2.2.2.2 H1.out.2.2.2.2.2.2.1).mono ?_
  rintro e w2 ⟨rfl, hc2⟩
  have hb1 : base ≤ w1.heap.size := H1.out.2.2.2.1.disk.1
  have hM2 := H1.out.2.1.keep hc2 (fun h => h) (fun _ _ h => h)
  have hJ2 := H1.out.2.2.2.1.keep hc2 (fun h => h) (fun _ _ _ _ _ _ h => h)
  have hT2 := H1.out.2.2.2.2.2.2.1.below (below_0 (Nat.le_refl _) hc2)
  have H2 := Lib.hid (And.intro (H1.out.1.trans hc2 (fun _ h => h.elim)) (And.intro hM2 (And.intro hJ2 hT2)))
  clear hc2 hM2 hJ2 hT2 hb1
  dsimp only
  go_wp2_with fail
  refine (Opened_calls A q c (rs.take q) H2.out.2.2.1.disk.1 H2.out.2.1 H2.out.2.2.2 (by have := H.out.2.2.2.2.2.1; have := H.out.2.2.2.2.2.2.2; omega)).mono ?_
  rintro e w3 ⟨rfl, ⟨vr', hM3⟩, hc3⟩
  have hJ3 := H2.out.2.2.1.keepM H2.out.2.1 (chg_m hc3)
  have H3 := Lib.hid (And.intro (H2.out.1.trans hc3 (fun _ h => .inl (.inr h))) (And.intro hM3 hJ3))
  clear hc3 hM3 hJ3
  dsimp only
  go_wp2
  go_ret2
  exact ⟨H3.out.1, d1, H1.out.2.2.1, .inl ⟨jb, vr', rfl, H3.out.2.2, H1.out.2.2.2.2.1, H1.out.2.2.2.2.2.1, H3.out.2.1⟩⟩

end Go.Proofs.Ytdnjelggdjimhaa
