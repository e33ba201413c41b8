/-
  Following ends, and its hops go on from each other: the law's walk.
-/
import Derived.Test.YtfalajomfcfliaaGreatDoorLh
import Derived.BigQuiet
import Derived.Deep.RegionWith
namespace Go.Proofs.YtfalajomfcfliaaGreatDoor
namespace Pe

/-- Where hops from a pair lead. -/
def pos (c : Pair) (hs : List Hop) : Pair := (hs.getLast?.map (·.to)).getD c
theorem pos_snoc (c : Pair) (hs : List Hop) (x : Hop) : pos c (hs ++ [x]) = x.to := by simp [pos]
structure HopsOk (c : Pair) (hs : List Hop) : Prop where
  chain : ∀ i h, hs[i]? = some h → h.frm = pos c (hs.take i)
  kind : ∀ h ∈ hs, h.kind = 1 ∨ (h.kind = 2 ∧ h.order = 0)
theorem HopsOk.nil (c : Pair) : HopsOk c [] := ⟨fun i h hi => by simp at hi, fun h hh => by cases hh⟩
theorem HopsOk.snoc {c : Pair} {hs : List Hop} {x : Hop} (h : HopsOk c hs) (hf : x.frm = pos c hs) (hk : x.kind = 1 ∨ (x.kind = 2 ∧ x.order = 0)) : HopsOk c (hs ++ [x]) := by
  constructor
  · intro i y hi
    by_cases hlt : i < hs.length
    · rw [List.getElem?_append_left hlt] at hi
      rw [List.take_append_of_le_length (by omega)]
      exact h.chain i y hi
    · have : i < (hs ++ [x]).length := (List.getElem?_eq_some_iff.1 hi).1
      have hin : i = hs.length := by simp at this; omega
      subst hin
      rw [List.getElem?_append_right (by omega), Nat.sub_self] at hi
      cases hi
      rw [List.take_left]
      exact hf
  · intro y hy
    rcases List.mem_append.1 hy with hy | hy
    · exact h.kind y hy
    · rw [List.mem_singleton.1 hy]; exact hk
theorem step_kind {l : List Ent} {c : Pair} {d : Int} (h : (step l c d).2 = 2) : (step l c d).1.kind = 1 ∨ ((step l c d).1.kind = 2 ∧ (step l c d).1.order = 0) := by
  unfold step at h ⊢
  split
  · rename_i hd
    rw [if_pos hd] at h
    split
    · rename_i hh; simp only [hh] at h; cases h
    · rename_i p hh
      simp only [hh] at h
      split
      · exact .inr ⟨rfl, rfl⟩
      · rename_i hr; rw [if_neg hr] at h; cases h
  · rename_i hd
    rw [if_neg hd] at h
    split
    · rename_i hh; simp only [hh] at h; cases h
    · rename_i x hh
      simp only [hh] at h
      split
      · exact .inl rfl
      · rename_i hr; rw [if_neg hr] at h; cases h
structure EndsOk (l : List Ent) (c : Pair) (R : Route) : Prop where
  hops : HopsOk c R.hops
  nodup : (R.hops.map (·.frm)).Nodup
  short : R.hops.length ≤ l.length + 1
  fin : R.kind ≠ 5 → R.fin = pos c R.hops
  kind : 1 ≤ R.kind ∧ R.kind ≤ 6
  loop : R.kind = 6 → ∃ h, R.hops[R.back]? = some h ∧ h.frm = R.fin
  back : R.kind ≠ 6 → R.back = 0
theorem follow_ends (l : List Ent) (c : Pair) (s d : Int) : ∀ (n : Nat) (at_ : Pair) (hs : List Hop), HopsOk c hs → pos c hs = at_ → OnWay l d c at_ hs → n + hs.length = l.length + 2 → EndsOk l c (followFrom l s d n at_ hs)
  | 0, at_, hs, _, _, hw, hn => by have := hw.short; omega
  | n + 1, at_, hs, ho, hp, hw, hn => by
    have hsh := hw.short
    have hnd : (hs.map (·.frm)).Nodup := (List.nodup_append.1 hw.nodup).1
    unfold followFrom
    split
    · exact ⟨ho, hnd, by show hs.length ≤ l.length + 1; omega, fun _ => hp.symm, ⟨Nat.le_of_ble_eq_true rfl, Nat.le_of_ble_eq_true rfl⟩, (fun h => by cases h), fun _ => rfl⟩
    split
    · exact ⟨ho, hnd, by show hs.length ≤ l.length + 1; omega, fun _ => hp.symm, ⟨Nat.le_of_ble_eq_true rfl, Nat.le_of_ble_eq_true rfl⟩, (fun h => by cases h), fun _ => rfl⟩
    split
    · exact ⟨ho, hnd, by show hs.length ≤ l.length + 1; omega, fun h => absurd rfl h, ⟨Nat.le_of_ble_eq_true rfl, Nat.le_of_ble_eq_true rfl⟩, (fun h => by cases h), fun _ => rfl⟩
    split
    · rename_i h4
      have hfr := (step_target h4).2
      have ho2 := ho.snoc (x := (step l at_ d).1) (by rw [hp]; exact hfr) (step_kind h4)
      split
      · rename_i i hi
        refine ⟨ho2, ?_, ?_, fun _ => (pos_snoc c hs _).symm, ⟨Nat.le_of_ble_eq_true rfl, Nat.le_of_ble_eq_true rfl⟩, fun _ => ?_, fun h => absurd rfl h⟩
        · show ((hs ++ [(step l at_ d).1]).map (·.frm)).Nodup
          rw [List.map_append, List.map_cons, List.map_nil, hfr]
          exact hw.nodup
        · show (hs ++ [(step l at_ d).1]).length ≤ l.length + 1
          simp; omega
        · unfold seenAt at hi
          obtain ⟨hlt, hq, _⟩ := List.findIdx?_eq_some_iff_getElem.1 hi
          exact ⟨_, List.getElem?_eq_getElem hlt, by simpa using hq⟩
      · rename_i hi
        exact follow_ends l c s d n _ _ ho2 (pos_snoc c hs _) (hw.on h4 hi) (by simp; omega)
    · cases hl : lives l at_ d with
      | true => exact ⟨ho, hnd, by show hs.length ≤ l.length + 1; omega, fun _ => hp.symm, ⟨Nat.le_of_ble_eq_true rfl, Nat.le_of_ble_eq_true rfl⟩, (fun h => by cases h), fun _ => rfl⟩
      | false => exact ⟨ho, hnd, by show hs.length ≤ l.length + 1; omega, fun _ => hp.symm, ⟨Nat.le_of_ble_eq_true rfl, Nat.le_of_ble_eq_true rfl⟩, (fun h => by cases h), fun _ => rfl⟩
end Pe
end Go.Proofs.YtfalajomfcfliaaGreatDoor

namespace Go.Proofs.YtfalajomfcfliaaGreatDoor
open Go.RowKit

theorem hRow_at {l : List Pe.Hop} {i j : Nat} {x : Pe.Hop} {u : Value} (h1 : l[i]? = some x) (h2 : (hCells x)[j]? = some u) : (hRow l)[i * 6 + j]? = some u := by
  induction l generalizing i with
  | nil => simp at h1
  | cons y r ih =>
    have e : hRow (y :: r) = (hCells y).toList ++ hRow r := rfl
    have hs : (hCells y).toList.length = 6 := rfl
    have hj : j < 6 := by have := (Array.getElem?_eq_some_iff.1 h2).1; simpa [hCells] using this
    rw [e]
    cases i with
    | zero =>
      simp at h1
      subst h1
      rw [List.getElem?_append_left (by omega)]
      simpa using h2
    | succ i =>
      rw [List.getElem?_append_right (by omega), hs]
      have := ih (i := i) (by simpa using h1)
      rw [show (i + 1) * 6 + j - 6 = i * 6 + j from by omega]
      exact this
/-- A list of hops in memory. -/
structure HopsAt (w : World) (A : Option Addr) (n : Nat) (l : List Pe.Hop) : Prop where
  len : n = l.length
  at_ : l = [] ∨ ∃ ad, A = some ad ∧ ad.block < w.heap.size ∧ ∀ i x, l[i]? = some x → ∀ j v, (hCells x)[j]? = some v → w.cell? ((ad.add (i * 6)).add j) = some v
theorem HopsAt.below {w w' : World} {A : Option Addr} {n : Nat} {l : List Pe.Hop} (h : HopsAt w A n l) (hb : Below w.heap.size w w') : HopsAt w' A n l := by
  refine ⟨h.len, h.at_.imp id ?_⟩
  rintro ⟨ad, hA, hl, hc⟩
  refine ⟨ad, hA, Nat.lt_of_lt_of_le hl hb.size, fun i x hi j v hv => ?_⟩
  rw [hb.cell (by rw [Addr.add_add]; unfold Addr.add; split <;> exact hl)]
  exact hc i x hi j v hv
theorem HopsAt.set {w : World} {A : Option Addr} {n : Nat} {l : List Pe.Hop} (h : HopsAt w A n l) {p : Addr} (hp : ∀ ad, A = some ad → ad.block ≠ p.block) (u : Value) : HopsAt (w.setCell p u) A n l := by
  refine ⟨h.len, h.at_.imp id ?_⟩
  rintro ⟨ad, hA, hl, hc⟩
  refine ⟨ad, hA, by simpa using hl, fun i x hi j v hv => ?_⟩
  have hb : ((ad.add (i * 6)).add j).block = ad.block := by rw [Addr.add_add]; unfold Addr.add; split <;> rfl
  rw [World.cell?_of_block (heap_setCell_other w p _ u (by rw [hb]; exact hp ad hA))]
  exact hc i x hi j v hv
theorem own_hops {w : World} {base n : Nat} {v : Value} {l : List Pe.Hop} (h : w.ownsRow base 56 6 v n (hRow l)) (hn : n = l.length) : ∃ A c, v = .slice A n c ∧ HopsAt w A n l ∧ (∀ ad, A = some ad → base ≤ ad.block ∧ ad.block < w.heap.size) := by
  obtain ⟨A, c, rfl, hlc, hcm⟩ := own_shape h
  refine ⟨A, c, rfl, ⟨hn, ?_⟩, ?_⟩
  · by_cases h0 : n = 0
    · left; exact List.eq_nil_of_length_eq_zero (by omega)
    · right
      obtain ⟨g, cap, hv, _, hlt, _⟩ := own_form h (by omega)
      obtain ⟨rfl, _, rfl⟩ : A = some ⟨g, 0, none⟩ ∧ n = n ∧ c = cap := by injection hv with h1 h2 h3; exact ⟨h1, h2, h3⟩
      refine ⟨_, rfl, hlt, fun i x hi j u hj => ?_⟩
      rw [Addr.add_add, Addr.add_mid, Nat.zero_add]
      have := own_range h (i * 6 + j) [u] (fun q v hv => by
        match q, hv with
        | 0, hv => simp at hv; subst hv; simpa using hRow_at hi hj) 0 _ rfl
      simpa using this
  · rintro ad rfl
    rcases h.2 with ⟨hv, _⟩ | ⟨g', cap', cur, hv, hb, hg, _⟩
    · cases hv
    · injection hv with hv _ _
      injection hv with hv
      subst hv
      exact ⟨hb, (Array.getElem?_eq_some_iff.1 hg).1⟩

theorem HopsAt.one {w : World} {A : Option Addr} {n : Nat} {l : List Pe.Hop} (h : HopsAt w A n l) {i : Nat} (hi : i < n) : ∃ x ad, l[i]? = some x ∧ A = some ad ∧ ∀ j v, (hCells x)[j]? = some v → w.cell? ((ad.add (i * 6)).add j) = some v := by
  have hl := h.len
  have hx : l[i]? = some (l[i]'(by omega)) := List.getElem?_eq_getElem (by omega)
  obtain ⟨ad, hA, _, hc⟩ := h.at_.resolve_left (fun e => by rw [e] at hl; simp at hl; omega)
  exact ⟨_, ad, hx, hA, fun j v hv => hc i _ hx j v hv⟩
theorem HopsAt.get {w : World} {ad : Addr} {n : Nat} {l : List Pe.Hop} (h : HopsAt w (some ad) n l) {i : Nat} {x : Pe.Hop} (hx : l[i]? = some x) : ∀ j v, (hCells x)[j]? = some v → w.cell? ((ad.add (i * 6)).add j) = some v := by
  obtain ⟨ad', hA, _, hc⟩ := h.at_.resolve_left (fun e => by rw [e] at hx; simp at hx)
  cases hA
  exact hc i x hx
theorem Pe.follow_cases {l : List Pe.Ent} {c : Pe.Pair} {s d : Int} {R : Pe.Route} {q : Int} (h : (R, q) = Pe.follow l c s d) : (q = 0 ∧ Pe.EndsOk l c R) ∨ (q ≠ 0 ∧ R = Pe.noRoute) := by
  unfold Pe.follow at h
  by_cases ha : Pe.followArg c s d = true
  · rw [if_pos ha] at h
    injection h with h1 h2
    exact .inl ⟨h2, by rw [h1]; exact Pe.follow_ends l c s d (l.length + 2) c [] (Pe.HopsOk.nil c) rfl (Pe.OnWay.start l d c) (by simp)⟩
  · rw [if_neg ha] at h
    injection h with h1 h2
    exact .inr ⟨by rw [h2]; decide, h1⟩

set_option maxRecDepth 1000000 in
set_option maxHeartbeats 8000000 in
theorem ends_law (A : Option Addr) (n c : Nat) (l : List Pe.Ent) (cd : Pe.Pair) (s d : Int) (w : World) (h : EntsAt w A n l) (hL : Laid w) :
    Calls Tryz.prog 11 #[.slice A n c, .agg (pCells cd), .int .i64 s, .int .i64 d] w (Law w) := by
  have H := Lib.hid (And.intro h hL)
  clear h hL
  have hfe := fun w0 => Few_calls A n c w0
  have HFE := Lib.hid hfe
  clear hfe
  go_enter Tryz.func11, Tryz.ntmps11
  unfold pCells
  go_upto_region 1 with fail
  obtain ⟨b, hb⟩ : ∃ b, b = w.heap.size := ⟨_, rfl⟩
  obtain ⟨w1, hw1⟩ : ∃ w1, w1 = w.alloc (.cells (pCells cd) 40) := ⟨_, rfl⟩
  have hb1 : Below w.heap.size w w1 := by rw [hw1]; exact (Below.refl _ w).alloc (Nat.le_refl _) _
  have hc1 : Blk w1 b 40 (pCells cd) := by rw [hw1, hb]; exact Blk.fresh _ _ _
  unfold pCells at hw1
  rw [← hb, ← hw1]
  have H1 := Lib.hid (And.intro hb1 hc1)
  have k0 : w1.cell? ⟨b, 0, none⟩ = some (.int .i64 cd.1) := hc1.cell 0
  have k1 : w1.cell? ⟨b, 1, none⟩ = some (.int .i64 cd.2) := hc1.cell 1
  clear hb1 hc1 hw1 hb
  by_cases hfew : n ≤ 60
  case neg =>
    have d1 : decide (n ≤ 60) = false := by simpa using hfew
    have HD := Lib.hid d1
    clear d1 hfew
    go_wp2_with fail
    refine (HFE.out w1).mono ?_
    rintro e w2 ⟨rfl, rfl⟩
    rw [HD.out]
    dsimp only
    go_wp2_with fail
    refine (alive_calls w2 (H.out.2.below H1.out.1)).mono ?_
    rintro e wy ⟨rfl, hby⟩
    have HY := Lib.hid (H1.out.1.trans (hby.mono H1.out.1.size))
    clear hby
    dsimp only
    go_wp2
    go_ret
    exact ⟨rfl, HY.out⟩
  have d1 : decide (n ≤ 60) = true := by simpa using hfew
  have HD := Lib.hid (And.intro d1 hfew)
  clear d1 hfew
  go_wp2_with fail
  refine (HFE.out w1).mono ?_
  rintro e w2 ⟨rfl, rfl⟩
  rw [HD.out.1]
  dsimp only
  have hfc := Follow_calls A n c l cd s d w2 (H.out.1.below H1.out.1) (by have := HD.out.2; omega)
  unfold pCells at hfc
  have HFC := Lib.hid hfc
  clear hfc
  go_wp2_with fail
  refine HFC.out.mono ?_
  rintro e w3 ⟨⟨v, rfl, ho⟩, hb3⟩
  obtain ⟨⟨R, q⟩, hR⟩ : ∃ z, z = Pe.follow l cd s d := ⟨_, rfl⟩
  have hca := Pe.follow_cases hR
  rw [← hR] at ho ⊢
  dsimp only at ho
  obtain ⟨nh, hnh⟩ : ∃ nh, nh = R.hops.length := ⟨_, rfl⟩
  rw [← hnh] at ho
  obtain ⟨A3, c3, rfl, hHA, hAd⟩ := own_hops ho hnh
  have H3 := Lib.hid (And.intro (H1.out.1.trans (hb3.mono H1.out.1.size)) (And.intro hHA (And.intro hAd (And.intro hnh (H1.out.2.below hb3 H1.out.2.lt)))))
  clear ho hb3 hR hnh hHA hAd k0 k1
  obtain ⟨⟨ep, eq⟩, hep⟩ : ∃ z, z = R.fin := ⟨_, rfl⟩
  obtain ⟨kd, hkd⟩ : ∃ kd, kd = R.kind := ⟨_, rfl⟩
  obtain ⟨bk, hbk⟩ : ∃ bk, bk = R.back := ⟨_, rfl⟩
  unfold rCells
  rw [← hep, ← hkd, ← hbk]
  dsimp only
  have HR := Lib.hid (And.intro hep (And.intro hkd hbk))
  clear hep hkd hbk
  go_upto_region 4 with fail
  obtain ⟨g, hg⟩ : ∃ g, g = w3.heap.size := ⟨_, rfl⟩
  obtain ⟨w4, hw4⟩ : ∃ w4, w4 = w3.alloc (.cells #[.int .u8 (kd : Int), .int .i64 ep, .int .i64 eq, .slice A3 nh c3, .int .i64 (bk : Int)] 51) := ⟨_, rfl⟩
  have hb34 : Below w3.heap.size w3 w4 := by rw [hw4]; exact (Below.refl _ w3).alloc (Nat.le_refl _) _
  have hg4 : Blk w4 g 51 #[.int .u8 (kd : Int), .int .i64 ep, .int .i64 eq, .slice A3 nh c3, .int .i64 (bk : Int)] := by rw [hw4, hg]; exact Blk.fresh _ _ _
  have hag : ∀ ad, A3 = some ad → ad.block < g := fun ad e => by rw [hg]; exact (H3.out.2.2.1 ad e).2
  rw [← hg, ← hw4]
  have H4 := Lib.hid (And.intro (H3.out.1.trans (hb34.mono H3.out.1.size)) (And.intro hg4 (And.intro (H3.out.2.1.below hb34) (And.intro (H3.out.2.2.2.2.below hb34 H3.out.2.2.2.2.lt) hag))))
  clear hb34 hg4 hw4 hg hag
  rcases hca with ⟨rfl, hok⟩ | ⟨hq, rfl⟩
  case inr =>
    have d2 : (q != 0) = true := by simpa using hq
    obtain rfl : kd = 0 := HR.out.2.1
    obtain rfl : nh = 0 := H3.out.2.2.2.1
    clear hq
    go_wp2_with fail
    refine (alive_calls w4 (H.out.2.below H4.out.1)).mono ?_
    rintro e wy ⟨rfl, hby⟩
    have HY := Lib.hid (And.intro (H4.out.1.trans (hby.mono H4.out.1.size)) (H4.out.2.1.below hby H4.out.2.1.lt))
    clear hby
    have k0 : wy.cell? ⟨g, 0, none⟩ = some (.int .u8 0) := HY.out.2.cell 0
    have k3 : wy.cell? ⟨g, 3, none⟩ = some (.slice A3 0 c3) := HY.out.2.cell 3
    dsimp only
    go_wp2
    go_ret
    exact ⟨rfl, HY.out.1⟩
  have HOK := Lib.hid hok
  clear hok
  have k0 : w4.cell? ⟨b, 0, none⟩ = some (.int .i64 cd.1) := H4.out.2.2.2.1.cell 0
  have k1 : w4.cell? ⟨b, 1, none⟩ = some (.int .i64 cd.2) := H4.out.2.2.2.1.cell 1
  go_upto_region 7 with fail
  obtain ⟨a, ha⟩ : ∃ a, a = w4.heap.size := ⟨_, rfl⟩
  obtain ⟨w5, hw5⟩ : ∃ w5, w5 = w4.alloc (.cells (pCells cd) 40) := ⟨_, rfl⟩
  have hb45 : Below w4.heap.size w4 w5 := by rw [hw5]; exact (Below.refl _ w4).alloc (Nat.le_refl _) _
  have ha5 : Blk w5 a 40 (pCells cd) := by rw [hw5, ha]; exact Blk.fresh _ _ _
  have hga : g < a := by rw [ha]; exact H4.out.2.1.lt
  unfold pCells at hw5
  rw [← ha, ← hw5]
  have H5 := Lib.hid (And.intro (H4.out.1.trans (hb45.mono H4.out.1.size)) (And.intro (H4.out.2.1.below hb45 H4.out.2.1.lt) (And.intro (H4.out.2.2.1.below hb45) (And.intro ha5 hga))))
  clear hb45 ha5 hw5 ha hga k0 k1
  have k3 : w5.cell? ⟨g, 3, none⟩ = some (.slice A3 nh c3) := H5.out.2.1.cell 3
  go_wp2_with fail
  clear k3
  have hn61 : nh ≤ 61 := by have h1 := HOK.out.short; have h2 := H3.out.2.2.2.1; have h3 := HD.out.2; have h4 := H.out.1.len; omega
  go_loopg [45] nh (fun q s45 wr => ∃ i : Nat, s45 = .int .i64 (i : Int) ∧ i + q = nh ∧ Hid (Below w.heap.size w wr ∧ Blk wr g 51 #[.int .u8 (kd : Int), .int .i64 ep, .int .i64 eq, .slice A3 nh c3, .int .i64 (bk : Int)] ∧ HopsAt wr A3 nh R.hops ∧ Blk wr a 40 (pCells (Pe.pos cd (R.hops.take i)))))
  case atStart => exact ⟨0, by go_num, by omega, Lib.hid ⟨H5.out.1, H5.out.2.1, H5.out.2.2.1, H5.out.2.2.2.1⟩⟩
  case round =>
    obtain ⟨i, rfl, hi, hR⟩ := hrel
    by_cases hgo : i < nh
    case neg =>
      have hd1 : decide ((i : Int) < (nh : Int)) = false := by simp; omega
      obtain ⟨pp, hpp⟩ : ∃ pp, pp = Pe.pos cd (R.hops.take i) := ⟨_, rfl⟩
      have htk : R.hops.take i = R.hops := List.take_of_length_le (by have := H3.out.2.2.2.1; omega)
      have hP := hR.out.2.2.2
      rw [← hpp] at hP
      have hfin : kd ≠ 5 → (ep, eq) = pp := fun h5 => by
        rw [HR.out.1, hpp, htk]
        exact HOK.out.fin (by rw [← HR.out.2.1]; exact h5)
      have hk16 : 1 ≤ kd ∧ kd ≤ 6 := by rw [HR.out.2.1]; exact HOK.out.kind
      have hb6 : kd ≠ 6 → bk = 0 := fun h6 => by rw [HR.out.2.2]; exact HOK.out.back (by rw [← HR.out.2.1]; exact h6)
      have hlp : kd = 6 → ∃ h, R.hops[bk]? = some h ∧ h.frm = (ep, eq) := fun h6 => by
        rw [HR.out.2.2, HR.out.1]
        exact HOK.out.loop (by rw [← HR.out.2.1]; exact h6)
      have hlen : decide ((n : Int) + 1 < (nh : Int)) = false := by have h1 := HOK.out.short; have h2 := H3.out.2.2.2.1; have h4 := H.out.1.len; simp; omega
      have hn60 : n ≤ 60 := HD.out.2
      have k0 : wr.cell? ⟨g, 0, none⟩ = some (.int .u8 (kd : Int)) := hR.out.2.1.cell 0
      have k1 : wr.cell? ⟨g, 1, none⟩ = some (.int .i64 ep) := hR.out.2.1.cell 1
      have k2 : wr.cell? ⟨g, 2, none⟩ = some (.int .i64 eq) := hR.out.2.1.cell 2
      have k3 : wr.cell? ⟨g, 3, none⟩ = some (.slice A3 nh c3) := hR.out.2.1.cell 3
      have a0 : wr.cell? ⟨a, 0, none⟩ = some (.int .i64 pp.1) := hP.cell 0
      have a1 : wr.cell? ⟨a, 1, none⟩ = some (.int .i64 pp.2) := hP.cell 1
      clear hpp htk hP
      by_cases h5 : kd = 5
      · subst h5
        obtain rfl : bk = 0 := hb6 (by decide)
        clear hk16
        clear hb6 hlp hfin
        go_wp2_with fail
        refine (alive_calls wr (H.out.2.below hR.out.1)).mono ?_
        rintro e wy ⟨rfl, hby⟩
        have HY := Lib.hid (And.intro (hR.out.1.trans (hby.mono hR.out.1.size)) (hR.out.2.1.below hby hR.out.2.1.lt))
        clear hby k0 k1 k2 k3 a0 a1
        have k4 : wy.cell? ⟨g, 4, none⟩ = some (.int .i64 0) := HY.out.2.cell 4
        dsimp only
        go_wp2
        go_ret
        exact ⟨rfl, HY.out.1⟩
      by_cases h6 : kd = 6
      · obtain ⟨y, hy, hyf⟩ := hlp h6
        obtain rfl := hfin h5
        subst h6
        have hnq : ∀ w0, (binOp .neq 40 (.agg #[.int .i64 ep, .int .i64 eq]) (.agg #[.int .i64 ep, .int .i64 eq])).run Tryz.prog w0 = .ok (.bool false) w0 := fun w0 => by
          have := neq_pair (ep, eq) (ep, eq) w0
          rw [show (!decide ((ep, eq) = (ep, eq))) = false by simp] at this
          exact this
        have hbk : bk < nh := by have h1 := (List.getElem?_eq_some_iff.1 hy).1; have := H3.out.2.2.2.1; omega
        have hd3 : decide ((bk : Int) < (nh : Int)) = true := by simp; omega
        have hd4 : decide ((0 : Int) ≤ (bk : Int)) = true := by simp
        have heq : ∀ w0, (binOp .eql 40 (.agg #[.int .i64 ep, .int .i64 eq]) (.agg #[.int .i64 ep, .int .i64 eq])).run Tryz.prog w0 = .ok (.bool true) w0 := fun w0 => by
          have := eql_pair (ep, eq) (ep, eq) w0
          rw [show decide ((ep, eq) = (ep, eq)) = true by simp] at this
          exact this
        obtain ⟨y', ad, _, rfl, _⟩ := hR.out.2.2.1.one hbk
        have HY0 := Lib.hid (And.intro hy (And.intro (show y.frm.1 = ep by rw [hyf]) (show y.frm.2 = eq by rw [hyf])))
        clear hb6 hlp hfin hy hyf h5 hk16
        go_upto_region 23 with fail
        clear k0 k1 k2 k3 a0 a1 hnq
        have hhp : HopsAt wr.drew (some ad) nh R.hops := hR.out.2.2.1.below ((Below.refl _ wr).drew)
        have hrt := hR.out.2.1.drew
        have hpp : ∀ w', HopsAt w' (some ad) nh R.hops → w'.cell? ⟨(ad.add (bk * 6)).block, (ad.add (bk * 6)).off + 1, none⟩ = some (.int .i64 ep) ∧ w'.cell? ⟨(ad.add (bk * 6)).block, (ad.add (bk * 6)).off + 2, none⟩ = some (.int .i64 eq) := fun w' hw' => ⟨(by rw [← HY0.out.2.1]; exact hw'.get HY0.out.1 1 _ rfl), (by rw [← HY0.out.2.2]; exact hw'.get HY0.out.1 2 _ rfl)⟩
        refine wp_region_R (RL [(3, fun w' => w'.cell? ⟨g, 4, none⟩ = some (.int .i64 (bk : Int))), (8, fun w' => w'.cell? ⟨g, 4, none⟩ = some (.int .i64 (bk : Int))), (10, fun w' => w'.cell? ⟨g, 3, none⟩ = some (.slice (some ad) nh c3)), (16, fun w' => w'.cell? ⟨g, 3, none⟩ = some (.slice (some ad) nh c3)), (18, fun w' => w'.cell? ⟨g, 4, none⟩ = some (.int .i64 (bk : Int))), (21, fun w' => w'.cell? ⟨(ad.add (bk * 6)).block, (ad.add (bk * 6)).off + 1, none⟩ = some (.int .i64 ep) ∧ w'.cell? ⟨(ad.add (bk * 6)).block, (ad.add (bk * 6)).off + 2, none⟩ = some (.int .i64 eq)), (23, fun w' => w'.cell? ⟨g, 1, none⟩ = some (.int .i64 ep) ∧ w'.cell? ⟨g, 2, none⟩ = some (.int .i64 eq))]) (by kernel_rfl) (RL_cons (hrt.cell 4) (RL_cons (hrt.cell 4) (RL_cons (hrt.cell 3) (RL_cons (hrt.cell 3) (RL_cons (hrt.cell 4) (RL_cons (hpp _ hhp) (RL_cons ⟨hrt.cell 1, hrt.cell 2⟩ (RL_nil _)))))))) (fun hp => ?_)
        refine wpAnyR_step (i := 0) (o := ⟨some 122, _, _, _, _, _⟩) (by kernel_rfl) rfl (by rfl) (fun K hK => ?_) -- Op.call { callee := Callee.value (Operand.func 15), args := #[], argTypes := #[] }
        go_simp
        refine (alive_calls _ (H.out.2.below hR.out.1.drew)).mono ?_
        rintro e wy ⟨rfl, hby⟩
        show K _ _
        have hS8b := hrt.below hby hrt.lt
        have hS3 := hS8b.cell 4
        have hS8 := hS8b.cell 4
        have hS10 := hS8b.cell 3
        have hS16 := hS8b.cell 3
        have hS18 := hS8b.cell 4
        have hS21 := hpp _ (hhp.below hby)
        have hS23 := And.intro (hS8b.cell 1) (hS8b.cell 2)
        have HYY := Lib.hid (hR.out.1.drew.trans (hby.mono hR.out.1.size))
        clear hby hS8b hhp hrt hpp
        refine hK _ _ (pend_on hS3 (pend_on hS8 (pend_on hS10 (pend_on hS16 (pend_on hS18 (pend_on hS21 (pend_on hS23 pend_nil))))))) (fun hq => ?_)
        clear hp hK K; have hp := hq; clear hq
        try simp only [Act.put, List.setIfInBounds_toArray, List.set_cons_zero, List.set_cons_succ]
        refine wpAnyR_take (i := 1) (oi := ⟨some 123, _, _, _, _, _⟩) (v := ?_) rfl (by kernel_rfl) (by kernel_rfl) (by kernel_rfl) (fun _ _ _ h => h) hp (.inl ⟨by rfl, fun w _ => ?_⟩) (fun hq => ?_)
        rotate_left
        · go_simp
          with_reducible rfl
        clear hp; have hp := hq; clear hq
        try simp only [Act.put, List.setIfInBounds_toArray, List.set_cons_zero, List.set_cons_succ]
        refine wpAnyR_take (i := 2) (oi := ⟨some 124, _, _, _, _, _⟩) (v := ?_) rfl (by kernel_rfl) (by kernel_rfl) (by kernel_rfl) (fun _ _ _ h => h) hp (.inl ⟨by rfl, fun w _ => ?_⟩) (fun hq => ?_)
        rotate_left
        · go_simp
          with_reducible rfl
        clear hp; have hp := hq; clear hq
        try simp only [Act.put, List.setIfInBounds_toArray, List.set_cons_zero, List.set_cons_succ]
        refine wpAnyR_take (i := 3) (oi := ⟨some 125, _, _, _, _, _⟩) (v := ?_) rfl (by kernel_rfl) (by kernel_rfl) (by kernel_rfl) (fun _ _ _ h => h) hp (.inl ⟨by rfl, fun w hR => ?_⟩) (fun hq => ?_)
        rotate_left
        · have hR := hR.1 rfl
          (try dsimp only at hR)
          go_simp
          with_reducible rfl
        clear hp; have hp := hq; clear hq
        try simp only [Act.put, List.setIfInBounds_toArray, List.set_cons_zero, List.set_cons_succ]
        refine wpAnyR_take (i := 4) (oi := ⟨some 126, _, _, _, _, _⟩) (v := ?_) rfl (by kernel_rfl) (by kernel_rfl) (by kernel_rfl) (fun _ _ _ h => h) hp (.inl ⟨by rfl, fun w _ => ?_⟩) (fun hq => ?_)
        rotate_left
        · go_simp
          with_reducible rfl
        clear hp; have hp := hq; clear hq
        try simp only [Act.put, List.setIfInBounds_toArray, List.set_cons_zero, List.set_cons_succ]
        refine wpAnyR_take (i := 5) (oi := ⟨some 127, _, _, _, _, _⟩) (v := ?_) rfl (by kernel_rfl) (by kernel_rfl) (by kernel_rfl) (fun _ _ _ h => h) hp (.inl ⟨by rfl, fun w _ => ?_⟩) (fun hq => ?_)
        rotate_left
        · go_simp
          with_reducible rfl
        clear hp; have hp := hq; clear hq
        try simp only [Act.put, List.setIfInBounds_toArray, List.set_cons_zero, List.set_cons_succ]
        refine wpAnyR_take (i := 6) (oi := ⟨some 128, _, _, _, _, _⟩) (v := ?_) rfl (by kernel_rfl) (by kernel_rfl) (by kernel_rfl) (fun _ _ _ h => h) hp (.inl ⟨by rfl, fun w _ => ?_⟩) (fun hq => ?_)
        rotate_left
        · go_simp
          with_reducible rfl
        clear hp; have hp := hq; clear hq
        try simp only [Act.put, List.setIfInBounds_toArray, List.set_cons_zero, List.set_cons_succ]
        refine wpAnyR_take (i := 7) (oi := ⟨some 129, _, _, _, _, _⟩) (v := ?_) rfl (by kernel_rfl) (by kernel_rfl) (by kernel_rfl) (fun _ _ _ h => h) hp (.inl ⟨by rfl, fun w _ => ?_⟩) (fun hq => ?_)
        rotate_left
        · go_simp
          with_reducible rfl
        clear hp; have hp := hq; clear hq
        try simp only [Act.put, List.setIfInBounds_toArray, List.set_cons_zero, List.set_cons_succ]
        refine wpAnyR_take (i := 8) (oi := ⟨some 130, _, _, _, _, _⟩) (v := ?_) rfl (by kernel_rfl) (by kernel_rfl) (by kernel_rfl) (fun _ _ _ h => h) hp (.inl ⟨by rfl, fun w hR => ?_⟩) (fun hq => ?_)
        rotate_left
        · have hR := hR.2.1 rfl
          (try dsimp only at hR)
          go_simp
          with_reducible rfl
        clear hp; have hp := hq; clear hq
        try simp only [Act.put, List.setIfInBounds_toArray, List.set_cons_zero, List.set_cons_succ]
        refine wpAnyR_take (i := 9) (oi := ⟨some 131, _, _, _, _, _⟩) (v := ?_) rfl (by kernel_rfl) (by kernel_rfl) (by kernel_rfl) (fun _ _ _ h => h) hp (.inl ⟨by rfl, fun w _ => ?_⟩) (fun hq => ?_)
        rotate_left
        · go_simp
          with_reducible rfl
        clear hp; have hp := hq; clear hq
        try simp only [Act.put, List.setIfInBounds_toArray, List.set_cons_zero, List.set_cons_succ]
        refine wpAnyR_take (i := 10) (oi := ⟨some 132, _, _, _, _, _⟩) (v := ?_) rfl (by kernel_rfl) (by kernel_rfl) (by kernel_rfl) (fun _ _ _ h => h) hp (.inl ⟨by rfl, fun w hR => ?_⟩) (fun hq => ?_)
        rotate_left
        · have hR := hR.2.2.1 rfl
          (try dsimp only at hR)
          go_simp
          with_reducible rfl
        clear hp; have hp := hq; clear hq
        try simp only [Act.put, List.setIfInBounds_toArray, List.set_cons_zero, List.set_cons_succ]
        refine wpAnyR_take (i := 11) (oi := ⟨some 133, _, _, _, _, _⟩) (v := ?_) rfl (by kernel_rfl) (by kernel_rfl) (by kernel_rfl) (fun _ _ _ h => h) hp (.inl ⟨by rfl, fun w _ => ?_⟩) (fun hq => ?_)
        rotate_left
        · go_simp
          with_reducible rfl
        clear hp; have hp := hq; clear hq
        try simp only [Act.put, List.setIfInBounds_toArray, List.set_cons_zero, List.set_cons_succ]
        refine wpAnyR_take (i := 12) (oi := ⟨some 134, _, _, _, _, _⟩) (v := ?_) rfl (by kernel_rfl) (by kernel_rfl) (by kernel_rfl) (fun _ _ _ h => h) hp (.inl ⟨by rfl, fun w _ => ?_⟩) (fun hq => ?_)
        rotate_left
        · go_simp
          with_reducible rfl
        clear hp; have hp := hq; clear hq
        try simp only [Act.put, List.setIfInBounds_toArray, List.set_cons_zero, List.set_cons_succ]
        refine wpAnyR_take (i := 13) (oi := ⟨some 135, _, _, _, _, _⟩) (v := ?_) rfl (by kernel_rfl) (by kernel_rfl) (by kernel_rfl) (fun _ _ _ h => h) hp (.inl ⟨by rfl, fun w _ => ?_⟩) (fun hq => ?_)
        rotate_left
        · go_simp
          with_reducible rfl
        clear hp; have hp := hq; clear hq
        try simp only [Act.put, List.setIfInBounds_toArray, List.set_cons_zero, List.set_cons_succ]
        refine wpAnyR_take (i := 14) (oi := ⟨some 136, _, _, _, _, _⟩) (v := ?_) rfl (by kernel_rfl) (by kernel_rfl) (by kernel_rfl) (fun _ _ _ h => h) hp (.inl ⟨by rfl, fun w _ => ?_⟩) (fun hq => ?_)
        rotate_left
        · go_simp
          with_reducible rfl
        clear hp; have hp := hq; clear hq
        try simp only [Act.put, List.setIfInBounds_toArray, List.set_cons_zero, List.set_cons_succ]
        refine wpAnyR_take (i := 15) (oi := ⟨some 137, _, _, _, _, _⟩) (v := ?_) rfl (by kernel_rfl) (by kernel_rfl) (by kernel_rfl) (fun _ _ _ h => h) hp (.inl ⟨by rfl, fun w _ => ?_⟩) (fun hq => ?_)
        rotate_left
        · go_simp
          with_reducible rfl
        clear hp; have hp := hq; clear hq
        try simp only [Act.put, List.setIfInBounds_toArray, List.set_cons_zero, List.set_cons_succ]
        refine wpAnyR_take (i := 16) (oi := ⟨some 138, _, _, _, _, _⟩) (v := ?_) rfl (by kernel_rfl) (by kernel_rfl) (by kernel_rfl) (fun _ _ _ h => h) hp (.inl ⟨by rfl, fun w hR => ?_⟩) (fun hq => ?_)
        rotate_left
        · have hR := hR.2.2.2.1 rfl
          (try dsimp only at hR)
          go_simp
          with_reducible rfl
        clear hp; have hp := hq; clear hq
        try simp only [Act.put, List.setIfInBounds_toArray, List.set_cons_zero, List.set_cons_succ]
        refine wpAnyR_take (i := 17) (oi := ⟨some 139, _, _, _, _, _⟩) (v := ?_) rfl (by kernel_rfl) (by kernel_rfl) (by kernel_rfl) (fun _ _ _ h => h) hp (.inl ⟨by rfl, fun w _ => ?_⟩) (fun hq => ?_)
        rotate_left
        · go_simp
          with_reducible rfl
        clear hp; have hp := hq; clear hq
        try simp only [Act.put, List.setIfInBounds_toArray, List.set_cons_zero, List.set_cons_succ]
        refine wpAnyR_take (i := 18) (oi := ⟨some 140, _, _, _, _, _⟩) (v := ?_) rfl (by kernel_rfl) (by kernel_rfl) (by kernel_rfl) (fun _ _ _ h => h) hp (.inl ⟨by rfl, fun w hR => ?_⟩) (fun hq => ?_)
        rotate_left
        · have hR := hR.2.2.2.2.1 rfl
          (try dsimp only at hR)
          go_simp
          with_reducible rfl
        clear hp; have hp := hq; clear hq
        try simp only [Act.put, List.setIfInBounds_toArray, List.set_cons_zero, List.set_cons_succ]
        refine wpAnyR_take (i := 19) (oi := ⟨some 141, _, _, _, _, _⟩) (v := ?_) rfl (by kernel_rfl) (by kernel_rfl) (by kernel_rfl) (fun _ _ _ h => h) hp (.inl ⟨by rfl, fun w _ => ?_⟩) (fun hq => ?_)
        rotate_left
        · go_simp
          with_reducible rfl
        clear hp; have hp := hq; clear hq
        try simp only [Act.put, List.setIfInBounds_toArray, List.set_cons_zero, List.set_cons_succ]
        refine wpAnyR_take (i := 20) (oi := ⟨some 142, _, _, _, _, _⟩) (v := ?_) rfl (by kernel_rfl) (by kernel_rfl) (by kernel_rfl) (fun _ _ _ h => h) hp (.inl ⟨by rfl, fun w _ => ?_⟩) (fun hq => ?_)
        rotate_left
        · go_simp
          with_reducible rfl
        clear hp; have hp := hq; clear hq
        try simp only [Act.put, List.setIfInBounds_toArray, List.set_cons_zero, List.set_cons_succ]
        refine wpAnyR_take (i := 21) (oi := ⟨some 143, _, _, _, _, _⟩) (v := ?_) rfl (by kernel_rfl) (by kernel_rfl) (by kernel_rfl) (fun _ _ _ h => h) hp (.inl ⟨by rfl, fun w hR => ?_⟩) (fun hq => ?_)
        rotate_left
        · have hR := hR.2.2.2.2.2.1 rfl
          (try dsimp only at hR)
          obtain ⟨h1, h2⟩ := hR
          go_simp
          with_reducible rfl
        clear hp; have hp := hq; clear hq
        try simp only [Act.put, List.setIfInBounds_toArray, List.set_cons_zero, List.set_cons_succ]
        refine wpAnyR_take (i := 22) (oi := ⟨some 144, _, _, _, _, _⟩) (v := ?_) rfl (by kernel_rfl) (by kernel_rfl) (by kernel_rfl) (fun _ _ _ h => h) hp (.inl ⟨by rfl, fun w _ => ?_⟩) (fun hq => ?_)
        rotate_left
        · go_simp
          with_reducible rfl
        clear hp; have hp := hq; clear hq
        try simp only [Act.put, List.setIfInBounds_toArray, List.set_cons_zero, List.set_cons_succ]
        refine wpAnyR_take (i := 23) (oi := ⟨some 145, _, _, _, _, _⟩) (v := ?_) rfl (by kernel_rfl) (by kernel_rfl) (by kernel_rfl) (fun _ _ _ h => h) hp (.inl ⟨by rfl, fun w hR => ?_⟩) (fun hq => ?_)
        rotate_left
        · have hR := hR.2.2.2.2.2.2.1 rfl
          (try dsimp only at hR)
          obtain ⟨h1, h2⟩ := hR
          go_simp
          with_reducible rfl
        clear hp; have hp := hq; clear hq
        try simp only [Act.put, List.setIfInBounds_toArray, List.set_cons_zero, List.set_cons_succ]
        refine wpAnyR_take (i := 24) (oi := ⟨some 146, _, _, _, _, _⟩) (v := ?_) rfl (by kernel_rfl) (by kernel_rfl) (by kernel_rfl) (fun _ _ _ h => h) hp (.inl ⟨by rfl, fun w _ => ?_⟩) (fun hq => ?_)
        rotate_left
        · go_simp
          with_reducible rfl
        clear hp; have hp := hq; clear hq
        try simp only [Act.put, List.setIfInBounds_toArray, List.set_cons_zero, List.set_cons_succ]
        refine wpAnyR_take (i := 25) (oi := ⟨some 147, _, _, _, _, _⟩) (v := ?_) rfl (by kernel_rfl) (by kernel_rfl) (by kernel_rfl) (fun _ _ _ h => h) hp (.inl ⟨by rfl, fun w _ => ?_⟩) (fun hq => ?_)
        rotate_left
        · go_simp
          with_reducible rfl
        clear hp; have hp := hq; clear hq
        try simp only [Act.put, List.setIfInBounds_toArray, List.set_cons_zero, List.set_cons_succ]
        refine wpAnyR_take (i := 26) (oi := ⟨some 8, _, _, _, _, _⟩) (v := ?_) rfl (by kernel_rfl) (by kernel_rfl) (by kernel_rfl) (fun _ _ _ h => h) hp (.inl ⟨by rfl, fun w _ => ?_⟩) (fun hq => ?_)
        rotate_left
        · go_simp
          with_reducible rfl
        clear hp; have hp := hq; clear hq
        try simp only [Act.put, List.setIfInBounds_toArray, List.set_cons_zero, List.set_cons_succ]
        refine wpAnyR_done (by kernel_rfl) ?_ _
        clear hp
        all_goals
          go_wp2
          go_ret
          exact ⟨rfl, HYY.out⟩
      obtain rfl : bk = 0 := hb6 h6
      obtain rfl := hfin h5
      have hnq : ∀ w0, (binOp .neq 40 (.agg #[.int .i64 ep, .int .i64 eq]) (.agg #[.int .i64 ep, .int .i64 eq])).run Tryz.prog w0 = .ok (.bool false) w0 := fun w0 => by
        have := neq_pair (ep, eq) (ep, eq) w0
        rw [show (!decide ((ep, eq) = (ep, eq))) = false by simp] at this
        exact this
      have hkk : kd = 1 ∨ kd = 2 ∨ kd = 3 ∨ kd = 4 := by omega
      clear h5 h6 hk16
      rcases hkk with rfl | rfl | rfl | rfl
      · skip
        clear hb6 hlp hfin
        go_wp2_with fail
        refine (alive_calls wr (H.out.2.below hR.out.1)).mono ?_
        rintro e wy ⟨rfl, hby⟩
        have HY := Lib.hid (And.intro (hR.out.1.trans (hby.mono hR.out.1.size)) (hR.out.2.1.below hby hR.out.2.1.lt))
        clear hby k0 k1 k2 k3 a0 a1
        have k4 : wy.cell? ⟨g, 4, none⟩ = some (.int .i64 0) := HY.out.2.cell 4
        dsimp only
        go_wp2
        go_ret
        exact ⟨rfl, HY.out.1⟩
      · skip
        clear hb6 hlp hfin
        go_wp2_with fail
        refine (alive_calls wr (H.out.2.below hR.out.1)).mono ?_
        rintro e wy ⟨rfl, hby⟩
        have HY := Lib.hid (And.intro (hR.out.1.trans (hby.mono hR.out.1.size)) (hR.out.2.1.below hby hR.out.2.1.lt))
        clear hby k0 k1 k2 k3 a0 a1
        have k4 : wy.cell? ⟨g, 4, none⟩ = some (.int .i64 0) := HY.out.2.cell 4
        dsimp only
        go_wp2
        go_ret
        exact ⟨rfl, HY.out.1⟩
      · skip
        clear hb6 hlp hfin
        go_wp2_with fail
        refine (alive_calls wr (H.out.2.below hR.out.1)).mono ?_
        rintro e wy ⟨rfl, hby⟩
        have HY := Lib.hid (And.intro (hR.out.1.trans (hby.mono hR.out.1.size)) (hR.out.2.1.below hby hR.out.2.1.lt))
        clear hby k0 k1 k2 k3 a0 a1
        have k4 : wy.cell? ⟨g, 4, none⟩ = some (.int .i64 0) := HY.out.2.cell 4
        dsimp only
        go_wp2
        go_ret
        exact ⟨rfl, HY.out.1⟩
      · skip
        clear hb6 hlp hfin
        go_wp2_with fail
        refine (alive_calls wr (H.out.2.below hR.out.1)).mono ?_
        rintro e wy ⟨rfl, hby⟩
        have HY := Lib.hid (And.intro (hR.out.1.trans (hby.mono hR.out.1.size)) (hR.out.2.1.below hby hR.out.2.1.lt))
        clear hby k0 k1 k2 k3 a0 a1
        have k4 : wy.cell? ⟨g, 4, none⟩ = some (.int .i64 0) := HY.out.2.cell 4
        dsimp only
        go_wp2
        go_ret
        exact ⟨rfl, HY.out.1⟩
    have hd1 : decide ((i : Int) < (nh : Int)) = true := by simp; omega
    obtain ⟨x, ad, hx, rfl, hcw⟩ := hR.out.2.2.1.one hgo
    have p0 : wr.cell? (ad.add (i * 6)) = some (.int .u8 (x.kind : Int)) := hcw 0 _ rfl
    have p1 : wr.cell? ⟨(ad.add (i * 6)).block, (ad.add (i * 6)).off + 1, none⟩ = some (.int .i64 x.frm.1) := hcw 1 _ rfl
    have p2 : wr.cell? ⟨(ad.add (i * 6)).block, (ad.add (i * 6)).off + 2, none⟩ = some (.int .i64 x.frm.2) := hcw 2 _ rfl
    have p3 : wr.cell? ⟨(ad.add (i * 6)).block, (ad.add (i * 6)).off + 3, none⟩ = some (.int .i64 x.to.1) := hcw 3 _ rfl
    have p4 : wr.cell? ⟨(ad.add (i * 6)).block, (ad.add (i * 6)).off + 4, none⟩ = some (.int .i64 x.to.2) := hcw 4 _ rfl
    have p5 : wr.cell? ⟨(ad.add (i * 6)).block, (ad.add (i * 6)).off + 5, none⟩ = some (.int .i64 x.order) := hcw 5 _ rfl
    have HX := Lib.hid hx
    clear hx hcw
    go_upto_region 10 with fail
    obtain ⟨hb, hhb⟩ : ∃ hb, hb = wr.heap.size := ⟨_, rfl⟩
    obtain ⟨w6, hw6⟩ : ∃ w6, w6 = wr.alloc (.cells (hCells x) 56) := ⟨_, rfl⟩
    have hb6 : Below wr.heap.size wr w6 := by rw [hw6]; exact (Below.refl _ wr).alloc (Nat.le_refl _) _
    have hh6 : Blk w6 hb 56 (hCells x) := by rw [hw6, hhb]; exact Blk.fresh _ _ _
    have hap := hR.out.2.2.2
    rw [← HOK.out.hops.chain i x HX.out] at hap
    have hah : a < hb := by rw [hhb]; exact hap.lt
    unfold hCells at hw6
    rw [← hhb, ← hw6]
    have H6 := Lib.hid (And.intro (hR.out.1.trans (hb6.mono hR.out.1.size)) (And.intro (hR.out.2.1.below hb6 hR.out.2.1.lt) (And.intro (hR.out.2.2.1.below hb6) (And.intro (hap.below hb6 hap.lt) (And.intro hh6 hah)))))
    clear hb6 hh6 hap hw6 hhb hah p0 p1 p2 p3 p4 p5
    have hkd := HOK.out.hops.kind x (List.mem_of_getElem? HX.out)
    have HKD := Lib.hid hkd
    clear hkd
    go_cut [45, 73] from 45 to 90 (fun s45 s73 wx => s45 = .int .i64 (i : Int) ∧ s73 = .bool false ∧ wx = w6)
    case first =>
      have a0 : w6.cell? ⟨a, 0, none⟩ = some (.int .i64 x.frm.1) := H6.out.2.2.2.1.cell 0
      have a1 : w6.cell? ⟨a, 1, none⟩ = some (.int .i64 x.frm.2) := H6.out.2.2.2.1.cell 1
      have h0 : w6.cell? ⟨hb, 0, none⟩ = some (.int .u8 (x.kind : Int)) := H6.out.2.2.2.2.1.cell 0
      have h1 : w6.cell? ⟨hb, 1, none⟩ = some (.int .i64 x.frm.1) := H6.out.2.2.2.2.1.cell 1
      have h2 : w6.cell? ⟨hb, 2, none⟩ = some (.int .i64 x.frm.2) := H6.out.2.2.2.2.1.cell 2
      have h5 : w6.cell? ⟨hb, 5, none⟩ = some (.int .i64 x.order) := H6.out.2.2.2.2.1.cell 5
      have hnq : ∀ w0, (binOp .neq 40 (.agg #[.int .i64 x.frm.1, .int .i64 x.frm.2]) (.agg #[.int .i64 x.frm.1, .int .i64 x.frm.2])).run Tryz.prog w0 = .ok (.bool false) w0 := fun w0 => by
        have := neq_pair x.frm x.frm w0
        rw [show (!decide (x.frm = x.frm)) = false by simp] at this
        exact this
      rcases HKD.out with hk | ⟨hk, hor⟩
      · rw [hk] at h0
        clear hk
        go_wp2
        go_meet
        exact ⟨rfl, rfl, rfl⟩
      · rw [hk] at h0
        rw [hor] at h5
        clear hk hor
        go_wp2
        go_meet
        exact ⟨rfl, rfl, rfl⟩
    case rest =>
    obtain ⟨rfl, rfl, rfl⟩ := hcut
    apply_assumption
    go_wp2_with fail
    go_loopg [75] i (fun q s75 wr => ∃ k : Nat, s75 = .int .i64 (k : Int) ∧ k + q = i ∧ Hid (Below w.heap.size w wr ∧ Blk wr g 51 #[.int .u8 (kd : Int), .int .i64 ep, .int .i64 eq, .slice (some ad) nh c3, .int .i64 (bk : Int)] ∧ HopsAt wr (some ad) nh R.hops ∧ Blk wr a 40 (pCells x.frm) ∧ Blk wr hb 56 (hCells x)))
    case atStart => exact ⟨0, by go_num, by omega, Lib.hid ⟨H6.out.1, H6.out.2.1, H6.out.2.2.1, H6.out.2.2.2.1, H6.out.2.2.2.2.1⟩⟩
    case round =>
      obtain ⟨k, rfl, hk, hK⟩ := hrel
      by_cases hgk : k < i
      case neg =>
        have hd2 : decide ((k : Int) < (i : Int)) = false := by simp; omega
        have a0 : wr.cell? ⟨a, 0, none⟩ = some (.int .i64 x.frm.1) := hK.out.2.2.2.1.cell 0
        have a1 : wr.cell? ⟨a, 1, none⟩ = some (.int .i64 x.frm.2) := hK.out.2.2.2.1.cell 1
        have af0 := hK.out.2.2.2.1.frozen 0
        have af1 := hK.out.2.2.2.1.frozen 1
        have al : a < wr.heap.size := hK.out.2.2.2.1.lt
        have h3 : wr.cell? ⟨hb, 3, none⟩ = some (.int .i64 x.to.1) := hK.out.2.2.2.2.cell 3
        have h4 : wr.cell? ⟨hb, 4, none⟩ = some (.int .i64 x.to.2) := hK.out.2.2.2.2.cell 4
        go_wp2
        go_roundg (nh - i - 1)
        case measure => omega
        case rel =>
          have hga := H5.out.2.2.2.2
          have hag := H4.out.2.2.2.2 ad rfl
          have hsz : w.heap.size ≤ a := by have h1 := H4.out.1.size; have h2 := H4.out.2.1.lt; have h3 := H3.out.1.size; have h4 := (H3.out.2.2.1 ad rfl).1; have := H1.out.1.size; omega
          refine ⟨i + 1, by go_num, by omega, Lib.hid ⟨(hK.out.1.setCell (p := ⟨a, 0, none⟩) hsz _).setCell (p := ⟨a, 1, none⟩) hsz _, (hK.out.2.1.far (by simp; omega) _).far (by simp; omega) _, (hK.out.2.2.1.set (fun ad' e => by cases e; simp only [ne_eq]; omega) _).set (fun ad' e => by cases e; simp only [ne_eq]; omega) _, ?_⟩⟩
          rw [List.take_add_one, HX.out, Option.toList_some, Pe.pos_snoc]
          exact (hK.out.2.2.2.1.put 0 _).put 1 _
      have hd2 : decide ((k : Int) < (i : Int)) = true := by simp; omega
      obtain ⟨y, ad', hy, e1, hcy⟩ := hK.out.2.2.1.one (i := k) (by omega)
      obtain rfl : ad = ad' := by injection e1
      have p1 : wr.cell? ⟨(ad.add (k * 6)).block, (ad.add (k * 6)).off + 1, none⟩ = some (.int .i64 y.frm.1) := hcy 1 _ rfl
      have p2 : wr.cell? ⟨(ad.add (k * 6)).block, (ad.add (k * 6)).off + 2, none⟩ = some (.int .i64 y.frm.2) := hcy 2 _ rfl
      have h1 : wr.cell? ⟨hb, 1, none⟩ = some (.int .i64 x.frm.1) := hK.out.2.2.2.2.cell 1
      have h2 : wr.cell? ⟨hb, 2, none⟩ = some (.int .i64 x.frm.2) := hK.out.2.2.2.2.cell 2
      have k3 : wr.cell? ⟨g, 3, none⟩ = some (.slice (some ad) nh c3) := hK.out.2.1.cell 3
      have hne : y.frm ≠ x.frm := fun e => by
        have hnd := HOK.out.nodup
        have h1 : (R.hops.map (·.frm))[k]? = some x.frm := by rw [List.getElem?_map, hy, ← e]; rfl
        have h2 : (R.hops.map (·.frm))[i]? = some x.frm := by rw [List.getElem?_map, HX.out]; rfl
        obtain ⟨q1, q2⟩ := List.getElem?_eq_some_iff.1 h1
        obtain ⟨q3, q4⟩ := List.getElem?_eq_some_iff.1 h2
        exact List.pairwise_iff_getElem.1 hnd k i q1 q3 hgk (q2.trans q4.symm)
      have heq : ∀ w0, (binOp .eql 40 (.agg #[.int .i64 y.frm.1, .int .i64 y.frm.2]) (.agg #[.int .i64 x.frm.1, .int .i64 x.frm.2])).run Tryz.prog w0 = .ok (.bool false) w0 := fun w0 => by
        have := eql_pair y.frm x.frm w0
        rw [show decide (y.frm = x.frm) = false by simpa using hne] at this
        exact this
      have hkn : k < nh := by omega
      clear hy hcy e1 hne
      go_wp2_with fail
      go_quiet (fail)
      go_wp2
      go_roundg (gk - 1)
      case measure => omega
      case rel => exact ⟨k + 1, by go_num, by omega, Lib.hid ⟨hK.out.1.trans ((below_drewN _ _).mono hK.out.1.size), hK.out.2.1.below (below_drewN _ _) hK.out.2.1.lt, hK.out.2.2.1.below (below_drewN _ _), hK.out.2.2.2.1.below (below_drewN _ _) hK.out.2.2.2.1.lt, hK.out.2.2.2.2.below (below_drewN _ _) hK.out.2.2.2.2.lt⟩⟩

end Go.Proofs.YtfalajomfcfliaaGreatDoor
