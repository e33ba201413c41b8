/-
  The reference's added, Places and Lives, walked.
-/
import Derived.Test.YtnphlekailodkaaGreatDoorRp2
import Derived.Test.YtnphlekailodkaaGreatDoorFr0
import Derived.Test.YtnphlekailodkaaGreatDoorPz
import Derived.Deep.AppendLies
import Derived.Deep.QuietTactic
import Derived.BigQuiet
namespace Go.Proofs.YtnphlekailodkaaGreatDoor
open Go.RowKit

theorem infoIntR : (Tryz.prog.info? 3).map (fun i => (i.zero, i.size, i.bytes)) = some (some (.int .i64 0), 1, 8) := by kernel_rfl
def nRow (l : List Int) : List Value := l.map fun n => Value.int .i64 n
theorem nRow_snoc (l : List Int) (v : Int) : nRow (l ++ [v]) = nRow l ++ [.int .i64 v] := by simp [nRow]
/-- A list of numbers in memory. -/
structure NumsAt (w : World) (A : Option Addr) (n : Nat) (l : List Int) : Prop where
  len : n = l.length
  at_ : l = [] ∨ ∃ ad, A = some ad ∧ ad.block < w.heap.size ∧ ∀ i x, l[i]? = some x → w.cell? (ad.add i) = some (.int .i64 x)
theorem NumsAt.below {w w' : World} {A : Option Addr} {n : Nat} {l : List Int} (h : NumsAt w A n l) (hb : Below w.heap.size w w') : NumsAt w' A n l := by
  refine ⟨h.len, h.at_.imp id ?_⟩
  rintro ⟨ad, hA, hl, hc⟩
  refine ⟨ad, hA, Nat.lt_of_lt_of_le hl hb.size, fun i x hi => ?_⟩
  rw [hb.cell (by unfold Addr.add; split <;> exact hl)]
  exact hc i x hi
theorem NumsAt.one {w : World} {A : Option Addr} {n : Nat} {l : List Int} (h : NumsAt w A n l) {i : Nat} (hi : i < n) : ∃ x ad, l[i]? = some x ∧ A = some ad ∧ w.cell? (ad.add i) = some (.int .i64 x) := by
  have hl := h.len
  have hx : l[i]? = some (l[i]'(by omega)) := List.getElem?_eq_getElem (by omega)
  obtain ⟨ad, hA, _, hc⟩ := h.at_.resolve_left (fun e => by rw [e] at hl; simp at hl; omega)
  exact ⟨_, ad, hx, hA, hc i _ hx⟩
theorem own_nums {w : World} {base n : Nat} {v : Value} {l : List Int} (h : w.ownsRow base 3 1 v n (nRow l)) (hn : n = l.length) : ∃ A c, v = .slice A n c ∧ NumsAt w A n l := by
  obtain ⟨A, c, rfl, hlc, hcm⟩ := own_shape h
  refine ⟨A, c, rfl, hn, ?_⟩
  by_cases h0 : n = 0
  · left; exact List.eq_nil_of_length_eq_zero (by omega)
  · right
    obtain ⟨g, cap, hv, _, hlt, _⟩ := own_form h (by omega)
    obtain ⟨rfl, _, rfl⟩ : A = some ⟨g, 0, none⟩ ∧ n = n ∧ c = cap := by injection hv with h1 h2 h3; exact ⟨h1, h2, h3⟩
    refine ⟨_, rfl, hlt, fun i x hi => ?_⟩
    have := own_range h i [.int .i64 x] (fun q u hu => by
      match q, hu with
      | 0, hu =>
        simp at hu
        subst hu
        simp [nRow, hi]) 0 _ rfl
    simpa [Addr.add_mid] using this
theorem Pe.take_ge {l : List Int} {i : Nat} {y : Int} (h : l[i]? = some y) : l.take (i + 1) = l.take i ++ [y] := by rw [List.take_add_one, h]; rfl

set_option maxRecDepth 1000000 in
set_option maxHeartbeats 8000000 in
theorem radded_calls (A : Option Addr) (m c : Nat) (l : List Int) (k : Int) (w : World) (h : NumsAt w A m l) (hm : m ≤ 100000) :
    Calls Tryz.prog 60 #[.slice A m c, .int .i64 k] w fun e w' => ∃ v, e = .returned v ∧ w'.ownsRow w.heap.size 3 1 v (Pe.ins k l).length (nRow (Pe.ins k l)) ∧ Below w.heap.size w w' := by
  obtain ⟨i0, hi0, hz0, hz1, hz2⟩ := info_parts infoIntR
  have HI0 := Lib.hid (And.intro hi0 (And.intro hz0 (And.intro hz1 hz2)))
  have H := Lib.hid h
  clear hi0 hz0 hz1 hz2 h
  go_enter Tryz.func60, Tryz.ntmps60
  go_wp2_with fail
  go_loopg [5, 6, 7] m (fun q s5 s6 s7 wr => ∃ (i : Nat) (dn : Bool) (o : List Int) (A' : Option Addr) (n' c' : Nat), s5 = .slice A' n' c' ∧ s6 = .bool dn ∧ s7 = .int .i64 (i : Int) ∧ i + q = m ∧ n' ≤ i + 1 ∧ Hid (n' = o.length ∧ Below w.heap.size w wr ∧ wr.ownsRow w.heap.size 3 1 (.slice A' n' c') n' (nRow o) ∧ (dn = false → o = l.take i ∧ ∀ x ∈ l.take i, x < k) ∧ (dn = true → o = Pe.ins k (l.take i) ∧ ∃ x ∈ l.take i, k ≤ x)))
  case atStart => exact ⟨0, false, [], none, 0, 0, rfl, rfl, rfl, by omega, by omega, Lib.hid ⟨rfl, Below.refl _ _, World.ownsRow_nil _ _ _ _, fun _ => ⟨by simp, by simp⟩, fun e => by cases e⟩⟩
  case round =>
    obtain ⟨i, dn, o, A', n', c', rfl, rfl, rfl, hi, hn', hR⟩ := hrel
    by_cases hgo : i < m
    case neg =>
      have hd1 : decide ((i : Int) < (m : Int)) = false := by simp; omega
      have htk : l.take i = l := List.take_of_length_le (by have := H.out.len; omega)
      have HTK := Lib.hid htk
      clear htk
      cases dn
      · have hins : Pe.ins k l = o ++ [k] := by
          obtain ⟨h1, h2⟩ := hR.out.2.2.2.1 (by simp)
          rw [HTK.out] at h1 h2
          have := Pe.ins_less [] h2
          rw [List.append_nil] at this
          rw [this, h1]; rfl
        have HINS := Lib.hid hins
        clear hins
        go_wp2_with (at_builtin; refine wpList_append_lies _ rfl _ _ 42 rfl w.heap.size 3 i0 _ 1 8 Tryz.underlying42 HI0.out.1 HI0.out.2.1 HI0.out.2.2.1 HI0.out.2.2.2 (by rfl) (by decide) (.slice A' n' c') n' (nRow o) rfl (own_below hR.out.2.2.1 ((Below.refl _ wr).alloc (Nat.le_refl _) _)) ⟨wr.heap.size, 0, none⟩ 1 1 [.int .i64 k] rfl rfl (World.news_of_block (cs := #[.int .i64 k]) (t := 3) (fr := (0, 0)) (heap_alloc_new wr _)) ?o1 (by decide) ?o2 ?o3 ?o4 _ rfl ?_)
        case o1 => simp [Value.oneCell']
        case o2 => simp only [maxLen]; omega
        case o3 => omega
        case o4 => have := hR.out.2.1.size; simp; omega
        intro gn1 cn1 W1 hown hgr _ hlt
        have HA1 := Lib.hid (And.intro (show W1.ownsRow w.heap.size 3 1 (.slice (some ⟨gn1, 0, none⟩) (n' + 1) cn1) (n' + 1) (nRow (o ++ [k])) by rw [nRow_snoc]; exact hown) ((hR.out.2.1.alloc hR.out.2.1.size _).grown hgr (hR.out.2.1.alloc hR.out.2.1.size _).size (fun z hz => (hR.out.2.2.1.lt z hz).1)))
        clear hown hgr hlt
        go_wp2
        go_ret
        refine ⟨_, rfl, ?_, HA1.out.2⟩
        rw [HINS.out, show (o ++ [k]).length = n' + 1 by simp; exact hR.out.1.symm]
        exact HA1.out.1
      · go_wp2
        go_ret
        refine ⟨_, rfl, ?_, hR.out.2.1⟩
        obtain ⟨h1, _⟩ := hR.out.2.2.2.2 (by simp)
        rw [HTK.out] at h1
        rw [← h1, ← hR.out.1]
        exact hR.out.2.2.1
    have hd1 : decide ((i : Int) < (m : Int)) = true := by simp; omega
    obtain ⟨y, ad, hy, rfl, hcy⟩ := (H.out.below hR.out.2.1).one hgo
    have HYY := Lib.hid hy
    clear hy
    cases dn
    case true =>
      go_wp2_with (at_builtin; refine wpList_append_lies _ rfl _ _ 42 rfl w.heap.size 3 i0 _ 1 8 Tryz.underlying42 HI0.out.1 HI0.out.2.1 HI0.out.2.2.1 HI0.out.2.2.2 (by rfl) (by decide) (.slice A' n' c') n' (nRow o) rfl (own_below hR.out.2.2.1 ((Below.refl _ wr).alloc (Nat.le_refl _) _)) ⟨wr.heap.size, 0, none⟩ 1 1 [.int .i64 y] rfl rfl (World.news_of_block (cs := #[.int .i64 y]) (t := 3) (fr := (0, 0)) (heap_alloc_new wr _)) ?o1 (by decide) ?o2 ?o3 ?o4 _ rfl ?_)
      case o1 => simp [Value.oneCell']
      case o2 => simp only [maxLen]; omega
      case o3 => omega
      case o4 => have := hR.out.2.1.size; simp; omega
      intro gn1 cn1 W1 hown hgr _ hlt
      have HA1 := Lib.hid (And.intro (show W1.ownsRow w.heap.size 3 1 (.slice (some ⟨gn1, 0, none⟩) (n' + 1) cn1) (n' + 1) (nRow (o ++ [y])) by rw [nRow_snoc]; exact hown) ((hR.out.2.1.alloc hR.out.2.1.size _).grown hgr (hR.out.2.1.alloc hR.out.2.1.size _).size (fun z hz => (hR.out.2.2.1.lt z hz).1)))
      clear hown hgr hlt
      clear hcy
      go_wp2
      go_roundg (gk - 1)
      case measure => omega
      case rel =>
        refine ⟨i + 1, true, o ++ [y], some ⟨gn1, 0, none⟩, n' + 1, cn1, rfl, rfl, by go_num, by omega, by omega, Lib.hid ⟨by simp; exact hR.out.1, HA1.out.2, HA1.out.1, (fun e => by cases e), fun _ => ?_⟩⟩
        obtain ⟨h1, z, hz, hkz⟩ := hR.out.2.2.2.2 (by simp)
        rw [Pe.take_ge HYY.out]
        exact ⟨by rw [h1, Pe.ins_done _ ⟨z, hz, hkz⟩], z, by simp [hz], hkz⟩
    have hni : i = n' := by
      obtain ⟨h1, _⟩ := hR.out.2.2.2.1 (by simp)
      have h2 := H.out.len
      rw [hR.out.1, h1, List.length_take]; omega
    subst hni
    cases hky : decide (k ≤ y)
    · have HK := Lib.hid (of_decide_eq_false hky)
      go_wp2_with (at_builtin; refine wpList_append_lies _ rfl _ _ 42 rfl w.heap.size 3 i0 _ 1 8 Tryz.underlying42 HI0.out.1 HI0.out.2.1 HI0.out.2.2.1 HI0.out.2.2.2 (by rfl) (by decide) (.slice A' i c') i (nRow o) rfl (own_below hR.out.2.2.1 ((Below.refl _ wr).alloc (Nat.le_refl _) _)) ⟨wr.heap.size, 0, none⟩ 1 1 [.int .i64 y] rfl rfl (World.news_of_block (cs := #[.int .i64 y]) (t := 3) (fr := (0, 0)) (heap_alloc_new wr _)) ?o1 (by decide) ?o2 ?o3 ?o4 _ rfl ?_)
      case o1 => simp [Value.oneCell']
      case o2 => simp only [maxLen]; omega
      case o3 => omega
      case o4 => have := hR.out.2.1.size; simp; omega
      intro gn1 cn1 W1 hown hgr _ hlt
      have HA1 := Lib.hid (And.intro (show W1.ownsRow w.heap.size 3 1 (.slice (some ⟨gn1, 0, none⟩) (i + 1) cn1) (i + 1) (nRow (o ++ [y])) by rw [nRow_snoc]; exact hown) ((hR.out.2.1.alloc hR.out.2.1.size _).grown hgr (hR.out.2.1.alloc hR.out.2.1.size _).size (fun z hz => (hR.out.2.2.1.lt z hz).1)))
      clear hown hgr hlt
      clear hcy hky
      go_wp2
      go_roundg (gk - 1)
      case measure => omega
      case rel =>
        refine ⟨i + 1, false, o ++ [y], some ⟨gn1, 0, none⟩, i + 1, cn1, rfl, rfl, by go_num, by omega, by omega, Lib.hid ⟨by simp; exact hR.out.1, HA1.out.2, HA1.out.1, fun _ => ?_, (fun e => by cases e)⟩⟩
        obtain ⟨h1, h2⟩ := hR.out.2.2.2.1 (by simp)
        rw [Pe.take_ge HYY.out, ← h1]
        refine ⟨rfl, fun x hx => ?_⟩
        rcases List.mem_append.1 hx with hx | hx
        · rw [h1] at hx; exact h2 x hx
        · rw [List.mem_singleton.1 hx]; have := HK.out; omega
    have HK := Lib.hid (of_decide_eq_true hky)
    go_wp2_with (at_builtin; refine wpList_append_lies _ rfl _ _ 42 rfl w.heap.size 3 i0 _ 1 8 Tryz.underlying42 HI0.out.1 HI0.out.2.1 HI0.out.2.2.1 HI0.out.2.2.2 (by rfl) (by decide) (.slice A' i c') i (nRow o) rfl (own_below hR.out.2.2.1 ((Below.refl _ wr).alloc (Nat.le_refl _) _)) ⟨wr.heap.size, 0, none⟩ 1 1 [.int .i64 k] rfl rfl (World.news_of_block (cs := #[.int .i64 k]) (t := 3) (fr := (0, 0)) (heap_alloc_new wr _)) ?o1 (by decide) ?o2 ?o3 ?o4 _ rfl ?_)
    case o1 => simp [Value.oneCell']
    case o2 => simp only [maxLen]; omega
    case o3 => omega
    case o4 => have := hR.out.2.1.size; simp; omega
    intro gn1 cn1 W1 hown hgr _ hlt
    have HA1 := Lib.hid (And.intro (show W1.ownsRow w.heap.size 3 1 (.slice (some ⟨gn1, 0, none⟩) (i + 1) cn1) (i + 1) (nRow (o ++ [k])) by rw [nRow_snoc]; exact hown) ((hR.out.2.1.alloc hR.out.2.1.size _).grown hgr (hR.out.2.1.alloc hR.out.2.1.size _).size (fun z hz => (hR.out.2.2.1.lt z hz).1)))
    clear hown hgr hlt
    have hcy1 := (H.out.below HA1.out.2).at_.resolve_left (fun e => by have := HYY.out; rw [e] at this; simp at this)
    obtain ⟨ad', e1, _, hcy1⟩ := hcy1
    obtain rfl : ad = ad' := by injection e1
    have hcy1 := hcy1 i y HYY.out
    clear hcy hky e1
    by_cases hkq : k = y
    · subst hkq
      go_wp2
      go_roundg (gk - 1)
      case measure => omega
      case rel =>
        refine ⟨i + 1, true, o ++ [k], some ⟨gn1, 0, none⟩, i + 1, cn1, rfl, rfl, by go_num, by omega, by omega, Lib.hid ⟨by simp; exact hR.out.1, HA1.out.2, HA1.out.1, (fun e => by cases e), fun _ => ?_⟩⟩
        obtain ⟨h1, h2⟩ := hR.out.2.2.2.1 (by simp)
        rw [Pe.take_ge HYY.out, Pe.ins_less _ h2, h1]
        exact ⟨by simp [Pe.ins], k, by simp, by omega⟩
    have hkb : (k == y) = false := by simpa using hkq
    have HKQ := Lib.hid hkq
    clear hkq
    go_wp2_with (at_builtin; refine wpList_append_lies _ rfl _ _ 42 rfl w.heap.size 3 i0 _ 1 8 Tryz.underlying42 HI0.out.1 HI0.out.2.1 HI0.out.2.2.1 HI0.out.2.2.2 (by rfl) (by decide) (.slice (some ⟨gn1, 0, none⟩) (i + 1) cn1) (i + 1) (nRow (o ++ [k])) rfl (own_below HA1.out.1 ((Below.refl _ W1).alloc (Nat.le_refl _) _)) ⟨W1.heap.size, 0, none⟩ 1 1 [.int .i64 y] rfl rfl (World.news_of_block (cs := #[.int .i64 y]) (t := 3) (fr := (0, 0)) (heap_alloc_new W1 _)) ?o1 (by decide) ?o2 ?o3 ?o4 _ rfl ?_)
    case o1 => simp [Value.oneCell']
    case o2 => simp only [maxLen]; omega
    case o3 => omega
    case o4 => have := HA1.out.2.size; simp; omega
    intro gn2 cn2 W2 hown hgr _ hlt
    have HA2 := Lib.hid (And.intro (show W2.ownsRow w.heap.size 3 1 (.slice (some ⟨gn2, 0, none⟩) ((i + 1) + 1) cn2) ((i + 1) + 1) (nRow ((o ++ [k]) ++ [y])) by rw [nRow_snoc]; exact hown) ((HA1.out.2.alloc HA1.out.2.size _).grown hgr (HA1.out.2.alloc HA1.out.2.size _).size (fun z hz => (HA1.out.1.lt z hz).1)))
    clear hown hgr hlt
    clear hcy1 hkb
    go_wp2
    go_roundg (gk - 1)
    case measure => omega
    case rel =>
      refine ⟨i + 1, true, (o ++ [k]) ++ [y], some ⟨gn2, 0, none⟩, i + 1 + 1, cn2, rfl, rfl, by go_num, by omega, by omega, Lib.hid ⟨by simp; exact hR.out.1, HA2.out.2, HA2.out.1, (fun e => by cases e), fun _ => ?_⟩⟩
      obtain ⟨h1, h2⟩ := hR.out.2.2.2.1 (by simp)
      rw [Pe.take_ge HYY.out, Pe.ins_less _ h2, h1]
      exact ⟨by simp [Pe.ins, HK.out, HKQ.out], y, by simp, HK.out⟩

theorem gather_on {f : Pe.Ent → Int} {q : Pe.Ent → Bool} {l : List Pe.Ent} {i : Nat} {x : Pe.Ent} (h : l[i]? = some x) (hq : q x = false) : Pe.gather f q (l.take (i + 1)) = Pe.gather f q (l.take i) := by
  rw [List.take_add_one, h]
  show Pe.gather f q (l.take i ++ [x]) = _
  rw [Pe.gather_snoc, if_neg (by rw [hq]; simp)]
theorem gather_put {f : Pe.Ent → Int} {q : Pe.Ent → Bool} {l : List Pe.Ent} {i : Nat} {x : Pe.Ent} (h : l[i]? = some x) (hq : q x = true) : Pe.gather f q (l.take (i + 1)) = Pe.ins (f x) (Pe.gather f q (l.take i)) := by
  rw [List.take_add_one, h]
  show Pe.gather f q (l.take i ++ [x]) = _
  rw [Pe.gather_snoc, if_pos hq]

set_option maxRecDepth 1000000 in
set_option maxHeartbeats 8000000 in
theorem rPlaces_calls (A : Option Addr) (n c : Nat) (l : List Pe.Ent) (p d : Int) (w : World) (h : EntsAt w A n l) (hn : n ≤ 100000) :
    Calls Tryz.prog 24 #[.slice A n c, .int .i64 p, .int .i64 d] w fun e w' => ∃ v, e = .returned v ∧ w'.ownsRow w.heap.size 3 1 v (Pe.placesR l p d).length (nRow (Pe.placesR l p d)) ∧ Below w.heap.size w w' := by
  have H := Lib.hid h
  have hmost := h.most
  obtain ⟨V, hV⟩ : ∃ V, V = Pe.placesR l p d := ⟨_, rfl⟩
  rw [← hV]
  unfold Pe.placesR at hV
  obtain ⟨D, hD⟩ : ∃ D, D = Pe.dead l p d := ⟨_, rfl⟩
  rw [← hD] at hV
  have hdc := rDead_calls A n c l p d w h
  rw [← hD] at hdc
  have HDC := Lib.hid hdc
  clear h hD hdc
  go_enter Tryz.func24, Tryz.ntmps24
  go_wp2_with fail
  refine HDC.out.mono ?_
  rintro e w1 ⟨rfl, hb1⟩
  have H1 := Lib.hid hb1
  clear hb1
  dsimp only
  cases D
  case true =>
    have HV := Lib.hid (show V = [] by rw [hV, if_pos rfl])
    clear hV
    go_wp2
    go_ret
    exact ⟨_, rfl, by rw [HV.out]; exact World.ownsRow_nil _ _ _ _, H1.out⟩
  have HV := Lib.hid (show V = Pe.gather (·.place) (fun x => x.kind == 2 && x.person == p && x.on d) l by rw [hV, if_neg (by simp)])
  clear hV
  go_wp2_with fail
  go_loopg [8, 9, 10] n (fun q s8 s9 s10 wr => ∃ (i : Nat) (o : List Int) (A' : Option Addr) (n' c' : Nat), s8 = .slice A' n' c' ∧ s9 = .int .i64 (i : Int) ∧ i + q = n ∧ n' ≤ i ∧ Hid (n' = o.length ∧ Below w.heap.size w wr ∧ wr.ownsRow w.heap.size 3 1 (.slice A' n' c') n' (nRow o) ∧ o = Pe.gather (·.place) (fun x => x.kind == 2 && x.person == p && x.on d) (l.take i)))
  case atStart => exact ⟨0, [], none, 0, 0, rfl, rfl, by omega, by omega, Lib.hid ⟨rfl, H1.out, World.ownsRow_nil _ _ _ _, rfl⟩⟩
  case round =>
    obtain ⟨i, o, A', n', c', rfl, rfl, hi, hn', hR⟩ := hrel
    have hE := Lib.hid (H.out.below hR.out.2.1)
    by_cases hgo : i < n
    case neg =>
      have hd1 : decide ((i : Int) < (n : Int)) = false := by simp; omega
      go_wp2
      go_ret
      refine ⟨_, rfl, ?_, hR.out.2.1⟩
      have h1 := hR.out.2.2.2
      rw [List.take_of_length_le (by have := H.out.len; omega), ← HV.out] at h1
      rw [← h1, ← hR.out.1]
      exact hR.out.2.2.1
    have hd1 : decide ((i : Int) < (n : Int)) = true := by simp; omega
    obtain ⟨x, ad, hx, rfl, hok, hcw⟩ := hE.out.one hgo
    have g0 : wr.cell? (ad.add (i * 10)) = some (.int .i64 x.day) := hcw 0 _ rfl
    have g1 : wr.cell? ⟨(ad.add (i * 10)).block, (ad.add (i * 10)).off + 1, none⟩ = some (.int .u8 (x.kind : Int)) := hcw 1 _ rfl
    have g2 : wr.cell? ⟨(ad.add (i * 10)).block, (ad.add (i * 10)).off + 2, none⟩ = some (.int .i64 x.since) := hcw 2 _ rfl
    have g3 : wr.cell? ⟨(ad.add (i * 10)).block, (ad.add (i * 10)).off + 3, none⟩ = some (.int .i64 x.til) := hcw 3 _ rfl
    have g4 : wr.cell? ⟨(ad.add (i * 10)).block, (ad.add (i * 10)).off + 4, none⟩ = some (.int .i64 x.person) := hcw 4 _ rfl
    have g5 : wr.cell? ⟨(ad.add (i * 10)).block, (ad.add (i * 10)).off + 5, none⟩ = some (.int .i64 x.place) := hcw 5 _ rfl
    have g6 : wr.cell? ⟨(ad.add (i * 10)).block, (ad.add (i * 10)).off + 6, none⟩ = some (.int .i64 x.other) := hcw 6 _ rfl
    have g7 : wr.cell? ⟨(ad.add (i * 10)).block, (ad.add (i * 10)).off + 7, none⟩ = some (.int .i64 x.at_) := hcw 7 _ rfl
    have g8 : wr.cell? ⟨(ad.add (i * 10)).block, (ad.add (i * 10)).off + 8, none⟩ = some (.int .i64 x.order) := hcw 8 _ rfl
    have g9 : wr.cell? ⟨(ad.add (i * 10)).block, (ad.add (i * 10)).off + 9, none⟩ = some (.string (bs x.name)) := hcw 9 _ rfl
    have HX := Lib.hid hx
    clear hx hcw hok
    obtain ⟨ov, hov⟩ : ∃ ov, ov = x.on d := ⟨_, rfl⟩
    have hhc := rHolds_calls x d wr
    rw [← hov] at hhc
    unfold eCells at hhc
    have HHC := Lib.hid hhc
    have HOV := Lib.hid hov
    clear hhc hov
    go_wp2_with fail
    refine HHC.out.mono ?_
    rintro e w2 ⟨rfl, hb2⟩
    have hc2 := (hE.out.below hb2).get HX.out
    have HB := Lib.hid (And.intro (hR.out.2.1.trans (hb2.mono hR.out.2.1.size)) (own_below hR.out.2.2.1 hb2))
    clear g0 g1 g2 g3 g4 g5 g6 g7 g8 g9
    have g0 : w2.cell? (ad.add (i * 10)) = some (.int .i64 x.day) := hc2 0 _ rfl
    have g1 : w2.cell? ⟨(ad.add (i * 10)).block, (ad.add (i * 10)).off + 1, none⟩ = some (.int .u8 (x.kind : Int)) := hc2 1 _ rfl
    have g2 : w2.cell? ⟨(ad.add (i * 10)).block, (ad.add (i * 10)).off + 2, none⟩ = some (.int .i64 x.since) := hc2 2 _ rfl
    have g3 : w2.cell? ⟨(ad.add (i * 10)).block, (ad.add (i * 10)).off + 3, none⟩ = some (.int .i64 x.til) := hc2 3 _ rfl
    have g4 : w2.cell? ⟨(ad.add (i * 10)).block, (ad.add (i * 10)).off + 4, none⟩ = some (.int .i64 x.person) := hc2 4 _ rfl
    have g5 : w2.cell? ⟨(ad.add (i * 10)).block, (ad.add (i * 10)).off + 5, none⟩ = some (.int .i64 x.place) := hc2 5 _ rfl
    have g6 : w2.cell? ⟨(ad.add (i * 10)).block, (ad.add (i * 10)).off + 6, none⟩ = some (.int .i64 x.other) := hc2 6 _ rfl
    have g7 : w2.cell? ⟨(ad.add (i * 10)).block, (ad.add (i * 10)).off + 7, none⟩ = some (.int .i64 x.at_) := hc2 7 _ rfl
    have g8 : w2.cell? ⟨(ad.add (i * 10)).block, (ad.add (i * 10)).off + 8, none⟩ = some (.int .i64 x.order) := hc2 8 _ rfl
    have g9 : w2.cell? ⟨(ad.add (i * 10)).block, (ad.add (i * 10)).off + 9, none⟩ = some (.string (bs x.name)) := hc2 9 _ rfl
    clear hc2 hb2
    dsimp only
    have k1 := nat_beq x.kind 2
    cases h1 : (x.kind == 2)
    · have q1 : ((x.kind : Int) == 2) = false := k1.trans h1
      have HQ := Lib.hid h1
      clear h1 k1
      go_wp2
      go_roundg (gk - 1)
      case measure => omega
      case rel => exact ⟨i + 1, o, A', n', c', rfl, by go_num, by omega, by omega, Lib.hid ⟨hR.out.1, HB.out.1, HB.out.2, by rw [gather_on HX.out ((by rw [HQ.out]; rfl))]; exact hR.out.2.2.2⟩⟩
    cases h2 : (x.person == p)
    · have q1 : ((x.kind : Int) == 2) = true := k1.trans h1
      have HQ := Lib.hid h2
      clear h1 k1
      go_wp2
      go_roundg (gk - 1)
      case measure => omega
      case rel => exact ⟨i + 1, o, A', n', c', rfl, by go_num, by omega, by omega, Lib.hid ⟨hR.out.1, HB.out.1, HB.out.2, by rw [gather_on HX.out ((by rw [HQ.out, Bool.and_false]; rfl))]; exact hR.out.2.2.2⟩⟩
    have q1 : ((x.kind : Int) == 2) = true := k1.trans h1
    have HQ := Lib.hid (And.intro h1 h2)
    clear h1 k1
    cases ov
    · skip
      go_wp2
      go_roundg (gk - 1)
      case measure => omega
      case rel => exact ⟨i + 1, o, A', n', c', rfl, by go_num, by omega, by omega, Lib.hid ⟨hR.out.1, HB.out.1, HB.out.2, by rw [gather_on HX.out ((by rw [← HOV.out, Bool.and_false]))]; exact hR.out.2.2.2⟩⟩
    obtain ⟨A2, cc2, hv2, hN2⟩ := own_nums HB.out.2 hR.out.1
    obtain ⟨rfl, rfl⟩ : A' = A2 ∧ c' = cc2 := by injection hv2 with e1 _ e3; exact ⟨e1, e3⟩
    have hac := radded_calls A' n' c' o x.place w2 hN2 (by omega)
    have HAC := Lib.hid hac
    clear hac hN2 hv2
    go_wp2_with fail
    refine HAC.out.mono ?_
    rintro e w3 ⟨v, rfl, hown, hb3⟩
    have hle : (Pe.ins x.place o).length ≤ n' + 1 := by have := Pe.ins_length x.place o; have := hR.out.1; omega
    obtain ⟨n3, hn3⟩ : ∃ n3, n3 = (Pe.ins x.place o).length := ⟨_, rfl⟩
    rw [← hn3] at hown hle
    obtain ⟨A3, c3, rfl, _, _⟩ := own_shape hown
    have H3 := Lib.hid (And.intro (HB.out.1.trans (hb3.mono HB.out.1.size)) (And.intro (own_weaken hown HB.out.1.size) hn3))
    clear hb3 hown hn3
    clear g0 g1 g2 g3 g4 g5 g6 g7 g8 g9
    dsimp only
    go_wp2
    go_roundg (gk - 1)
    case measure => omega
    case rel =>
      refine ⟨i + 1, Pe.ins x.place o, A3, n3, c3, rfl, by go_num, by omega, by omega, Lib.hid ⟨H3.out.2.2, H3.out.1, H3.out.2.1, ?_⟩⟩
      rw [gather_put HX.out (by rw [HQ.out.1, HQ.out.2, ← HOV.out]; rfl), ← hR.out.2.2.2]

set_option maxRecDepth 1000000 in
set_option maxHeartbeats 8000000 in
theorem rLives_calls (A : Option Addr) (n c : Nat) (l : List Pe.Ent) (cd : Pe.Pair) (d : Int) (w : World) (h : EntsAt w A n l) (hn : n ≤ 100000) :
    Calls Tryz.prog 26 #[.slice A n c, .agg (pCells cd), .int .i64 d] w fun e w' => e = .returned (.bool (Pe.lives l cd d)) ∧ Below w.heap.size w w' := by
  obtain ⟨V, hV⟩ : ∃ V, V = Pe.lives l cd d := ⟨_, rfl⟩
  rw [← hV]
  rw [Pe.lives_places] at hV
  have hpc := fun w0 (hb : Below w.heap.size w w0) => rPlaces_calls A n c l cd.1 d w0 (h.below hb) hn
  obtain ⟨ps, hps⟩ : ∃ ps, ps = Pe.placesR l cd.1 d := ⟨_, rfl⟩
  have hpl : ps.length ≤ n := by
    rw [hps, h.len]
    unfold Pe.placesR
    split
    · simp
    · exact Pe.gather_length _ _ _
  rw [← hps] at hV hpc
  obtain ⟨m, hm⟩ : ∃ m, m = ps.length := ⟨_, rfl⟩
  rw [← hm] at hpc hpl
  have HPC := Lib.hid hpc
  have HV := Lib.hid (And.intro hV hm)
  clear hpc hV hm hps h
  go_enter Tryz.func26, Tryz.ntmps26
  unfold pCells
  go_upto_region 1 with fail
  obtain ⟨b, hb⟩ : ∃ b, b = w.heap.size := ⟨_, rfl⟩
  obtain ⟨w1, hw1⟩ : ∃ w1, w1 = w.alloc (.cells (pCells cd) 28) := ⟨_, rfl⟩
  have hb1 : Below w.heap.size w w1 := by rw [hw1]; exact (Below.refl _ w).alloc (Nat.le_refl _) _
  have hc1 : Blk w1 b 28 (pCells cd) := by rw [hw1, hb]; exact Blk.fresh _ _ _
  unfold pCells at hw1
  rw [← hb, ← hw1]
  have H1 := Lib.hid (And.intro hb1 hc1)
  have k0 : w1.cell? ⟨b, 0, none⟩ = some (.int .i64 cd.1) := hc1.cell 0
  clear hb1 hc1 hw1 hb
  go_wp2_with fail
  refine (HPC.out w1 H1.out.1).mono ?_
  rintro e w2 ⟨v, rfl, hown, hb2⟩
  obtain ⟨A2, c2, rfl, hN⟩ := own_nums hown HV.out.2
  have H2 := Lib.hid (And.intro (H1.out.1.trans (hb2.mono H1.out.1.size)) (And.intro (H1.out.2.below hb2 H1.out.2.lt) hN))
  clear hb2 hown hN k0
  dsimp only
  go_wp2_with fail
  go_loopg [8] m (fun q s8 wr => ∃ i : Nat, s8 = .int .i64 (i : Int) ∧ i + q = m ∧ Hid (Below w.heap.size w wr ∧ Blk wr b 28 (pCells cd) ∧ NumsAt wr A2 m ps ∧ (ps.take i).contains cd.2 = false))
  case atStart => exact ⟨0, by go_num, by omega, Lib.hid ⟨H2.out.1, H2.out.2.1, H2.out.2.2, by simp⟩⟩
  case round =>
    obtain ⟨i, rfl, hi, hR⟩ := hrel
    by_cases hgo : i < m
    case neg =>
      have hd1 : decide ((i : Int) < (m : Int)) = false := by simp; omega
      go_wp2
      go_ret
      refine ⟨?_, hR.out.1⟩
      have h1 := hR.out.2.2.2
      rw [List.take_of_length_le (by have := HV.out.2; omega)] at h1
      rw [HV.out.1, h1]; rfl
    have hd1 : decide ((i : Int) < (m : Int)) = true := by simp; omega
    obtain ⟨y, ad, hy, rfl, hcy⟩ := hR.out.2.2.1.one hgo
    have k1 : wr.cell? ⟨b, 1, none⟩ = some (.int .i64 cd.2) := hR.out.2.1.cell 1
    have HYY := Lib.hid hy
    clear hy
    cases hq : (y == cd.2)
    · have HQ := Lib.hid hq
      go_upto_region 5 with fail
      go_quiet (fail)
      go_wp2
      go_roundg (gk - 1)
      case measure => omega
      case rel =>
        refine ⟨i + 1, by go_num, by omega, Lib.hid ⟨hR.out.1.trans ((below_drewN _ _).mono hR.out.1.size), hR.out.2.1.below (below_drewN _ _) hR.out.2.1.lt, hR.out.2.2.1.below (below_drewN _ _), ?_⟩⟩
        have h1 := HQ.out
        rw [beq_eq_false_iff_ne] at h1
        have h2 := hR.out.2.2.2
        rw [Pe.take_ge HYY.out]
        simp at h2 ⊢
        exact ⟨h2, fun e => h1 e.symm⟩
    · have HQ := Lib.hid hq
      go_upto_region 5 with fail
      go_quiet (fail)
      go_wp2
      go_ret
      refine ⟨?_, hR.out.1.trans ((below_drewN _ _).mono hR.out.1.size)⟩
      have h1 := HQ.out
      rw [beq_iff_eq] at h1
      rw [HV.out.1, show ps.contains cd.2 = true by rw [List.contains_iff_mem, ← h1]; exact List.mem_of_getElem? HYY.out]; rfl

end Go.Proofs.YtnphlekailodkaaGreatDoor
