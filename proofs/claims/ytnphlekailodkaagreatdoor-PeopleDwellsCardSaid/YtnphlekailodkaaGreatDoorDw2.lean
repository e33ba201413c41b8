/-
  The reference's Pairs, walked.
-/
import Derived.Test.YtnphlekailodkaaGreatDoorDw
namespace Go.Proofs.YtnphlekailodkaaGreatDoor
open Go.RowKit

theorem flat_take {ds : List Int} {f : Int → List Pe.Pair} {i : Nat} {y : Int} (h : ds[i]? = some y) : (ds.take (i + 1)).flatMap f = (ds.take i).flatMap f ++ f y := by
  rw [Pe.take_ge h, List.flatMap_append]; simp
theorem map_take {ps : List Int} {f : Int → Pe.Pair} {i : Nat} {y : Int} (h : ps[i]? = some y) : (ps.take (i + 1)).map f = (ps.take i).map f ++ [f y] := by
  rw [Pe.take_ge h, List.map_append]; rfl

set_option maxRecDepth 1000000 in
set_option maxHeartbeats 8000000 in
theorem rPairs_calls (A : Option Addr) (n c : Nat) (l : List Pe.Ent) (d : Int) (w : World) (h : EntsAt w A n l) (hn : n ≤ 100000) :
    Calls Tryz.prog 31 #[.slice A n c, .int .i64 d] w fun e w' => ∃ v, e = .returned v ∧ w'.ownsRow w.heap.size 28 2 v (Pe.pairsR l d).length (pRow (Pe.pairsR l d)) ∧ Below w.heap.size w w' := by
  obtain ⟨i0, hi0, hz0, hz1, hz2⟩ := info_parts infoCandN
  have HI0 := Lib.hid (And.intro hi0 (And.intro hz0 (And.intro hz1 hz2)))
  clear hi0 hz0 hz1 hz2
  have H := Lib.hid h
  obtain ⟨V, hV⟩ : ∃ V, V = Pe.pairsR l d := ⟨_, rfl⟩
  rw [← hV]
  unfold Pe.pairsR at hV
  have hdc := rdwelling_calls A n c l w h hn
  have hdl : (Pe.dwellingR l).length ≤ n := by rw [h.len]; exact Pe.gather_length _ _ _
  obtain ⟨ds, hds⟩ : ∃ ds, ds = Pe.dwellingR l := ⟨_, rfl⟩
  rw [← hds] at hV hdc hdl
  obtain ⟨m, hm⟩ : ∃ m, m = ds.length := ⟨_, rfl⟩
  rw [← hm] at hdc hdl
  have HP := Lib.hid (And.intro hdc (And.intro hm hV))
  have hlc := fun p w0 (hb : Below w.heap.size w w0) => rPlaces_calls A n c l p d w0 (H.out.below hb) hn
  have HLC := Lib.hid hlc
  have hpl : ∀ p, (Pe.placesR l p d).length ≤ 100000 := fun p => by
    have : (Pe.placesR l p d).length ≤ l.length := by
      unfold Pe.placesR
      split
      · simp
      · exact Pe.gather_length _ _ _
    have := h.len
    omega
  have HPL := Lib.hid hpl
  clear h hdc hm hV hds hlc hpl
  go_enter Tryz.func31, Tryz.ntmps31
  go_wp2_with fail
  refine HP.out.1.mono ?_
  rintro e w1 ⟨v, rfl, hown, hb1⟩
  obtain ⟨B, cB, rfl, hNA⟩ := own_nums hown HP.out.2.1
  have H1 := Lib.hid (And.intro hb1 hNA)
  have hBB : ∀ ad, B = some ad → ad.block < w1.heap.size ∨ ds = [] := fun ad e => by
    rcases hNA.at_ with h0 | ⟨ad', h1, h2, _⟩
    · exact .inr h0
    · rw [e] at h1; injection h1 with h1; rw [h1]; exact .inl h2
  obtain ⟨e1, he1⟩ : ∃ e1, e1 = w1.heap.size := ⟨_, rfl⟩
  have HB := Lib.hid (And.intro he1 hBB)
  have hwe : w.heap.size ≤ e1 := by rw [he1]; exact hb1.size
  clear hown hb1 hNA hBB he1
  dsimp only
  go_wp2_with fail
  go_loopg [6, 7, 8, 9] m (fun q s6 s7 s8 s9 wr => ∃ (i n' : Nat) (A' : Option Addr) (c' : Nat), s6 = .slice A' n' c' ∧ s7 = .int .i64 (i : Int) ∧ i + q = m ∧ n' ≤ i * 100000 ∧ Hid (Below w.heap.size w wr ∧ NumsAt wr B m ds ∧ wr.ownsRow e1 28 2 (.slice A' n' c') n' (pRow ((ds.take i).flatMap fun p => (Pe.placesR l p d).map fun q => (p, q))) ∧ n' = ((ds.take i).flatMap fun p => (Pe.placesR l p d).map fun q => (p, q)).length ∧ e1 ≤ wr.heap.size))
  case atStart => exact ⟨0, 0, none, 0, rfl, by go_num, by omega, by omega, Lib.hid ⟨H1.out.1, H1.out.2, World.ownsRow_nil _ _ _ _, rfl, by have := HB.out.1; omega⟩⟩
  case round =>
    obtain ⟨i, n', A', c', rfl, rfl, hi, hn', hR⟩ := hrel
    by_cases hgo : i < m
    case neg =>
      have hd1 : decide ((i : Int) < (m : Int)) = false := by simp; omega
      go_wp2
      go_ret
      refine ⟨_, rfl, ?_, hR.out.1⟩
      have h1 := hR.out.2.2.1
      have h2 := hR.out.2.2.2.1
      rw [List.take_of_length_le (by have := HP.out.2.1; omega), ← HP.out.2.2] at h1 h2
      rw [← h2]
      exact own_weaken h1 hwe
    have hd1 : decide ((i : Int) < (m : Int)) = true := by simp; omega
    obtain ⟨y, ad, hy, rfl, hcy⟩ := hR.out.2.1.one hgo
    have HYY := Lib.hid hy
    clear hy
    have hlc := HLC.out y wr hR.out.1
    have hp6 := HPL.out y
    obtain ⟨ps, hps⟩ : ∃ ps, ps = Pe.placesR l y d := ⟨_, rfl⟩
    rw [← hps] at hlc hp6
    obtain ⟨mp, hmp⟩ : ∃ mp, mp = ps.length := ⟨_, rfl⟩
    rw [← hmp] at hlc hp6
    have HL := Lib.hid hlc
    have HPS := Lib.hid (And.intro hps hmp)
    clear hlc hps hmp
    go_wp2_with fail
    refine HL.out.mono ?_
    rintro e w3 ⟨v, rfl, hown, hb3⟩
    have hlow : ∀ z, v.ownBlock = some z → wr.heap.size ≤ z ∧ z < w3.heap.size := fun z hz => hown.lt z hz
    obtain ⟨P3, c3, rfl, hNP⟩ := own_nums hown HPS.out.2
    have hPB : ∀ a2, P3 = some a2 → wr.heap.size ≤ a2.block ∧ a2.block < w3.heap.size := fun a2 e => hlow a2.block (by rw [e]; rfl)
    have hob : ∀ z, (Value.slice A' n' c').ownBlock = some z → z < wr.heap.size := fun z hz => (hR.out.2.2.1.lt z hz).2
    have H3 := Lib.hid (And.intro (hR.out.1.trans (hb3.mono hR.out.1.size)) (And.intro (hR.out.2.1.below hb3) (And.intro (own_below hR.out.2.2.1 hb3) (And.intro (Nat.le_trans hR.out.2.2.2.2 hb3.size) (And.intro hNP (And.intro hPB hob))))))
    clear hb3 hcy hown hNP hPB hob hlow
    dsimp only
    go_wp2_with fail
    go_loopg [6, 9] mp (fun q s6 s9 wr => ∃ (k n2 : Nat) (A2 : Option Addr) (c2 : Nat), s6 = .slice A2 n2 c2 ∧ s9 = .int .i64 (k : Int) ∧ k + q = mp ∧ n2 ≤ i * 100000 + k ∧ Hid (Below w.heap.size w wr ∧ NumsAt wr (some ad) m ds ∧ wr.ownsRow e1 28 2 (.slice A2 n2 c2) n2 (pRow (((ds.take i).flatMap fun p => (Pe.placesR l p d).map fun q => (p, q)) ++ (ps.take k).map fun q => (y, q))) ∧ n2 = (((ds.take i).flatMap fun p => (Pe.placesR l p d).map fun q => (p, q)) ++ (ps.take k).map fun q => (y, q)).length ∧ e1 ≤ wr.heap.size ∧ NumsAt wr P3 mp ps ∧ w3.heap.size ≤ wr.heap.size ∧ ∀ a2, P3 = some a2 → (Value.slice A2 n2 c2).ownBlock ≠ some a2.block))
    case atStart =>
      exact ⟨0, n', A', c', rfl, by go_num, by omega, by omega, Lib.hid ⟨H3.out.1, H3.out.2.1, by simpa using H3.out.2.2.1, by simpa using hR.out.2.2.2.1, H3.out.2.2.2.1, H3.out.2.2.2.2.1, Nat.le_refl _, fun a2 e e2 => by have h1 := H3.out.2.2.2.2.2.2 _ e2; have h2 := (H3.out.2.2.2.2.2.1 a2 e).1; omega⟩⟩
    case round =>
      obtain ⟨k, n2, A2, c2, rfl, rfl, hk, hn2, hQ⟩ := hrel
      by_cases hgk : k < mp
      case neg =>
        have hd2 : decide ((k : Int) < (mp : Int)) = false := by simp; omega
        have q1 : ((ds.take (i + 1)).flatMap fun p => (Pe.placesR l p d).map fun q => (p, q)) = (((ds.take i).flatMap fun p => (Pe.placesR l p d).map fun q => (p, q)) ++ (ps.take k).map fun q => (y, q)) := by
          have ht : ps.take k = ps := List.take_of_length_le (by have := HPS.out.2; omega)
          rw [flat_take HYY.out, ← HPS.out.1, ht]
        have HQ1 := Lib.hid q1
        clear q1
        go_wp2
        go_roundg (m - i - 1)
        case measure => omega
        case rel => exact ⟨i + 1, n2, A2, c2, rfl, by go_num, by omega, by omega, Lib.hid ⟨hQ.out.1, hQ.out.2.1, by rw [HQ1.out]; exact hQ.out.2.2.1, by rw [HQ1.out]; exact hQ.out.2.2.2.1, hQ.out.2.2.2.2.1⟩⟩
      have hd2 : decide ((k : Int) < (mp : Int)) = true := by simp; omega
      obtain ⟨z, pd, hz, e9, hcz⟩ := hQ.out.2.2.2.2.2.1.one hgk
      obtain ⟨y', ad', hy', e8, hcy⟩ := hQ.out.2.1.one hgo
      obtain rfl : y = y' := by have := HYY.out; rw [hy'] at this; injection this with this; exact this.symm
      obtain rfl : ad = ad' := by injection e8
      subst e9
      have HZ := Lib.hid hz
      clear hz hy' e8
      go_upto_region 10 with fail
      refine wp_region_R (RL [(4, fun w' => w'.cell? (ad.add i) = some (.int .i64 y)), (8, fun w' => w'.cell? (pd.add k) = some (.int .i64 z))]) (by kernel_rfl) (RL_cons hcy (RL_cons hcz (RL_nil _))) (fun hp => ?_)
      refine wpAnyR_take (i := 0) (oi := ⟨some 31, _, _, _, _, _⟩) (v := ?_) rfl (by kernel_rfl) (by kernel_rfl) (by kernel_rfl) (fun _ _ _ h => h) hp (.inl ⟨by rfl, fun w _ => ?_⟩) (fun hq => ?_)
      rotate_left
      · go_simp
        with_reducible rfl
      clear hp; have hp := hq; clear hq
      try simp only [Act.put, List.setIfInBounds_toArray, List.set_cons_zero, List.set_cons_succ]
      refine wpAnyR_take (i := 1) (oi := ⟨some 32, _, _, _, _, _⟩) (v := ?_) rfl (by kernel_rfl) (by kernel_rfl) (by kernel_rfl) (fun _ _ _ h => h) hp (.inl ⟨by rfl, fun w _ => ?_⟩) (fun hq => ?_)
      rotate_left
      · go_simp
        with_reducible rfl
      clear hp; have hp := hq; clear hq
      try simp only [Act.put, List.setIfInBounds_toArray, List.set_cons_zero, List.set_cons_succ]
      refine wpAnyR_take (i := 2) (oi := ⟨some 33, _, _, _, _, _⟩) (v := ?_) rfl (by kernel_rfl) (by kernel_rfl) (by kernel_rfl) (fun _ _ _ h => h) hp (.inl ⟨by rfl, fun w _ => ?_⟩) (fun hq => ?_)
      rotate_left
      · go_simp
        with_reducible rfl
      clear hp; have hp := hq; clear hq
      try simp only [Act.put, List.setIfInBounds_toArray, List.set_cons_zero, List.set_cons_succ]
      refine wpAnyR_take (i := 3) (oi := ⟨some 34, _, _, _, _, _⟩) (v := ?_) rfl (by kernel_rfl) (by kernel_rfl) (by kernel_rfl) (fun _ _ _ h => h) hp (.inl ⟨by rfl, fun w _ => ?_⟩) (fun hq => ?_)
      rotate_left
      · go_simp
        with_reducible rfl
      clear hp; have hp := hq; clear hq
      try simp only [Act.put, List.setIfInBounds_toArray, List.set_cons_zero, List.set_cons_succ]
      refine wpAnyR_take (i := 4) (oi := ⟨some 35, _, _, _, _, _⟩) (v := ?_) rfl (by kernel_rfl) (by kernel_rfl) (by kernel_rfl) (fun _ _ _ h => h) hp (.inl ⟨by rfl, fun w hR => ?_⟩) (fun hq => ?_)
      rotate_left
      · have hR := hR.1 rfl
        (try dsimp only at hR)
        go_simp
        with_reducible rfl
      clear hp; have hp := hq; clear hq
      try simp only [Act.put, List.setIfInBounds_toArray, List.set_cons_zero, List.set_cons_succ]
      refine wpAnyR_take (i := 5) (oi := ⟨some 36, _, _, _, _, _⟩) (v := ?_) rfl (by kernel_rfl) (by kernel_rfl) (by kernel_rfl) (fun _ _ _ h => h) hp (.inl ⟨by rfl, fun w _ => ?_⟩) (fun hq => ?_)
      rotate_left
      · go_simp
        with_reducible rfl
      clear hp; have hp := hq; clear hq
      try simp only [Act.put, List.setIfInBounds_toArray, List.set_cons_zero, List.set_cons_succ]
      refine wpAnyR_take (i := 6) (oi := ⟨some 37, _, _, _, _, _⟩) (v := ?_) rfl (by kernel_rfl) (by kernel_rfl) (by kernel_rfl) (fun _ _ _ h => h) hp (.inl ⟨by rfl, fun w _ => ?_⟩) (fun hq => ?_)
      rotate_left
      · go_simp
        with_reducible rfl
      clear hp; have hp := hq; clear hq
      try simp only [Act.put, List.setIfInBounds_toArray, List.set_cons_zero, List.set_cons_succ]
      refine wpAnyR_take (i := 7) (oi := ⟨some 38, _, _, _, _, _⟩) (v := ?_) rfl (by kernel_rfl) (by kernel_rfl) (by kernel_rfl) (fun _ _ _ h => h) hp (.inl ⟨by rfl, fun w _ => ?_⟩) (fun hq => ?_)
      rotate_left
      · go_simp
        with_reducible rfl
      clear hp; have hp := hq; clear hq
      try simp only [Act.put, List.setIfInBounds_toArray, List.set_cons_zero, List.set_cons_succ]
      refine wpAnyR_take (i := 8) (oi := ⟨some 39, _, _, _, _, _⟩) (v := ?_) rfl (by kernel_rfl) (by kernel_rfl) (by kernel_rfl) (fun _ _ _ h => h) hp (.inl ⟨by rfl, fun w hR => ?_⟩) (fun hq => ?_)
      rotate_left
      · have hR := hR.2.1 rfl
        (try dsimp only at hR)
        go_simp
        with_reducible rfl
      clear hp; have hp := hq; clear hq
      try simp only [Act.put, List.setIfInBounds_toArray, List.set_cons_zero, List.set_cons_succ]
      refine wpAnyR_take (i := 9) (oi := ⟨some 40, _, _, _, _, _⟩) (v := ?_) rfl (by kernel_rfl) (by kernel_rfl) (by kernel_rfl) (fun _ _ _ h => h) hp (.inl ⟨by rfl, fun w _ => ?_⟩) (fun hq => ?_)
      rotate_left
      · go_simp
        with_reducible rfl
      clear hp; have hp := hq; clear hq
      try simp only [Act.put, List.setIfInBounds_toArray, List.set_cons_zero, List.set_cons_succ]
      refine wpAnyR_step (i := 10) (o := ⟨some 41, _, _, _, _, _⟩) (by kernel_rfl) rfl (by rfl) (fun K hK => ?_) -- Op.buildSlice 46 1 #[(0, Operand.tmp 40)]
      go_simp
      have hS4 : (wr.drew.alloc (.cells #[.int .i64 y, .int .i64 z] 28)).cell? (ad.add i) = some (.int .i64 y) := by rw [World.cell?_alloc_some _ _ _ (by rw [show wr.drew.cell? (ad.add i) = some (.int .i64 y) from hcy]; rfl)]; exact hcy
      have hS8 : (wr.drew.alloc (.cells #[.int .i64 y, .int .i64 z] 28)).cell? (pd.add k) = some (.int .i64 z) := by rw [World.cell?_alloc_some _ _ _ (by rw [show wr.drew.cell? (pd.add k) = some (.int .i64 z) from hcz]; rfl)]; exact hcz
      refine hK _ _ (pend_on hS4 (pend_on hS8 pend_nil)) (fun hq => ?_)
      clear hp hK K; have hp := hq; clear hq
      try simp only [Act.put, List.setIfInBounds_toArray, List.set_cons_zero, List.set_cons_succ]
      refine wpAnyR_step (i := 11) (o := ⟨some 42, _, _, _, _, _⟩) (by kernel_rfl) rfl (by rfl) (fun K hK => ?_) -- Op.call { callee := Callee.builtin Builtin.append, args := #[Operand.tmp 31, Operand.tmp 41], argTypes := #[46
      refine wp_append_lies _ _ _ _ rfl e1 28 i0 _ 2 16 Tryz.underlying46 HI0.out.1 HI0.out.2.1 HI0.out.2.2.1 HI0.out.2.2.2 (by rfl) (by omega) (.slice A2 n2 c2) n2 (pRow (((ds.take i).flatMap fun p => (Pe.placesR l p d).map fun q => (p, q)) ++ (ps.take k).map fun q => (y, q))) rfl (own_below hQ.out.2.2.1 ((Below.refl _ wr).drew.alloc (Nat.le_refl _) _)) ⟨wr.heap.size, 0, none⟩ 1 1 [.int .i64 y, .int .i64 z] rfl rfl (World.news_of_block (cs := #[.int .i64 y, .int .i64 z]) (t := 28) (fr := (0, 0)) (heap_alloc_new wr.drew _)) (by simp [Value.oneCell']) (by omega) (by simp only [maxLen]; omega) (by omega) (by have := hQ.out.2.2.2.2.1; simp; omega) _ rfl ?_
      intro gn cn W2 hown hgr hat hlt
      have hDD : NumsAt W2 (some ad) m ds := (hQ.out.2.1.below ((Below.refl _ wr).drew.alloc (Nat.le_refl _) _)).grown hgr (fun a2 e2 e3 => by
        have h1 := (hQ.out.2.2.1.lt _ e3.symm).1
        have h3 := HB.out.1
        rcases HB.out.2 a2 e2 with h2 | h2
        · omega
        · have := HYY.out; rw [h2] at this; simp at this)
      have hPP : NumsAt W2 (some pd) mp ps := (hQ.out.2.2.2.2.2.1.below ((Below.refl _ wr).drew.alloc (Nat.le_refl _) _)).grown hgr (fun a2 e2 e3 => hQ.out.2.2.2.2.2.2.2 a2 e2 e3.symm)
      have hS4 : W2.cell? (ad.add i) = some (.int .i64 y) := by
        obtain ⟨y2, a2, q1, q2, q3⟩ := hDD.one hgo
        obtain rfl : ad = a2 := by injection q2
        rw [HYY.out] at q1
        injection q1 with q1
        rw [q1]; exact q3
      have hS8 : W2.cell? (pd.add k) = some (.int .i64 z) := by
        obtain ⟨y2, a2, q1, q2, q3⟩ := hPP.one hgk
        obtain rfl : pd = a2 := by injection q2
        rw [HZ.out] at q1
        injection q1 with q1
        rw [q1]; exact q3
      have hnb : ∀ a2, some pd = some a2 → (Value.slice (some ⟨gn, 0, none⟩) (n2 + 1) cn).ownBlock ≠ some a2.block := fun a2 e2 e3 => by
        have h1 : gn = a2.block := by simpa [Value.ownBlock] using e3
        rcases hat with h2 | h2
        · exact hQ.out.2.2.2.2.2.2.2 a2 e2 (by rw [h2, h1])
        · have h4 := (H3.out.2.2.2.2.2.1 a2 e2).2
          have h5 := hQ.out.2.2.2.2.2.2.1
          simp at h2
          omega
      have q1 : ((((ds.take i).flatMap fun p => (Pe.placesR l p d).map fun q => (p, q)) ++ (ps.take (k + 1)).map fun q => (y, q)) : List Pe.Pair) = (((ds.take i).flatMap fun p => (Pe.placesR l p d).map fun q => (p, q)) ++ (ps.take k).map fun q => (y, q)) ++ [(y, z)] := by
        rw [map_take HZ.out, List.append_assoc]
      have HA := Lib.hid (And.intro (show W2.ownsRow e1 28 2 (.slice (some ⟨gn, 0, none⟩) (n2 + 1) cn) (n2 + 1) (pRow (((ds.take i).flatMap fun p => (Pe.placesR l p d).map fun q => (p, q)) ++ (ps.take (k + 1)).map fun q => (y, q))) by rw [q1, pRow_snoc]; exact hown) (And.intro ((hQ.out.1.drew.alloc hQ.out.1.drew.size _).grown hgr (hQ.out.1.drew.alloc hQ.out.1.drew.size _).size (fun u hu => by have := (hQ.out.2.2.1.lt u hu).1; omega)) (And.intro q1 (And.intro hDD (And.intro hPP (And.intro hnb (show wr.heap.size ≤ W2.heap.size from Nat.le_trans (by simp) hgr.size)))))))
      clear hown hgr hat hlt q1 hDD hPP hnb
      refine hK _ _ (pend_on hS4 (pend_on hS8 pend_nil)) (fun hq => ?_)
      clear hp hK K; have hp := hq; clear hq
      try simp only [Act.put, List.setIfInBounds_toArray, List.set_cons_zero, List.set_cons_succ]
      refine wpAnyR_take (i := 12) (oi := ⟨some 6, _, _, _, _, _⟩) (v := ?_) rfl (by kernel_rfl) (by kernel_rfl) (by kernel_rfl) (fun _ _ _ h => h) hp (.inl ⟨by rfl, fun w _ => ?_⟩) (fun hq => ?_)
      rotate_left
      · go_simp
        with_reducible rfl
      clear hp; have hp := hq; clear hq
      try simp only [Act.put, List.setIfInBounds_toArray, List.set_cons_zero, List.set_cons_succ]
      refine wpAnyR_done (by kernel_rfl) ?_ _
      clear hp
      go_wp2
      go_roundg (gk - 1)
      case measure => omega
      case rel => exact ⟨k + 1, n2 + 1, some ⟨gn, 0, none⟩, cn, rfl, by go_num, by omega, by omega, Lib.hid ⟨HA.out.2.1, HA.out.2.2.2.1, HA.out.1, by rw [HA.out.2.2.1, List.length_append, ← hQ.out.2.2.2.1]; rfl, Nat.le_trans hQ.out.2.2.2.2.1 (by have := HA.out.2.2.2.2.2.2; omega), HA.out.2.2.2.2.1, Nat.le_trans hQ.out.2.2.2.2.2.2.1 (by have := HA.out.2.2.2.2.2.2; omega), HA.out.2.2.2.2.2.1⟩⟩

end Go.Proofs.YtnphlekailodkaaGreatDoor
