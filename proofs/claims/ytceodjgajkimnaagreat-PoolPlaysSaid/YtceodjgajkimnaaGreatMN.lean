/- PoolFills: the plain law and the walk. -/
import Derived.Test.YtceodjgajkimnaaGreatMM
set_option linter.unusedVariables false

namespace Go.Vk
open Go.RowKit Go.Proofs

theorem firstFree_of {bs : List UInt8} {lo top i : Nat} (h1 : lo ≤ i) (h2 : i < top) (h3 : bitOf bs i = false) (h4 : ∀ j, lo ≤ j → j < i → bitOf bs j = true) : firstFree bs lo top = some i := by
  cases hf : firstFree bs lo top with
  | none => have := firstFree_none hf i h1 h2; rw [h3] at this; cases this
  | some k =>
    obtain ⟨a1, a2, a3, a4⟩ := firstFree_some hf
    rcases Nat.lt_trichotomy i k with h | h | h
    · have := a4 i h1 h; rw [h3] at this; cases this
    · rw [h]
    · have := h4 k a1 h; rw [a3] at this; cases this
theorem firstFree_full {bs : List UInt8} {lo top : Nat} (h : ∀ j, lo ≤ j → j < top → bitOf bs j = true) : firstFree bs lo top = none := by
  cases hf : firstFree bs lo top with
  | none => rfl
  | some k =>
    obtain ⟨a1, a2, a3, a4⟩ := firstFree_some hf
    have := h k a1 a2; rw [a3] at this; cases this
/-- All of that kind are taken below i. -/
def FI (nd : Bool) (bs ns : List UInt8) (i : Nat) : Prop := if nd then ∀ j, j < 4096 → bitOf ns j = decide (j + 1 < i) else ∀ j, j < 4096 → bitOf bs j = decide (j < i)
theorem fill_start (G : Geom) (hg : GeoOk G) (nd : Bool) : FI nd (onesB G.data) (zeros 512) (spanLo G nd) := by
  have h1 := hg.n2
  cases nd with
  | true =>
    intro j hj
    rw [bitOf_zeros]
    symm
    show decide (j + 1 < 1) = false
    simp
  | false =>
    intro j hj
    exact bitOf_ones G.data j (by unfold Geom.data; omega)
theorem fill_step {G : Geom} (hg : GeoOk G) {nd : Bool} {bs ns : List UInt8} {i : Nat} (h : FI nd bs ns i) (h1 : spanLo G nd ≤ i) (h2 : i < spanHi G nd) (l1 : bs.length = 512) (l2 : ns.length = 512) :
    tkF G bs ns nd = some (i - nd.toNat) ∧ i - nd.toNat + nd.toNat = i ∧ FI nd (if nd then bs else flipB bs (i - nd.toNat)) (if nd then flipB ns (i - nd.toNat) else ns) (i + 1) := by
  have n2 := hg.n2
  have b2 := hg.b2
  cases nd with
  | true =>
    have h1' : 1 ≤ i := h1
    have h2' : i < G.n + 1 := h2
    have h' : ∀ j, j < 4096 → bitOf ns j = decide (j + 1 < i) := h
    refine ⟨firstFree_of (Nat.zero_le _) (by simp; omega) ?_ ?_, by simp; omega, ?_⟩
    · rw [h' _ (by simp; omega)]; simp; omega
    · intro j _ hj
      have : j < i - 1 := by simpa using hj
      rw [h' j (by omega)]; simp; omega
    · intro j hj
      show bitOf (flipB ns (i - 1)) j = _
      rw [bitOf_flip _ _ _ (by rw [l2]; omega)]
      by_cases e : j = i - 1
      · rw [if_pos e, h' _ (by omega)]
        have e1 : decide (i - 1 + 1 < i) = false := by simp; omega
        rw [e1]; symm; simp; omega
      · rw [if_neg e, h' j hj]; simp only [decide_eq_decide]; omega
  | false =>
    have h1' : G.data ≤ i := h1
    have h2' : i < G.blocks := h2
    have h' : ∀ j, j < 4096 → bitOf bs j = decide (j < i) := h
    refine ⟨firstFree_of h1' (by simpa using h2') ?_ ?_, by simp, ?_⟩
    · rw [h' _ (by simp; omega)]; simp
    · intro j _ hj
      have : j < i := by simpa using hj
      rw [h' j (by omega)]; simp; omega
    · intro j hj
      show bitOf (flipB bs i) j = _
      rw [bitOf_flip _ _ _ (by rw [l1]; omega)]
      by_cases e : j = i
      · rw [if_pos e, h' _ (by omega)]
        have e1 : decide (i < i) = false := by simp
        rw [e1]; symm; simp; omega
      · rw [if_neg e, h' j hj]; simp only [decide_eq_decide]; omega
theorem fill_end {G : Geom} (hg : GeoOk G) {nd : Bool} {bs ns : List UInt8} (h : FI nd bs ns (spanHi G nd)) : tkF G bs ns nd = none := by
  have n2 := hg.n2
  have b2 := hg.b2
  cases nd with
  | true =>
    have h' : ∀ j, j < 4096 → bitOf ns j = decide (j + 1 < G.n + 1) := h
    refine firstFree_full fun j _ hj => ?_
    rw [h' j (by omega)]; simp; omega
  | false =>
    have h' : ∀ j, j < 4096 → bitOf bs j = decide (j < G.blocks) := h
    refine firstFree_full fun j _ hj => ?_
    rw [h' j (by omega)]; simp; omega
theorem span_le {G : Geom} (hg : GeoOk G) (nd : Bool) : spanLo G nd ≤ spanHi G nd ∧ spanHi G nd ≤ 2048 := by
  have n1 := hg.n1
  have n2 := hg.n2
  have b1 := hg.b1
  have b2 := hg.b2
  cases nd with
  | true => exact ⟨by show 1 ≤ G.n + 1; omega, by show G.n + 1 ≤ 2048; omega⟩
  | false => exact ⟨by show G.data ≤ G.blocks; unfold Geom.data; omega, b2⟩

theorem noE_ne (nd : Bool) : noE nd ≠ 0 := by cases nd <;> decide
set_option maxHeartbeats 1000000 in
theorem poolFills_w (w : World) (a b c : Int) (nd : Bool) : Calls Tryz.prog 3 #[.agg #[.int .i64 a, .int .i64 b, .int .i64 c], .bool nd] w fun e w' => e = .returned (.bool true) ∧ Keeps (fun _ => False) w w' := by
  have hS := fun w => lsuper_w w a b c
  have hF := fun w => fresh_w w a b c
  have hkA : Keeps (fun _ => False) w (w.alloc (.cells #[.int .i64 a, .int .i64 b, .int .i64 c] 23 (0, 0))) := (Keeps.refl _ w).alloc _
  have hg4 := gLog_b b
  have hg5 := gSecs_b a b c
  unfold gLeast at hg5
  replace hS := hid hS; replace hF := hid hF; replace hkA := hid hkA; replace hg4 := hid hg4; replace hg5 := hid hg5
  go_enter Tryz.func3, Tryz.ntmps3
  go_upto_region 4 with (go_at_call 14; refine (hF.out _).mono ?_; rintro e w1 ⟨C, r, p, q, m, X, rfl, g1, g2, g3, hR, hlo, k1⟩; have gA := k1.blk (Blk.new w _) (fun f => f); replace gA := hid gA; replace hR := hid hR; replace hlo := hid hlo; replace k1 := hid (hkA.out.step k1))
  have hsz : ∀ i, X i ∨ KF C i → w.heap.size ≤ i := fun i hi => by have := hlo.out i hi; rw [World.size_alloc] at this; omega
  have a0 := gA.out.cell 0
  have a1 := gA.out.cell 1
  have a2 := gA.out.cell 2
  simp at a0 a1 a2
  have hgeo := hR.out.st.geo
  have hsp : ∀ w, Calls Tryz.prog 15 #[.agg #[.int .i64 (gSecs a b c : Nat), .int .i64 (gLog b : Nat), .int .i64 (gNodes c : Nat)], .bool nd] w fun e w' => e = .returned (.tuple #[.int .i64 (spanLo C.G nd : Nat), .int .i64 (spanHi C.G nd : Nat)]) ∧ Keeps (fun _ => False) w w' := fun w => by
    have h5 := hg5.out
    have h4 := hg4.out
    have := span_w w C.G hgeo (by rw [g1, g2]; omega) (by rw [g1]; omega) nd
    rwa [g1, g2, g3] at this
  have hle := span_le hgeo nd
  have hst := fill_start C.G hgeo nd
  have hstep := fun bs ns i h h1 h2 l1 l2 => fill_step (bs := bs) (ns := ns) (i := i) hgeo h h1 h2 l1 l2 (nd := nd)
  have hend := fun bs ns h => fill_end (bs := bs) (ns := ns) hgeo h (nd := nd)
  obtain ⟨lo, hlo1⟩ : ∃ lo, spanLo C.G nd = lo := ⟨_, rfl⟩
  obtain ⟨hi, hhi1⟩ : ∃ hi, spanHi C.G nd = hi := ⟨_, rfl⟩
  rw [hlo1, hhi1] at hsp hle
  rw [hlo1] at hst hstep
  rw [hhi1] at hstep hend
  have hw1 := k1.out
  clear hF hlo hkA
  replace gA := hid gA; replace hgeo := hid hgeo; replace hsp := hid hsp; replace hst := hid hst; replace hstep := hid hstep; replace hend := hid hend; replace hlo1 := hid hlo1; replace hhi1 := hid hhi1; replace hw1 := hid hw1; replace hsz := hid hsz
  go_upto_region 5 with (first
    | (go_at_call 16; refine (hS.out _).mono ?_; rintro e w2 ⟨rfl, k2⟩; replace k2 := hid k2)
    | (go_at_call 15; refine (hsp.out _).mono ?_; rintro e w3 ⟨rfl, k3⟩; replace k3 := hid k3))
  have hR3 := hR.out.quiet (k2.out.step k3.out)
  have kW3 := k1.out.step (k2.out.step k3.out)
  clear hR a0 a1 a2 k1 k2 gA hS hsp hw1
  replace hR3 := hid hR3; replace kW3 := hid kW3
  clear k3
  go_wp2
  go_loopw [9] (fun i wr => ∃ k bs ns, lo ≤ k ∧ k ≤ hi ∧ i = .int .i64 (k : Nat) ∧ Rig wr C r p q m bs ns 0 X ∧ FI nd bs ns k ∧ Keeps (fun _ => False) w wr) (fun i _ => hi - (intOf i).toNat)
  case atStart => exact ⟨lo, _, _, Nat.le_refl _, hle.1, rfl, hR3.out, hst.out, kW3.out⟩
  case round =>
    obtain ⟨k, bs, ns, hk0, hk1, rfl, hRr, hFI, hkr⟩ := hrel
    have hsz' := hsz.out
    by_cases hlt2 : k < hi
    · have hki : (k : Int) < hi := by omega
      obtain ⟨s1, s2, s3⟩ := hstep.out bs ns k hFI hk0 hlt2 hRr.st.len0 hRr.st.len1
      have hT : Calls Tryz.prog 17 #[.pointer (some ⟨p, 0, none⟩), .bool nd] wr fun e w' => e = .returned (.tuple #[.int .i64 (k : Nat), .int .i64 (0 : Nat)]) ∧ ∃ bs' ns', Rig w' C r p q m bs' ns' 0 X ∧ FI nd bs' ns' (k + 1) ∧ Keeps (fun _ => False) w w' := by
        refine (takes_w hRr.st hRr.hp hRr.xp nd).mono ?_
        rintro e w' ⟨y1, y2⟩
        rw [s1] at y2
        obtain ⟨rfl, y3⟩ := y2
        rw [s2]
        exact ⟨rfl, _, _, hRr.call y1 y3, s3, hkr.trans y1 (fun i hi e => by have := hsz' i (.inr e); omega)⟩
      clear hsz'
      replace hRr := hid hRr; replace hFI := hid hFI; replace hkr := hid hkr; replace hT := hid hT; replace s1 := hid s1; replace s2 := hid s2; replace s3 := hid s3
      go_wp2_with (go_at_call 17; refine hT.out.mono ?_; rintro e w4 ⟨rfl, bs', ns', r4, f4, k4⟩; replace r4 := hid r4; replace f4 := hid f4; replace k4 := hid k4)
      exact ⟨⟨k + 1, bs', ns', by omega, by omega, by go_num, r4.out, f4.out, k4.out⟩, by simp [intOf]; omega⟩
    · have hki : ¬ (k : Int) < hi := by omega
      obtain rfl : k = hi := by omega
      have hE := hend.out bs ns hFI
      have hgr : ∀ W W', Keeps (fun _ => False) w W → Keeps (KF C) W W' → Keeps (fun _ => False) w W' := fun W W' x y => x.trans y (fun i hi e => by have := hsz' i (.inr e); omega)
      have hT : Calls Tryz.prog 17 #[.pointer (some ⟨p, 0, none⟩), .bool nd] wr fun e w' => e = .returned (.tuple #[.int .i64 (0 : Nat), .int .i64 (noE nd : Nat)]) ∧ Rig w' C r p q m bs ns (noE nd) X ∧ Keeps (fun _ => False) w w' := by
        refine (takes_w hRr.st hRr.hp hRr.xp nd).mono ?_
        rintro e w' ⟨y1, y2⟩
        rw [hE] at y2
        obtain ⟨rfl, y3⟩ := y2
        exact ⟨rfl, hRr.call y1 y3, hgr _ _ hkr y1⟩
      have hSt : ∀ W, Rig W C r p q m bs ns (noE nd) X → Calls Tryz.prog 18 #[.pointer (some ⟨C.t, 0, none⟩)] W fun e w' => e = .returned (.int .i64 (noE nd : Nat)) ∧ Rig w' C r p q m bs ns (noE nd) X ∧ Keeps (fun _ => False) W w' := fun W x =>
        (x.st.state).mono fun e w' y => ⟨y.1, x.quiet y.2.2, y.2.2⟩
      have hTb : ∀ W, Rig W C r p q m bs ns (noE nd) X → Calls Tryz.prog 17 #[.pointer (some ⟨q, 0, none⟩), .bool (!nd)] W fun e w' => e = .returned (.tuple #[.int .i64 (0 : Nat), .int .i64 (noE nd : Nat)]) ∧ Keeps (KF C) W w' := fun W x =>
        (takes_bad x.st (noE_ne nd) x.hq (!nd)).mono fun e w' y => ⟨y.1, y.2.2⟩
      have hcl : ∀ W, Rig W C r p q m bs ns (noE nd) X → W.cell? ⟨r, 3, none⟩ = some (.pointer (some ⟨q, 0, none⟩)) ∧ W.cell? ⟨q, 0, none⟩ = some (.pointer (some ⟨C.t, 0, none⟩)) := fun W x => ⟨by have := x.hr.cell 3; simpa using this, by have := x.hq.cell 0; simpa using this⟩
      clear hsz' hsz hend hstep hst hE hFI
      cases nd
      all_goals
        unfold noE at hT hSt hTb hcl
        simp only [if_true, if_false, Bool.not_true, Bool.not_false, Bool.false_eq_true] at hT hSt hTb hcl
        replace hRr := hid hRr; replace hkr := hid hkr; replace hT := hid hT; replace hSt := hid hSt; replace hTb := hid hTb; replace hcl := hid hcl; replace hgr := hid hgr
        go_wp2_with (first
          | (go_at_call_of 17 (Value.pointer (some ⟨p, 0, none⟩)); refine hT.out.mono ?_; rintro e w5 ⟨rfl, r5, k5⟩; obtain ⟨x3, x0⟩ := hcl.out _ r5; replace r5 := hid r5; replace k5 := hid k5)
          | (go_at_call 18; refine (hSt.out _ r5.out).mono ?_; rintro e w6 ⟨rfl, r6, k6⟩; obtain ⟨z3, z0⟩ := hcl.out _ r6; replace r6 := hid r6; replace k6 := hid (k5.out.step k6))
          | (go_at_call_of 17 (Value.pointer (some ⟨q, 0, none⟩)); refine (hTb.out _ r6.out).mono ?_; rintro e w7 ⟨rfl, k7⟩; replace k7 := hid (hgr.out _ _ k6.out k7))
          | (go_at_call 19; refine (num_w _ _).mono ?_; rintro e w' ⟨rfl, rfl⟩))
        go_ret
        exact ⟨rfl, k7.out⟩
end Go.Vk
