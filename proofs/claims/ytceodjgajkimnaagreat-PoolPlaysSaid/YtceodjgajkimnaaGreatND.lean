/- The walk of raw of the law, of kind 10: a block behind the bitmaps is put. Steps that put another block, and that spoil. -/
import Derived.Test.YtceodjgajkimnaaGreatMW
import Derived.Test.YtceodjgajkimnaaGreatNC
import Derived.Test.YtceodjgajkimnaaGreatMY
set_option linter.unusedVariables false

namespace Go.Vk
open Go.RowKit Go.Proofs

section
variable {w w' w0 : World} {C : TxC} {r p q m : Nat} {T T' : TS} {R R' : RP} {Z X Y : Nat → Prop}
set_option maxRecDepth 100000 in
set_option maxHeartbeats 4000000 in
theorem raw10_w (h : RX w C r p q m T R Z X) (hs : Same R T C.G) (u : Nat) (hu : Blk w u (poolO C.t)) (xu : X u) (J : TS → Prop) (hJ0 : J T) (hJ : ∀ (b : Nat) (d : List UInt8), J (T.putB b d).2) (n : Int) (who two : Bool) (data : Value) (l : List UInt8) (hd : ByteSl w data l) (hdk : l ≠ [] → ∀ g, data.ownBlock = some g → ¬ KF C g) :
    Calls Tryz.prog 133 #[.pointer (some ⟨r, 0, none⟩), .pointer (some ⟨u, 0, none⟩), stepV 10 n who two data] w (MovePost J w C r p q m Z X) := by
  have hgeo := h.pl.geo.b1
  obtain ⟨ad, cd, rfl, hdl⟩ := id hd
  have hW1 := fun w => within_w w n 0 29 (by omega) (by omega)
  have hw1b := withinN_le n (show 0 ≤ 29 by omega)
  generalize withinN n 0 29 = x1 at *
  obtain ⟨nx, hnx⟩ : ∃ nx, nx = 2 + x1 := ⟨_, rfl⟩
  have hx1 : 2 + (x1 : Int) = (nx : Int) := by omega
  have hwr : IntKind.i64.wrap (2 + (x1 : Int)) = 2 + (x1 : Int) := by rw [IntKind.wrap_i64]; omega
  have hnx2 : 2 ≤ nx := by omega
  have kA : Keeps (fun _ => False) w (w.alloc (.cells #[.int .i64 10, .int .i64 n, .bool who, .bool two, .slice ad l.length cd] 138 (0, 0))) := (Keeps.refl _ w).alloc _
  have bx := Blk.new w (.cells #[.int .i64 10, .int .i64 n, .bool who, .bool two, .slice ad l.length cd] 138 (0, 0))
  have hR0 := h.refl.mv (Nat.le_refl _) kA
  have xbx : Zn w (w.alloc (.cells #[.int .i64 10, .int .i64 n, .bool who, .bool two, .slice ad l.length cd] 138 (0, 0))) X w.heap.size := .inr ⟨Nat.le_refl _, by rw [World.size_alloc]; omega⟩
  have d0 := hd.keeps kA (fun _ _ f => f)
  have u0 := kA.blk hu (fun f => f)
  generalize hWA : w.alloc (.cells #[.int .i64 10, .int .i64 n, .bool who, .bool two, .slice ad l.length cd] 138 (0, 0)) = wA at *
  have b0 := bx.cell 0
  have b1 := bx.cell 1
  have b4 := bx.cell 4
  simp at b0 b1 b4
  have r4 := hR0.hr.cell 4
  simp at r4
  have hm0 : wA.cell? ⟨m, 0, none⟩ = some (.int .i64 (C.G.blocks : Nat)) := by
    obtain ⟨V, hV⟩ := hR0.ref
    have hm := hV.hm
    unfold refO at hm
    have := hm.cell 0
    rw [hs.blocks] at this
    simpa using this
  rcases Classical.em (¬ nx < C.G.blocks) with hbb | hbb0
  · have hskip : MovePost J w C r p q m Z X (.returned (.bool true)) wA := ⟨T, R, Z, _, hJ0, rfl, hR0, hs, kA.mono fun _ _ f => f.elim, fun i hi => hi, fun i hi => .inl hi, fun i hi => .inl hi, fun i hi => hi⟩
    have hblk : ¬ (nx : Int) < (C.G.blocks : Int) := by omega
    have hblk2 : (C.G.blocks : Int) ≤ (nx : Int) := by omega
    generalize MovePost J w C r p q m Z X = Post at *
    generalize C.G.blocks = BL at *
    clear hJ hJ0 hnx hbb
    replace h := hid h; replace hs := hid hs; replace hu := hid hu; replace hd := hid hd; replace hdk := hid hdk; replace hdl := hid hdl; replace hW1 := hid hW1; replace kA := hid kA; replace bx := hid bx; replace hR0 := hid hR0; replace xbx := hid xbx; replace d0 := hid d0; replace u0 := hid u0; replace hWA := hid hWA; replace hskip := hid hskip
    unfold stepV
    go_enter Tryz.func133, Tryz.ntmps133
    go_upto_region 1 with fail
    rw [hWA.out]
    go_wp2_with (go_at_call_of 24 (Value.int .i64 n); refine (hW1.out _).mono ?_; rintro e w' ⟨rfl, rfl⟩)
    exact hskip.out
  have hbb : nx < C.G.blocks := Classical.byContradiction hbb0
  have hP1 : ∀ W, Keeps (fun _ => False) wA W → Calls Tryz.prog 170 #[.slice ad l.length cd] W fun e w2 => ∃ g k, e = .returned (.slice (some ⟨g, 0, none⟩) 512 (512 + k)) ∧ Keeps (fun _ => False) wA w2 ∧
      ∀ W2, Keeps (fun _ => False) w2 W2 → Calls Tryz.prog 66 #[.pointer (some ⟨C.t, 0, none⟩), .int .i64 nx, .slice (some ⟨g, 0, none⟩) 512 (512 + k)] W2 fun e w3 => e = .returned (.int .i64 ((T.putB nx (padL l)).1 : Nat)) ∧ Keeps (KF C) wA w3 ∧
        ∃ Xa, RX w3 C r p q m (T.putB nx (padL l)).2 R Z Xa ∧ (∀ i, X i → Xa i) ∧ (∀ i, Xa i → Zn w w3 X i) := by
    intro W k1
    refine (padded_w W _ l (d0.keeps k1 (fun _ _ f => f))).mono ?_
    rintro e w2 ⟨g, k, rest, rfl, x1', x2, x3, x4⟩
    have k2 := k1.step x4
    refine ⟨g, k, rfl, k2, fun W2 k3 => ?_⟩
    have hR2 := hR0.mv kA.size (k2.step k3)
    have hz1 := k1.size
    have hzA := kA.size
    refine (hR2.pl.put nx hbb g (512 + k) (padL l) rest (k3.blk x3 (fun f => f)) (.inr ⟨by omega, by have := x3.lt; have := k3.size; omega⟩) (padL_length l)).mono ?_
    rintro e w3 ⟨rfl, y2, y3⟩
    have hz3 := y3.size
    exact ⟨rfl, ((k2.step k3).mono fun _ _ f => f.elim).step y3, _, hR2.pool y3 y2 (putB_le h.le _ _) (TS.putB_like _ _ _).1, fun i hi => .inl hi, fun i hi => hi.elim .inl (fun x => .inr ⟨x.1, by omega⟩)⟩
  have hP2 : ∀ w3 (k3 : Keeps (KF C) wA w3) (T1 : TS) (Xa : Nat → Prop) (hR3 : RX w3 C r p q m T1 R Z Xa), w3.cell? ⟨r, 4, none⟩ = some (.pointer (some ⟨m, 0, none⟩)) ∧ w3.cell? ⟨w.heap.size, 4, none⟩ = some (.slice ad l.length cd) ∧
      ∀ W, Keeps (fun _ => False) w3 W → Calls Tryz.prog 170 #[.slice ad l.length cd] W fun e w4 => ∃ g k, e = .returned (.slice (some ⟨g, 0, none⟩) 512 (512 + k)) ∧ Keeps (fun _ => False) w3 w4 ∧
        ∀ W2, Keeps (fun _ => False) w4 W2 → Calls Tryz.prog 171 #[.pointer (some ⟨m, 0, none⟩), .int .i64 nx, .slice (some ⟨g, 0, none⟩) 512 (512 + k)] W2 fun e w5 => e = .returned (.int .i64 (R.writeOE nx (padL l) : Nat)) ∧ Keeps Z w3 w5 ∧
          ∃ Z' X', RX w5 C r p q m T1 (R.writeO nx (padL l)) Z' X' ∧ (∀ i, Z i → Z' i) ∧ (∀ i, Z' i → Zn w3 w5 Z i) ∧ (∀ i, Xa i → X' i) ∧ (∀ i, X' i → Zn w3 w5 Xa i) := by
    intro w3 k3 T1 Xa hR3
    have hb3 := k3.blk bx (hR0.pl.notF xbx)
    have d3 : ByteSl w3 (.slice ad l.length cd) l := d0.keeps2 k3 hdk
    refine ⟨by have := hR3.hr.cell 4; simpa using this, by have := hb3.cell 4; simpa using this, fun W k1 => ?_⟩
    refine (padded_w W _ l (d3.keeps k1 (fun _ _ f => f))).mono ?_
    rintro e w4 ⟨g, k, rest, rfl, x1', x2, x3, x4⟩
    have k2 := k1.step x4
    refine ⟨g, k, rfl, k2, fun W2 k4 => ?_⟩
    have hz1 := k1.size
    obtain ⟨x21, x22⟩ := x2
    refine (rwriteO_w hR3.ref (fun i hi => hR3.pl.lt i (hR3.zX i hi).1) (by rw [hs.put]; exact h.le) (k2.step k4) nx hnx2 (by rw [hs.rl]; exact hbb) (padL l) rest (padL_length l) g k (k4.blk x3 (fun f => f)) x21 x22 (by omega)).mono ?_
    rintro e w5 ⟨rfl, hst⟩
    refine ⟨rfl, hst.k, _, _, hR3.doc hst, fun i hi => .inl hi, fun i hi => hi, fun i hi => .inl hi, fun i hi => hi⟩
  have hcells : ∀ W, Keeps (KF C) wA W → W.cell? ⟨u, 0, none⟩ = some (.pointer (some ⟨C.t, 0, none⟩)) ∧ W.cell? ⟨w.heap.size, 4, none⟩ = some (.slice ad l.length cd) := fun W k => by
    have y1 := (k.blk u0 (hR0.pl.notF (.inl xu))).cell 0
    have y2 := (k.blk bx (hR0.pl.notF xbx)).cell 4
    simp at y1 y2
    exact ⟨y1, y2⟩
  have hcells7 : ∀ w3, Keeps (KF C) wA w3 → ∀ W, Keeps Z w3 W → W.cell? ⟨w.heap.size, 4, none⟩ = some (.slice ad l.length cd) := fun w3 k3 W k => by
    have hb3 := k3.blk bx (hR0.pl.notF xbx)
    have y2 := (k.blk hb3 (fun z => by have := h.pl.lt _ (h.zX _ z).1; omega)).cell 4
    simpa using y2
  have hcellr : ∀ w3 T1 Xa (_ : RX w3 C r p q m T1 R Z Xa) W, Keeps Z w3 W → W.cell? ⟨r, 4, none⟩ = some (.pointer (some ⟨m, 0, none⟩)) := fun w3 T1 Xa hR W k => by
    have y := (k.blk hR.hr (fun z => (hR.zX _ z).2.1 rfl)).cell 4
    simpa using y
  obtain ⟨hE, hS'⟩ := hs.writeO nx hnx2 hbb (padL l)
  rw [hE] at hP2
  have hfin : ∀ w3 (k3 : Keeps (KF C) wA w3) w5 (k5 : Keeps Z w3 w5) Xa (_ : ∀ i, X i → Xa i) (_ : ∀ i, Xa i → Zn w w3 X i) Z' X' (_ : RX w5 C r p q m (T.putB nx (padL l)).2 (R.writeO nx (padL l)) Z' X') (_ : ∀ i, Z i → Z' i) (_ : ∀ i, Z' i → Zn w3 w5 Z i) (_ : ∀ i, Xa i → X' i) (_ : ∀ i, X' i → Zn w3 w5 Xa i),
      MovePost J w C r p q m Z X (.returned (.bool true)) w5 := by
    intro w3 k3 w5 k5 Xa q1 q2 Z' X' hR5 q3 q4 q5 q6
    have z1 := kA.size
    have z3 := k3.size
    have z5 := k5.size
    refine ⟨_, _, Z', X', hJ nx _, rfl, hR5, hS', ?_, q3, fun i hi => (q4 i hi).elim .inl (fun x => .inr ⟨by omega, x.2⟩), fun i hi => q5 i (q1 i hi), fun i hi => ?_⟩
    · exact ((kA.mono fun _ _ f => f.elim).step (k3.mono fun _ _ f => .inl f)).step (k5.mono fun _ _ f => .inr f)
    · rcases q6 i hi with f | f
      · rcases q2 i f with f | f
        · exact .inl f
        · exact .inr ⟨f.1, by omega⟩
      · exact .inr ⟨by omega, f.2⟩
  generalize MovePost J w C r p q m Z X = Post at *
  have hblk : (nx : Int) < (C.G.blocks : Int) := by omega
  have cu := u0.cell 0
  simp at cu
  generalize C.G.blocks = BL at *
  generalize (T.putB nx (padL l)).1 = pe at *
  have hdr : ∀ k W, Keeps (fun _ => False) W (W.drewN k) := fun k W => (Keeps.refl _ W).drewN k
  clear hJ hJ0 hnx
  replace h := hid h; replace hs := hid hs; replace hu := hid hu; replace hd := hid hd; replace hdk := hid hdk; replace hdl := hid hdl; replace hW1 := hid hW1; replace kA := hid kA; replace bx := hid bx; replace hR0 := hid hR0; replace xbx := hid xbx; replace d0 := hid d0; replace u0 := hid u0; replace hP1 := hid hP1; replace hP2 := hid hP2; replace hE := hid hE; replace hS' := hid hS'; replace hfin := hid hfin; replace hdr := hid hdr; replace hWA := hid hWA; replace hcells := hid hcells; replace hcells7 := hid hcells7; replace hcellr := hid hcellr
  unfold stepV
  go_enter Tryz.func133, Tryz.ntmps133
  go_upto_region 1 with fail
  rw [hWA.out]
  go_upto_region 6 with (first
    | (go_at_call_of 24 (Value.int .i64 n); first
        | (refine (hW1.out _).mono ?_; rintro e w' ⟨rfl, rfl⟩; clear hW1)))
  have kD : Keeps (fun _ => False) wA wA.drew := (Keeps.refl _ _).drew
  obtain ⟨s1, s2⟩ := hcells.out _ (kD.mono (G := KF C) fun _ _ f => f.elim)
  replace kD := hid kD
  go_region_held3 (fun W => W.cell? ⟨u, 0, none⟩ = some (.pointer (some ⟨C.t, 0, none⟩)) ∧ W.cell? ⟨w.heap.size, 4, none⟩ = some (.slice ad l.length cd)) (first | with_reducible exact ⟨s1, s2⟩ | with_reducible exact ⟨s3, s4⟩ | with_reducible exact ⟨s5, s6⟩) (first
    | (go_at_call 170; refine (hP1.out _ kD.out).mono ?_; rintro e w2 ⟨g, k, rfl, k2, hPu⟩; obtain ⟨s3, s4⟩ := hcells.out _ (k2.mono (G := KF C) fun _ _ f => f.elim); replace k2 := hid k2; replace hPu := hid hPu)
    | (go_at_call 66; refine (hPu.out _ (Keeps.refl _ _)).mono ?_; rintro e w3 ⟨rfl, k3, Xa, hR3, q1, q2⟩; obtain ⟨s5, s6⟩ := hcells.out _ k3; replace k3 := hid k3; replace hR3 := hid hR3; replace q1 := hid q1; replace q2 := hid q2))
  rename_i hHeld
  clear hHeld s1 s2 s3 s4 s5 s6
  obtain ⟨e4, e5, hPd⟩ := hP2.out w3 k3.out _ _ hR3.out
  have kE : Keeps (fun _ => False) w3 w3.drew := (Keeps.refl _ _).drew
  have e4' : w3.drew.cell? ⟨r, 4, none⟩ = some (.pointer (some ⟨m, 0, none⟩)) := e4
  have e5' : w3.drew.cell? ⟨w.heap.size, 4, none⟩ = some (.slice ad l.length cd) := e5
  have hcr := hcellr.out w3 _ _ hR3.out
  have hc7 := hcells7.out w3 k3.out
  replace kE := hid kE; replace hPd := hid hPd; replace hcr := hid hcr; replace hc7 := hid hc7
  go_upto_region 7 with fail
  go_region_held3 (fun W => W.cell? ⟨r, 4, none⟩ = some (.pointer (some ⟨m, 0, none⟩)) ∧ W.cell? ⟨w.heap.size, 4, none⟩ = some (.slice ad l.length cd)) (first | with_reducible exact ⟨e4', e5'⟩ | with_reducible exact ⟨f3, f4⟩ | with_reducible exact ⟨f5, f6⟩) (first
    | (go_at_call 170; refine (hPd.out _ kE.out).mono ?_; rintro e w4 ⟨g4, k4, rfl, kk4, hWr⟩; have f3 := hcr.out _ (kk4.mono (G := Z) fun _ _ f => f.elim); have f4 := hc7.out _ (kk4.mono (G := Z) fun _ _ f => f.elim); replace kk4 := hid kk4; replace hWr := hid hWr)
    | (go_at_call 171; refine (hWr.out _ (Keeps.refl _ _)).mono ?_; rintro e w5 ⟨rfl, k5, Z', X', hR5, q3, q4, q5, q6⟩; have f5 := hcr.out _ k5; have f6 := hc7.out _ k5; have hF := hfin.out w3 k3.out w5 k5 Xa q1.out q2.out Z' X' hR5 q3 q4 q5 q6; replace hF := hid hF; clear k5 hR5 q3 q4 q5 q6))
  rename_i hHeld
  clear hHeld
  go_wp2_with (go_at_call 19; refine (num_w _ _).mono ?_; rintro e w' ⟨rfl, rfl⟩)
  exact hF.out
end
end Go.Vk

namespace Go.Vk
open Go.RowKit Go.Proofs

section
variable {J : TS → Prop} {w0 w w' w1 : World} {r : Nat} {F X : Nat → Prop} {e : Ending} (s : StepR)
theorem sOk10 (h : Side J w r F X) (hL : ∀ T T', T.Like T' → J T → J T') (hk : s.k = 10) (hd : ByteSl w s.d s.l) (hl : s.l ≠ [] → ∀ g, s.d.ownBlock = some g → ¬ F g) : Calls Tryz.prog 79 #[.pointer (some ⟨r, 0, none⟩), s.v] w (SidePost J w r F X) := by
  obtain ⟨C, p, q, m, T, R, Z, rfl, hJ, hs, r2, r3, hR⟩ := h.at
  obtain ⟨k, n, who, two, d, l⟩ := s
  replace hd : ByteSl w d l := hd
  obtain ⟨ad, cd, rfl, hx⟩ := id hd
  obtain rfl : k = 10 := hk
  refine stepR_w r2 r3 10 n (.inl rfl) who two ad l.length cd (fun e w' x => x.val) (fun w1 kA => ?_)
  obtain ⟨hR1, hu⟩ := hR w1 kA
  exact (raw10_w hR1 hs _ (hu who).1 (hu who).2 J hJ (fun b d => hL _ _ (TS.putB_like _ _ _) hJ) n who two _ l (hd.keeps kA (fun _ _ f => f)) (fun hne g hg f => hl hne g hg (.inl f))).mono fun e w' x => (MovePost.step x).mv kA
theorem spoilN_le {T : TS} (h : T.put.length ≤ 16) (n : Int) : (T.spoilN n).2.put.length ≤ 16 := by
  unfold TS.spoilN
  repeat' split
  all_goals exact h
set_option maxRecDepth 100000 in
set_option maxHeartbeats 2000000 in
theorem sOk13 (h : Side J w r F X) (hL : ∀ T T', T.Like T' → J T → J T') (hk : s.k = 13) (hd : ByteSl w s.d s.l) : Calls Tryz.prog 79 #[.pointer (some ⟨r, 0, none⟩), s.v] w (SidePost J w r F X) := by
  obtain ⟨C, p, q, m, T, R, Z, rfl, hJ, hs, r2, r3, hR⟩ := h.at
  obtain ⟨k, n, who, two, d, l⟩ := s
  replace hd : ByteSl w d l := hd
  obtain ⟨ad, cd, rfl, _⟩ := hd
  obtain rfl : k = 13 := hk
  have kA : Keeps (fun _ => False) w (w.alloc (.cells #[.int .i64 13, .int .i64 n, .bool who, .bool two, .slice ad l.length cd] 138 (0, 0))) := (Keeps.refl _ w).alloc _
  have bx := Blk.new w (.cells #[.int .i64 13, .int .i64 n, .bool who, .bool two, .slice ad l.length cd] 138 (0, 0))
  obtain ⟨hR1, hu⟩ := hR _ kA
  obtain ⟨hu1, hu2⟩ := hu who
  have xbx : Zn w (w.alloc (.cells #[.int .i64 13, .int .i64 n, .bool who, .bool two, .slice ad l.length cd] 138 (0, 0))) X w.heap.size := .inr ⟨Nat.le_refl _, by rw [World.size_alloc]; omega⟩
  have e2 := kA.cellF r2 (fun f => f)
  have e3 := kA.cellF r3 (fun f => f)
  generalize hWA : w.alloc (.cells #[.int .i64 13, .int .i64 n, .bool who, .bool two, .slice ad l.length cd] 138 (0, 0)) = wA at *
  obtain ⟨hE, hS'⟩ := hs.spoil n
  have hZw : ∀ i, Z i → i < w.heap.size := fun i hi => h.lt (.inr (.inl hi))
  have hA1 : ∀ W, Keeps (fun _ => False) wA W → Calls Tryz.prog 119 #[.pointer (some ⟨C.t, 0, none⟩), .int .i64 n] W fun e w3 => e = .returned (.int .i64 ((T.spoilN n).1 : Nat)) ∧
      w3.cell? ⟨if who then q else p, 0, none⟩ = some (.pointer (some ⟨C.t, 0, none⟩)) ∧ w3.cell? ⟨w.heap.size, 1, none⟩ = some (.int .i64 n) ∧ w3.cell? ⟨r, 4, none⟩ = some (.pointer (some ⟨m, 0, none⟩)) ∧
      ∀ W', Keeps (fun _ => False) w3 W' → Calls Tryz.prog 134 #[.pointer (some ⟨m, 0, none⟩), .int .i64 n] W' fun e w5 => e = .returned (.int .i64 ((T.spoilN n).1 : Nat)) ∧ w5.cell? ⟨r, 4, none⟩ = some (.pointer (some ⟨m, 0, none⟩)) ∧ w5.cell? ⟨w.heap.size, 1, none⟩ = some (.int .i64 n) ∧ SidePost J w r (Foot C r p q Z) X (.returned (.bool true)) w5 := by
    intro W kW
    have hRW := hR1.other kW (fun _ _ f => f.elim)
    have bW := kW.blk bx (fun f => f)
    have uW := kW.blk hu1 (fun f => f)
    have sA := kA.size
    have sW := kW.size
    refine (hRW.pl.spoilN n).mono ?_
    rintro e w3 ⟨rfl, y2, y3⟩
    have hR3 := hRW.pool y3 y2 (spoilN_le hRW.le n) (TS.spoilN_like _ _).1
    have xb3 : Zn wA W (Zn w wA X) w.heap.size := .inl xbx
    have b3 := y3.blk bW (hRW.pl.notF xb3)
    have s3 := y3.size
    refine ⟨rfl, by have := (y3.blk uW (hRW.pl.notF (.inl hu2))).cell 0; simpa using this, by have := b3.cell 1; simpa using this, by have := hR3.hr.cell 4; simpa using this, fun W' kW' => ?_⟩
    have hR4 := hR3.other kW' (fun _ _ f => f.elim)
    have s4 := kW'.size
    refine (rspoil_w hR4.ref n).mono ?_
    rintro e w5 ⟨rfl, hst⟩
    have hR5 := hR4.doc hst
    have b5 := hst.k.blk (kW'.blk b3 (fun f => f)) (fun z => by have := hZw _ z; omega)
    refine ⟨by rw [hE], by have := hR5.hr.cell 4; simpa using this, by have := b5.cell 1; simpa using this, ?_⟩
    exact (MovePost.fin2 (J := J) ((((kA.step kW).mono fun _ _ f => f.elim).step y3).step (kW'.mono fun _ _ f => f.elim)) hR4 (fun i hi => .inl (.inl (.inl hi))) (fun i hi => by
      rcases hi with ((hi | hi) | hi) | hi
      · exact .inl hi
      · exact .inr ⟨hi.1, by omega⟩
      · exact .inr ⟨by omega, by omega⟩
      · exact .inr ⟨by omega, hi.2⟩) hst (hL _ _ (TS.spoilN_like T n) hJ) hS').step
  have cu := hu1.cell 0
  have cb0 := bx.cell 0
  have cb1 := bx.cell 1
  have cb2 := bx.cell 2
  simp at cu cb0 cb1 cb2
  clear h bx hR hu xbx r2 r3 hS' hE hR1 hu1 hu2 hZw hs hJ hL
  generalize hPost : SidePost J w r (Foot C r p q Z) X = Post at *
  generalize (T.spoilN n).1 = v at *
  have kE : Keeps (fun _ => False) wA wA.drew := (Keeps.refl _ _).drew
  unfold StepR.v stepV
  cases who
  case false =>
    simp only [if_true, Bool.false_eq_true, if_false] at hA1 cu
    replace hA1 := hid hA1; replace kA := hid kA; replace hPost := hid hPost; replace kE := hid kE; replace hWA := hid hWA
    go_enter Tryz.func79, Tryz.ntmps79
    go_upto_region 1 with fail
    rw [hWA.out]
    go_upto_region 24 with fail
    have cu' : wA.drew.cell? ⟨p, 0, none⟩ = some (.pointer (some ⟨C.t, 0, none⟩)) := cu
    have cb' : wA.drew.cell? ⟨w.heap.size, 1, none⟩ = some (.int .i64 n) := cb1
    go_region_held3 (fun W => W.cell? ⟨p, 0, none⟩ = some (.pointer (some ⟨C.t, 0, none⟩)) ∧ W.cell? ⟨w.heap.size, 1, none⟩ = some (.int .i64 n)) (first | with_reducible exact ⟨cu', cb'⟩ | with_reducible exact ⟨f1, f2⟩) (first
      | (go_at_call 119; refine (hA1.out _ kE.out).mono ?_; rintro e w3 ⟨rfl, f1, f2, f3, hB⟩; replace hB := hid hB))
    rename_i hHeld
    clear hHeld
    have kD : Keeps (fun _ => False) w3 w3.drew := (Keeps.refl _ _).drew
    have f2' : w3.drew.cell? ⟨w.heap.size, 1, none⟩ = some (.int .i64 n) := f2
    have f3' : w3.drew.cell? ⟨r, 4, none⟩ = some (.pointer (some ⟨m, 0, none⟩)) := f3
    replace kD := hid kD
    go_upto_region 25 with fail
    go_region_held3 (fun W => W.cell? ⟨r, 4, none⟩ = some (.pointer (some ⟨m, 0, none⟩)) ∧ W.cell? ⟨w.heap.size, 1, none⟩ = some (.int .i64 n)) (first | with_reducible exact ⟨f3', f2'⟩ | with_reducible exact ⟨g1, g2⟩) (first
      | (go_at_call 134; refine (hB.out _ kD.out).mono ?_; rintro e w5 ⟨rfl, g1, g2, hF⟩; replace hF := hid hF))
    rename_i hHeld
    clear hHeld
    go_wp2_with (go_at_call 19; refine (num_w _ _).mono ?_; rintro e w' ⟨rfl, rfl⟩)
    exact hF.out
  case true =>
    simp only [if_true, Bool.false_eq_true, if_false] at hA1 cu
    replace hA1 := hid hA1; replace kA := hid kA; replace hPost := hid hPost; replace kE := hid kE; replace hWA := hid hWA
    go_enter Tryz.func79, Tryz.ntmps79
    go_upto_region 1 with fail
    rw [hWA.out]
    go_upto_region 24 with fail
    have cu' : wA.drew.cell? ⟨q, 0, none⟩ = some (.pointer (some ⟨C.t, 0, none⟩)) := cu
    have cb' : wA.drew.cell? ⟨w.heap.size, 1, none⟩ = some (.int .i64 n) := cb1
    go_region_held3 (fun W => W.cell? ⟨q, 0, none⟩ = some (.pointer (some ⟨C.t, 0, none⟩)) ∧ W.cell? ⟨w.heap.size, 1, none⟩ = some (.int .i64 n)) (first | with_reducible exact ⟨cu', cb'⟩ | with_reducible exact ⟨f1, f2⟩) (first
      | (go_at_call 119; refine (hA1.out _ kE.out).mono ?_; rintro e w3 ⟨rfl, f1, f2, f3, hB⟩; replace hB := hid hB))
    rename_i hHeld
    clear hHeld
    have kD : Keeps (fun _ => False) w3 w3.drew := (Keeps.refl _ _).drew
    have f2' : w3.drew.cell? ⟨w.heap.size, 1, none⟩ = some (.int .i64 n) := f2
    have f3' : w3.drew.cell? ⟨r, 4, none⟩ = some (.pointer (some ⟨m, 0, none⟩)) := f3
    replace kD := hid kD
    go_upto_region 25 with fail
    go_region_held3 (fun W => W.cell? ⟨r, 4, none⟩ = some (.pointer (some ⟨m, 0, none⟩)) ∧ W.cell? ⟨w.heap.size, 1, none⟩ = some (.int .i64 n)) (first | with_reducible exact ⟨f3', f2'⟩ | with_reducible exact ⟨g1, g2⟩) (first
      | (go_at_call 134; refine (hB.out _ kD.out).mono ?_; rintro e w5 ⟨rfl, g1, g2, hF⟩; replace hF := hid hF))
    rename_i hHeld
    clear hHeld
    go_wp2_with (go_at_call 19; refine (num_w _ _).mono ?_; rintro e w' ⟨rfl, rfl⟩)
    exact hF.out
end
theorem stepOk_budget {J : Nat → TS → Prop} (hJ : JOk J) : StepOk J [1, 2, 3, 4, 5, 9, 10, 11, 12, 13] := fun i w r F X _ h s hs hn hd hl => by
  have hL := hJ.1 i
  simp only [List.mem_cons, List.not_mem_nil, or_false] at hs
  rcases hs with hs | hs | hs | hs | hs | hs | hs | hs | hs | hs
  · exact (sOk1 s h hL hs hd).mono fun e w' x => x.weak (hJ.2 i)
  · exact (sOk2 s h hL hs hd).mono fun e w' x => x.weak (hJ.2 i)
  · exact (sOk3 s h hL hs hn hd).mono fun e w' x => x.weak (hJ.2 i)
  · exact (sOk4 s h hL hs hd).mono fun e w' x => x.weak (hJ.2 i)
  · exact (sOk5 s h hL hs hn hd).mono fun e w' x => x.weak (hJ.2 i)
  · exact (sOk9 s h hL hs hd).mono fun e w' x => x.weak (hJ.2 i)
  · exact (sOk10 s h hL hs hd hl).mono fun e w' x => x.weak (hJ.2 i)
  · exact (sOk11 s h hL hs hd hl).mono fun e w' x => x.weak (hJ.2 i)
  · exact (sOk12 s h hs hd).mono fun e w' x => x.weak (hJ.2 i)
  · exact (sOk13 s h hL hs hd).mono fun e w' x => x.weak (hJ.2 i)
end Go.Vk
