/- The walk of raw of the law, of kind 11: a bitmap is put over. The walk of calls of the law, of kind 1: Clear. The walks of calls of the law, of kinds 2 to 6. The walk of step of the law: whom it calls. Plain: one side of the exact law: a rig, what it may turn, what another may turn; two sides beside one another. The steps of the argument, as the reading of the argument tells them. -/
import Derived.Test.YtceodjgajkimnaaGreatMS
import Derived.Test.YtceodjgajkimnaaGreatMV
import Derived.Test.YtceodjgajkimnaaGreatNC
import Derived.Deep.Slices
import Derived.ChangeSlices
import Derived.Lib.SmallJoins
import Derived.DataShut
set_option linter.unusedVariables false

namespace Go.Vk
open Go.RowKit Go.Proofs

/-- Behind a step: both have moved alike. -/
def MovePost (J : TS → Prop) (w : World) (C : TxC) (r p q m : Nat) (Z X : Nat → Prop) (e : Ending) (w' : World) : Prop :=
  ∃ (T' : TS) (R' : RP) (Z' X' : Nat → Prop), J T' ∧ e = .returned (.bool true) ∧ RX w' C r p q m T' R' Z' X' ∧ Same R' T' C.G ∧ Keeps (fun i => KF C i ∨ Z i) w w' ∧ (∀ i, Z i → Z' i) ∧ (∀ i, Z' i → Zn w w' Z i) ∧ (∀ i, X i → X' i) ∧ (∀ i, X' i → Zn w w' X i)
def stepV (kind n : Int) (who two : Bool) (data : Value) : Value := .agg #[.int .i64 kind, .int .i64 n, .bool who, .bool two, data]
section
variable {w w' w0 : World} {C : TxC} {r p q m : Nat} {T T' : TS} {R R' : RP} {Z X Y : Nat → Prop}
theorem Zn.back {w1 w2 : World} {i : Nat} (h : Zn w0 w2 X i) : Zn w1 w2 (Zn w0 w1 X) i := by
  rcases h with h | h
  · exact .inl (.inl h)
  · by_cases e : i < w1.heap.size
    · exact .inl (.inr ⟨h.1, e⟩)
    · exact .inr ⟨by omega, h.2⟩
theorem RX.zoneZ {Z2 : Nat → Prop} (h : RX w C r p q m T R Z X) (h1 : ∀ i, Z i → Z2 i) (h2 : ∀ i, Z2 i → Z i) : RX w C r p q m T R Z2 X := by
  have e : Z = Z2 := funext fun i => propext ⟨h1 i, h2 i⟩
  rw [← e]; exact h
theorem ByteSl.keeps2 {Gf : Nat → Prop} {v : Value} {l : List UInt8} (h : ByteSl w v l) (k : Keeps Gf w w') (hG : l ≠ [] → ∀ g, v.ownBlock = some g → ¬ Gf g) : ByteSl w' v l := by
  by_cases hl : l = []
  · obtain ⟨a, cap, e, _⟩ := h
    exact ⟨a, cap, e, .inl hl⟩
  · exact h.keeps k (hG hl)
theorem putB_le (h : T.put.length ≤ 16) (b : Nat) (data : List UInt8) : (T.putB b data).2.put.length ≤ 16 := by
  unfold TS.putB TS.puts
  repeat' split
  all_goals first | exact h | (show (T.put ++ [b]).length ≤ 16; rw [List.length_append, List.length_singleton]; omega)
set_option maxRecDepth 100000 in
set_option maxHeartbeats 4000000 in
theorem raw11_w (h : RX w C r p q m T R Z X) (hs : Same R T C.G) (u : Nat) (hu : Blk w u (poolO C.t)) (xu : X u) (J : TS → Prop) (hJ : ∀ nd : Bool, ∀ d : List UInt8, J (T.putB nd.toNat d).2) (n : Int) (who two : Bool) (data : Value) (l : List UInt8) (hd : ByteSl w data l) (hdk : l ≠ [] → ∀ g, data.ownBlock = some g → ¬ KF C g) :
    Calls Tryz.prog 133 #[.pointer (some ⟨r, 0, none⟩), .pointer (some ⟨u, 0, none⟩), stepV 11 n who two data] w (MovePost J w C r p q m Z X) := by
  have hgeo := h.pl.geo.b1
  obtain ⟨ad, cd, rfl, hdl⟩ := id hd
  have hW1 := fun w => within_w w n 0 29 (by omega) (by omega)
  have hW2 := fun w => within_w w n 0 1 (by omega) (by omega)
  have hw1b := withinN_le n (show 0 ≤ 29 by omega)
  have hw2b := withinN_le n (show 0 ≤ 1 by omega)
  generalize withinN n 0 29 = x1 at *
  obtain ⟨nd, hnd⟩ : ∃ nd : Bool, withinN n 0 1 = nd.toNat := by
    generalize withinN n 0 1 = x at hw2b
    match x, hw2b with
    | 0, _ => exact ⟨false, rfl⟩
    | 1, _ => exact ⟨true, rfl⟩
  rw [hnd] at hW2
  have kA : Keeps (fun _ => False) w (w.alloc (.cells #[.int .i64 11, .int .i64 n, .bool who, .bool two, .slice ad l.length cd] 138 (0, 0))) := (Keeps.refl _ w).alloc _
  have bx := Blk.new w (.cells #[.int .i64 11, .int .i64 n, .bool who, .bool two, .slice ad l.length cd] 138 (0, 0))
  have hR0 := h.refl.mv (Nat.le_refl _) kA
  have xbx : Zn w (w.alloc (.cells #[.int .i64 11, .int .i64 n, .bool who, .bool two, .slice ad l.length cd] 138 (0, 0))) X w.heap.size := .inr ⟨Nat.le_refl _, by rw [World.size_alloc]; omega⟩
  have d0 := hd.keeps kA (fun _ _ f => f)
  have u0 := kA.blk hu (fun f => f)
  generalize hWA : w.alloc (.cells #[.int .i64 11, .int .i64 n, .bool who, .bool two, .slice ad l.length cd] 138 (0, 0)) = wA at *
  have b0 := bx.cell 0
  have b1 := bx.cell 1
  have b4 := bx.cell 4
  simp at b0 b1 b4
  have r4 := hR0.hr.cell 4
  simp at r4
  have hm0 : wA.cell? ⟨m, 0, none⟩ = some (.int .i64 (C.G.blocks : Nat)) := by
    obtain ⟨V, hV⟩ := hR0.ref
    have hm := hV.hm
    unfold refO at hm
    have := hm.cell 0
    rw [hs.blocks] at this
    simpa using this
  have hP1 : ∀ W, Keeps (fun _ => False) wA W → Calls Tryz.prog 170 #[.slice ad l.length cd] W fun e w2 => ∃ g k, e = .returned (.slice (some ⟨g, 0, none⟩) 512 (512 + k)) ∧ Keeps (fun _ => False) wA w2 ∧
      ∀ W2, Keeps (fun _ => False) w2 W2 → Calls Tryz.prog 66 #[.pointer (some ⟨C.t, 0, none⟩), .int .i64 nd.toNat, .slice (some ⟨g, 0, none⟩) 512 (512 + k)] W2 fun e w3 => e = .returned (.int .i64 ((T.putB nd.toNat (padL l)).1 : Nat)) ∧ Keeps (KF C) wA w3 ∧
        ∃ Xa, RX w3 C r p q m (T.putB nd.toNat (padL l)).2 R Z Xa ∧ (∀ i, X i → Xa i) ∧ (∀ i, Xa i → Zn w w3 X i) := by
    intro W k1
    refine (padded_w W _ l (d0.keeps k1 (fun _ _ f => f))).mono ?_
    rintro e w2 ⟨g, k, rest, rfl, x1', x2, x3, x4⟩
    have k2 := k1.step x4
    refine ⟨g, k, rfl, k2, fun W2 k3 => ?_⟩
    have hR2 := hR0.mv kA.size (k2.step k3)
    have hz1 := k1.size
    have hzA := kA.size
    refine (hR2.pl.put nd.toNat (by cases nd <;> simp <;> omega) g (512 + k) (padL l) rest (k3.blk x3 (fun f => f)) (.inr ⟨by omega, by have := x3.lt; have := k3.size; omega⟩) (padL_length l)).mono ?_
    rintro e w3 ⟨rfl, y2, y3⟩
    have hz3 := y3.size
    exact ⟨rfl, ((k2.step k3).mono fun _ _ f => f.elim).step y3, _, hR2.pool y3 y2 (putB_le h.le _ _) (TS.putB_like _ _ _).1, fun i hi => .inl hi, fun i hi => hi.elim .inl (fun x => .inr ⟨x.1, by omega⟩)⟩
  have hP2 : ∀ w3 (k3 : Keeps (KF C) wA w3) (T1 : TS) (Xa : Nat → Prop) (hR3 : RX w3 C r p q m T1 R Z Xa), w3.cell? ⟨r, 4, none⟩ = some (.pointer (some ⟨m, 0, none⟩)) ∧ w3.cell? ⟨w.heap.size, 4, none⟩ = some (.slice ad l.length cd) ∧
      ∀ W, Keeps (fun _ => False) w3 W → Calls Tryz.prog 170 #[.slice ad l.length cd] W fun e w4 => ∃ g k, e = .returned (.slice (some ⟨g, 0, none⟩) 512 (512 + k)) ∧ Keeps (fun _ => False) w3 w4 ∧
        ∀ W2, Keeps (fun _ => False) w4 W2 → Calls Tryz.prog 171 #[.pointer (some ⟨m, 0, none⟩), .int .i64 nd.toNat, .slice (some ⟨g, 0, none⟩) 512 (512 + k)] W2 fun e w5 => e = .returned (.int .i64 (R.writeE nd (padL l) : Nat)) ∧ Keeps Z w3 w5 ∧
          ∃ Z' X', RX w5 C r p q m T1 (R.write nd (padL l)) Z' X' ∧ (∀ i, Z i → Z' i) ∧ (∀ i, Z' i → Zn w3 w5 Z i) ∧ (∀ i, Xa i → X' i) ∧ (∀ i, X' i → Zn w3 w5 Xa i) := by
    intro w3 k3 T1 Xa hR3
    have hb3 := k3.blk bx (hR0.pl.notF xbx)
    have d3 : ByteSl w3 (.slice ad l.length cd) l := d0.keeps2 k3 hdk
    refine ⟨by have := hR3.hr.cell 4; simpa using this, by have := hb3.cell 4; simpa using this, fun W k1 => ?_⟩
    refine (padded_w W _ l (d3.keeps k1 (fun _ _ f => f))).mono ?_
    rintro e w4 ⟨g, k, rest, rfl, x1', x2, x3, x4⟩
    have k2 := k1.step x4
    refine ⟨g, k, rfl, k2, fun W2 k4 => ?_⟩
    have hR4 := hR3.other (k2.step k4) (fun _ _ f => f.elim)
    have hsl : ByteSl W2 (.slice (some ⟨g, 0, none⟩) 512 (512 + k)) (padL l) := by
      refine ⟨some ⟨g, 0, none⟩, 512 + k, by rw [padL_length], .inr ⟨g, 0, rfl, fun i hi => ?_⟩⟩
      have := (k4.blk x3 (fun f => f)).cell i
      simp at this
      rw [Nat.zero_add, this, List.getElem?_append_left (by simpa using hi)]
      simp [B, hi]
    refine (rwrite_w hR4.ref (fun i hi => hR4.pl.lt i (hR4.zX i hi).1) (by rw [hs.put]; exact h.le) nd hsl (by rw [padL_length]; omega)).mono ?_
    rintro e w5 ⟨rfl, hst⟩
    have hz4 := (k2.step k4).size
    have hz5 := hst.k.size
    refine ⟨rfl, ((k2.step k4).mono fun _ _ f => f.elim).step hst.k, _, _, hR4.doc hst, fun i hi => .inl hi, fun i hi => hi.elim .inl (fun x => .inr ⟨by omega, x.2⟩), fun i hi => .inl (.inl hi), fun i hi => Zn.trans hz4 hz5 hi⟩
  have hcells : ∀ W, Keeps (KF C) wA W → W.cell? ⟨u, 0, none⟩ = some (.pointer (some ⟨C.t, 0, none⟩)) ∧ W.cell? ⟨w.heap.size, 4, none⟩ = some (.slice ad l.length cd) := fun W k => by
    have y1 := (k.blk u0 (hR0.pl.notF (.inl xu))).cell 0
    have y2 := (k.blk bx (hR0.pl.notF xbx)).cell 4
    simp at y1 y2
    exact ⟨y1, y2⟩
  have hcells7 : ∀ w3, Keeps (KF C) wA w3 → ∀ W, Keeps Z w3 W → W.cell? ⟨w.heap.size, 4, none⟩ = some (.slice ad l.length cd) := fun w3 k3 W k => by
    have hb3 := k3.blk bx (hR0.pl.notF xbx)
    have y2 := (k.blk hb3 (fun z => by have := h.pl.lt _ (h.zX _ z).1; omega)).cell 4
    simpa using y2
  have hcellr : ∀ w3 T1 Xa (_ : RX w3 C r p q m T1 R Z Xa) W, Keeps Z w3 W → W.cell? ⟨r, 4, none⟩ = some (.pointer (some ⟨m, 0, none⟩)) := fun w3 T1 Xa hR W k => by
    have y := (k.blk hR.hr (fun z => (hR.zX _ z).2.1 rfl)).cell 4
    simpa using y
  have hlen := h.pl.len nd.toNat (by cases nd <;> simp <;> omega)
  obtain ⟨hE, hS'⟩ := hs.write nd (padL l) (padL_length l) hlen
  rw [hE] at hP2
  have hfin : ∀ w3 (k3 : Keeps (KF C) wA w3) w5 (k5 : Keeps Z w3 w5) Xa (_ : ∀ i, X i → Xa i) (_ : ∀ i, Xa i → Zn w w3 X i) Z' X' (_ : RX w5 C r p q m (T.putB nd.toNat (padL l)).2 (R.write nd (padL l)) Z' X') (_ : ∀ i, Z i → Z' i) (_ : ∀ i, Z' i → Zn w3 w5 Z i) (_ : ∀ i, Xa i → X' i) (_ : ∀ i, X' i → Zn w3 w5 Xa i),
      MovePost J w C r p q m Z X (.returned (.bool true)) w5 := by
    intro w3 k3 w5 k5 Xa q1 q2 Z' X' hR5 q3 q4 q5 q6
    have z1 := kA.size
    have z3 := k3.size
    have z5 := k5.size
    refine ⟨_, _, Z', X', hJ nd _, rfl, hR5, hS', ?_, q3, fun i hi => (q4 i hi).elim .inl (fun x => .inr ⟨by omega, x.2⟩), fun i hi => q5 i (q1 i hi), fun i hi => ?_⟩
    · exact ((kA.mono fun _ _ f => f.elim).step (k3.mono fun _ _ f => .inl f)).step (k5.mono fun _ _ f => .inr f)
    · rcases q6 i hi with f | f
      · rcases q2 i f with f | f
        · exact .inl f
        · exact .inr ⟨f.1, by omega⟩
      · exact .inr ⟨by omega, f.2⟩
  generalize MovePost J w C r p q m Z X = Post at *
  have hblk : (nd.toNat : Int) < (C.G.blocks : Int) := by cases nd <;> simp <;> omega
  have cu := u0.cell 0
  simp at cu
  have hndb : nd.toNat ≤ 1 := by cases nd <;> decide
  generalize C.G.blocks = BL at *
  generalize (T.putB nd.toNat (padL l)).1 = pe at *
  have hdr : ∀ k W, Keeps (fun _ => False) W (W.drewN k) := fun k W => (Keeps.refl _ W).drewN k
  generalize nd.toNat = nx at *
  clear hJ
  replace h := hid h; replace hs := hid hs; replace hu := hid hu; replace hd := hid hd; replace hdk := hid hdk; replace hdl := hid hdl; replace hW1 := hid hW1; replace hW2 := hid hW2; replace kA := hid kA; replace bx := hid bx; replace hR0 := hid hR0; replace xbx := hid xbx; replace d0 := hid d0; replace u0 := hid u0; replace hP1 := hid hP1; replace hP2 := hid hP2; replace hE := hid hE; replace hS' := hid hS'; replace hfin := hid hfin; replace hdr := hid hdr; replace hWA := hid hWA; replace hnd := hid hnd; replace hlen := hid hlen; replace hcells := hid hcells; replace hcells7 := hid hcells7; replace hcellr := hid hcellr
  unfold stepV
  go_enter Tryz.func133, Tryz.ntmps133
  go_upto_region 1 with fail
  rw [hWA.out]
  go_upto_region 6 with (first
    | (go_at_call_of 24 (Value.int .i64 n); first
        | (refine (hW1.out _).mono ?_; rintro e w' ⟨rfl, rfl⟩; clear hW1)
        | (refine (hW2.out _).mono ?_; rintro e w' ⟨rfl, rfl⟩)))
  have kD : Keeps (fun _ => False) wA wA.drew := (Keeps.refl _ _).drew
  obtain ⟨s1, s2⟩ := hcells.out _ (kD.mono (G := KF C) fun _ _ f => f.elim)
  replace kD := hid kD
  go_region_held3 (fun W => W.cell? ⟨u, 0, none⟩ = some (.pointer (some ⟨C.t, 0, none⟩)) ∧ W.cell? ⟨w.heap.size, 4, none⟩ = some (.slice ad l.length cd)) (first | with_reducible exact ⟨s1, s2⟩ | with_reducible exact ⟨s3, s4⟩ | with_reducible exact ⟨s5, s6⟩) (first
    | (go_at_call 170; refine (hP1.out _ kD.out).mono ?_; rintro e w2 ⟨g, k, rfl, k2, hPu⟩; obtain ⟨s3, s4⟩ := hcells.out _ (k2.mono (G := KF C) fun _ _ f => f.elim); replace k2 := hid k2; replace hPu := hid hPu)
    | (go_at_call 66; refine (hPu.out _ (Keeps.refl _ _)).mono ?_; rintro e w3 ⟨rfl, k3, Xa, hR3, q1, q2⟩; obtain ⟨s5, s6⟩ := hcells.out _ k3; replace k3 := hid k3; replace hR3 := hid hR3; replace q1 := hid q1; replace q2 := hid q2))
  rename_i hHeld
  clear hHeld s1 s2 s3 s4 s5 s6
  obtain ⟨e4, e5, hPd⟩ := hP2.out w3 k3.out _ _ hR3.out
  have kE : Keeps (fun _ => False) w3 w3.drew := (Keeps.refl _ _).drew
  have e4' : w3.drew.cell? ⟨r, 4, none⟩ = some (.pointer (some ⟨m, 0, none⟩)) := e4
  have e5' : w3.drew.cell? ⟨w.heap.size, 4, none⟩ = some (.slice ad l.length cd) := e5
  have hcr := hcellr.out w3 _ _ hR3.out
  have hc7 := hcells7.out w3 k3.out
  replace kE := hid kE; replace hPd := hid hPd; replace hcr := hid hcr; replace hc7 := hid hc7
  go_upto_region 7 with fail
  go_region_held3 (fun W => W.cell? ⟨r, 4, none⟩ = some (.pointer (some ⟨m, 0, none⟩)) ∧ W.cell? ⟨w.heap.size, 4, none⟩ = some (.slice ad l.length cd)) (first | with_reducible exact ⟨e4', e5'⟩ | with_reducible exact ⟨f3, f4⟩ | with_reducible exact ⟨f5, f6⟩) (first
    | (go_at_call 170; refine (hPd.out _ kE.out).mono ?_; rintro e w4 ⟨g4, k4, rfl, kk4, hWr⟩; have f3 := hcr.out _ (kk4.mono (G := Z) fun _ _ f => f.elim); have f4 := hc7.out _ (kk4.mono (G := Z) fun _ _ f => f.elim); replace kk4 := hid kk4; replace hWr := hid hWr)
    | (go_at_call 171; refine (hWr.out _ (Keeps.refl _ _)).mono ?_; rintro e w5 ⟨rfl, k5, Z', X', hR5, q3, q4, q5, q6⟩; have f5 := hcr.out _ k5; have f6 := hc7.out _ k5; have hF := hfin.out w3 k3.out w5 k5 Xa q1.out q2.out Z' X' hR5 q3 q4 q5 q6; replace hF := hid hF; clear k5 hR5 q3 q4 q5 q6))
  rename_i hHeld
  clear hHeld
  go_wp2_with (go_at_call 19; refine (num_w _ _).mono ?_; rintro e w' ⟨rfl, rfl⟩)
  exact hF.out
end
end Go.Vk

namespace Go.Vk
open Go.RowKit Go.Proofs

section
variable {w w' w0 : World} {C : TxC} {r p q m : Nat} {T T' : TS} {R R' : RP} {Z X Y : Nat → Prop}
theorem puts_le (h : T.put.length ≤ 16) (b : Nat) (data : List UInt8) : (T.puts b data).2.put.length ≤ 16 := by
  unfold TS.puts
  repeat' split
  all_goals first | exact h | (show (T.put ++ [b]).length ≤ 16; rw [List.length_append, List.length_singleton]; omega)
theorem clear_le (h : T.put.length ≤ 16) (G : Geom) : (T.clear G).2.put.length ≤ 16 := by
  unfold TS.clear TS.clearX
  repeat' split
  · exact puts_le (puts_le h _ _) _ _
  · exact puts_le h _ _
  · exact h
set_option maxHeartbeats 1000000 in
theorem calls1_w (h : RX w C r p q m T R Z X) (hs : Same R T C.G) (u : Nat) (hu : Blk w u (poolO C.t)) (xu : X u) (J : TS → Prop) (hJ : J (T.clear C.G).2)
    (n : Int) (who two : Bool) (ad : Option Addr) (ld cd : Nat) : Calls Tryz.prog 131 #[.pointer (some ⟨r, 0, none⟩), .pointer (some ⟨u, 0, none⟩), stepV 1 n who two (.slice ad ld cd)] w (MovePost J w C r p q m Z X) := by
  have hgeo := h.pl.geo.b1
  have hgeo2 := h.pl.geo.b2
  have kA : Keeps (fun _ => False) w (w.alloc (.cells #[.int .i64 1, .int .i64 n, .bool who, .bool two, .slice ad ld cd] 138 (0, 0))) := (Keeps.refl _ w).alloc _
  have bx := Blk.new w (.cells #[.int .i64 1, .int .i64 n, .bool who, .bool two, .slice ad ld cd] 138 (0, 0))
  have hR0 := h.refl.mv (Nat.le_refl _) kA
  have u0 := kA.blk hu (fun f => f)
  generalize hWA : w.alloc (.cells #[.int .i64 1, .int .i64 n, .bool who, .bool two, .slice ad ld cd] 138 (0, 0)) = wA at *
  have b0 := bx.cell 0
  simp at b0
  obtain ⟨hE, hS'⟩ := hs.clear (h.pl.len 0 (by omega)) (h.pl.len 1 (by omega))
  have hC1 : Calls Tryz.prog 47 #[.pointer (some ⟨u, 0, none⟩)] wA fun e w3 => e = .returned (.int .i64 ((T.clear C.G).1 : Nat)) ∧ w3.cell? ⟨r, 4, none⟩ = some (.pointer (some ⟨m, 0, none⟩)) ∧
      Calls Tryz.prog 77 #[.pointer (some ⟨m, 0, none⟩)] w3 fun e w5 => e = .returned (.int .i64 ((T.clear C.G).1 : Nat)) ∧ MovePost J w C r p q m Z X (.returned (.bool true)) w5 := by
    refine (hR0.pl.clearA u0 (.inl xu)).mono ?_
    rintro e w3 ⟨rfl, y2, y3⟩
    have hR3 := hR0.pool y3 y2 (clear_le h.le _) (TS.clear_like _ _).1
    refine ⟨rfl, by have := hR3.hr.cell 4; simpa using this, ?_⟩
    refine (rclear_w hR3.ref (fun i hi => hR3.pl.lt i (hR3.zX i hi).1) (by rw [hs.put]; exact h.le) (by rw [hs.data]; unfold Geom.data; omega)).mono ?_
    rintro e w5 ⟨rfl, hst⟩
    have z1 := kA.size
    have z3 := y3.size
    have z5 := hst.k.size
    refine ⟨by rw [hE], _, _, _, _, hJ, rfl, hR3.doc hst, hS', ((kA.mono fun _ _ f => f.elim).step (y3.mono fun _ _ f => .inl f)).step (hst.k.mono fun _ _ f => .inr f), fun i hi => .inl hi, fun i hi => hi.elim .inl (fun x => .inr ⟨by omega, x.2⟩), fun i hi => .inl (.inl hi), fun i hi => ?_⟩
    rcases hi with (hi | hi) | hi
    · exact .inl hi
    · exact .inr ⟨hi.1, by omega⟩
    · exact .inr ⟨by omega, hi.2⟩
  generalize MovePost J w C r p q m Z X = Post at *
  generalize (T.clear C.G).1 = pe at *
  replace h := hid h; replace hs := hid hs; replace hu := hid hu; replace kA := hid kA; replace bx := hid bx; replace hR0 := hid hR0; replace u0 := hid u0; replace hE := hid hE; replace hS' := hid hS'; replace hC1 := hid hC1; replace hWA := hid hWA
  unfold stepV
  go_enter Tryz.func131, Tryz.ntmps131
  go_upto_region 1 with fail
  rw [hWA.out]
  go_wp2_with (first
    | (go_at_call 47; refine hC1.out.mono ?_; rintro e w3 ⟨rfl, d4, hC2⟩; replace hC2 := hid hC2)
    | (go_at_call 77; refine hC2.out.mono ?_; rintro e w5 ⟨rfl, hF⟩; replace hF := hid hF)
    | (go_at_call 19; refine (num_w _ _).mono ?_; rintro e w' ⟨rfl, rfl⟩))
  exact hF.out
end
end Go.Vk

namespace Go.Vk
open Go.RowKit Go.Proofs

section
variable {w w' w0 : World} {C : TxC} {r p q m : Nat} {T T' : TS} {R R' : RP} {Z X Y : Nat → Prop}
theorem MovePost.fin {J : TS → Prop} {wA w3 w5 : World} (kA : Keeps (fun _ => False) w wA) (y3 : Keeps (KF C) wA w3) (hR3 : RX w3 C r p q m T' R Z (Zn w wA X)) (hst : RStep w3 w5 m R' Z) (hJ : J T') (hS : Same R' T' C.G) : MovePost J w C r p q m Z X (.returned (.bool true)) w5 := by
  have z1 := kA.size
  have z3 := y3.size
  have z5 := hst.k.size
  refine ⟨_, _, _, _, hJ, rfl, hR3.doc hst, hS, ((kA.mono fun _ _ f => f.elim).step (y3.mono fun _ _ f => .inl f)).step (hst.k.mono fun _ _ f => .inr f), fun i hi => .inl hi, fun i hi => hi.elim .inl (fun x => .inr ⟨by omega, x.2⟩), fun i hi => .inl (.inl hi), fun i hi => ?_⟩
  rcases hi with (hi | hi) | hi
  · exact .inl hi
  · exact .inr ⟨hi.1, by omega⟩
  · exact .inr ⟨by omega, hi.2⟩
theorem MovePost.fin2 {J : TS → Prop} {W w5 : World} {Xa : Nat → Prop} (k : Keeps (KF C) w W) (hR : RX W C r p q m T' R Z Xa) (h1 : ∀ i, X i → Xa i) (h2 : ∀ i, Xa i → Zn w W X i) (hst : RStep W w5 m R' Z) (hJ : J T') (hS : Same R' T' C.G) : MovePost J w C r p q m Z X (.returned (.bool true)) w5 := by
  have z1 := k.size
  have z5 := hst.k.size
  refine ⟨_, _, _, _, hJ, rfl, hR.doc hst, hS, (k.mono fun _ _ f => .inl f).step (hst.k.mono fun _ _ f => .inr f), fun i hi => .inl hi, fun i hi => hi.elim .inl (fun x => .inr ⟨by omega, x.2⟩), fun i hi => .inl (h1 i hi), fun i hi => ?_⟩
  rcases hi with hi | hi
  · exact (h2 i hi).elim .inl (fun x => .inr ⟨x.1, by omega⟩)
  · exact .inr ⟨by omega, hi.2⟩
theorem take_le (h : T.put.length ≤ 16) (G : Geom) (nd : Bool) : (T.take G nd).2.put.length ≤ 16 := by
  unfold TS.take TS.takeX
  split
  · split
    · exact puts_le h _ _
    · exact h
  · exact h
theorem drop_le (h : T.put.length ≤ 16) (G : Geom) (nd : Bool) (n : Int) : (T.drop G nd n).2.put.length ≤ 16 := by
  unfold TS.drop TS.dropX
  repeat' split
  · exact h
  · exact puts_le h _ _
  · exact h
  · exact h
set_option maxRecDepth 100000 in
set_option maxHeartbeats 1000000 in
theorem calls2_w (h : RX w C r p q m T R Z X) (hs : Same R T C.G) (u : Nat) (hu : Blk w u (poolO C.t)) (xu : X u) (J : TS → Prop)
    (n : Int) (hJ : J (T.take C.G false).2) (who two : Bool) (ad : Option Addr) (ld cd : Nat) : Calls Tryz.prog 131 #[.pointer (some ⟨r, 0, none⟩), .pointer (some ⟨u, 0, none⟩), stepV 2 n who two (.slice ad ld cd)] w (MovePost J w C r p q m Z X) := by
  have g1 := h.pl.geo.b1
  have g2 := h.pl.geo.b2
  have g3 := h.pl.geo.n1
  have g4 := h.pl.geo.n2
  have kA : Keeps (fun _ => False) w (w.alloc (.cells #[.int .i64 2, .int .i64 n, .bool who, .bool two, .slice ad ld cd] 138 (0, 0))) := (Keeps.refl _ w).alloc _
  have bx := Blk.new w (.cells #[.int .i64 2, .int .i64 n, .bool who, .bool two, .slice ad ld cd] 138 (0, 0))
  have hR0 := h.refl.mv (Nat.le_refl _) kA
  have u0 := kA.blk hu (fun f => f)
  have xbx : Zn w (w.alloc (.cells #[.int .i64 2, .int .i64 n, .bool who, .bool two, .slice ad ld cd] 138 (0, 0))) X w.heap.size := .inr ⟨Nat.le_refl _, by rw [World.size_alloc]; omega⟩
  generalize hWA : w.alloc (.cells #[.int .i64 2, .int .i64 n, .bool who, .bool two, .slice ad ld cd] 138 (0, 0)) = wA at *
  have b0 := bx.cell 0
  have b1 := bx.cell 1
  simp at b0 b1
  have eL : ∀ nd, rLo R nd = xLo C.G nd := fun nd => by unfold rLo xLo; rw [hs.data]
  have eH : ∀ nd, rHi R nd = xHi C.G nd := fun nd => by unfold rHi xHi; rw [hs.nodes, hs.blocks]
  have xh : ∀ nd, xLo C.G nd ≤ xHi C.G nd ∧ xHi C.G nd ≤ 2048 := fun nd => by
    unfold xLo xHi Geom.data
    cases nd
    · simp; omega
    · simp; omega
  have hl0 := h.pl.len 0 (by omega)
  have hl1 := h.pl.len 1 (by omega)
  obtain ⟨hE, hS'⟩ := hs.take false hl0 (by have := (xh false).2; omega)
  have hC1 : Calls Tryz.prog 49 #[.pointer (some ⟨u, 0, none⟩)] wA fun e w3 => e = .returned (.tuple #[.int .i64 ((T.take C.G false).1.1 : Nat), .int .i64 ((T.take C.G false).1.2 : Nat)]) ∧ w3.cell? ⟨r, 4, none⟩ = some (.pointer (some ⟨m, 0, none⟩)) ∧
      Calls Tryz.prog 163 #[.pointer (some ⟨m, 0, none⟩)] w3 fun e w5 => e = .returned (.tuple #[.int .i64 ((T.take C.G false).1.1 : Nat), .int .i64 ((T.take C.G false).1.2 : Nat)]) ∧ MovePost J w C r p q m Z X (.returned (.bool true)) w5 := by
    refine (hR0.pl.takeB u0 (.inl xu)).mono ?_
    rintro e w3 ⟨rfl, y2, y3⟩
    have hR3 := hR0.pool y3 y2 (take_le h.le _ _) (TS.take_like _ _ _).1
    refine ⟨rfl, by have := hR3.hr.cell 4; simpa using this, ?_⟩
    refine (rtakeB_w hR3.ref (by rw [hs.put]; exact h.le) (T.raw 0) hs.nb hl0 (by rw [eL, eH]; exact (xh _).1) (by rw [eH]; exact (xh _).2)).mono ?_
    rintro e w5 ⟨rfl, hst⟩
    have hE' := hE
    simp only [Bool.toNat_false] at hE'
    exact ⟨by rw [hE'], MovePost.fin kA y3 hR3 hst hJ hS'⟩
  generalize MovePost J w C r p q m Z X = Post at *
  generalize (T.take C.G false).1.1 = pa at *
  generalize (T.take C.G false).1.2 = pe at *
  clear hJ hS'
  replace h := hid h; replace hs := hid hs; replace hu := hid hu; replace kA := hid kA; replace bx := hid bx; replace hR0 := hid hR0; replace u0 := hid u0; replace hE := hid hE; replace hC1 := hid hC1; replace hWA := hid hWA; replace hl0 := hid hl0; replace hl1 := hid hl1; replace eL := hid eL; replace eH := hid eH; replace xh := hid xh; replace xbx := hid xbx
  unfold stepV
  go_enter Tryz.func131, Tryz.ntmps131
  go_upto_region 1 with fail
  rw [hWA.out]
  go_wp2_with (first
    | (go_at_call 49; refine hC1.out.mono ?_; rintro e w3 ⟨rfl, d4, hC2⟩; replace hC2 := hid hC2)
    | (go_at_call 163; refine hC2.out.mono ?_; rintro e w5 ⟨rfl, hF⟩; replace hF := hid hF)
    | (go_at_call 19; refine (num_w _ _).mono ?_; rintro e w' ⟨rfl, rfl⟩))
  exact hF.out
set_option maxRecDepth 100000 in
set_option maxHeartbeats 1000000 in
theorem calls3_w (h : RX w C r p q m T R Z X) (hs : Same R T C.G) (u : Nat) (hu : Blk w u (poolO C.t)) (xu : X u) (J : TS → Prop)
    (n : Int) (hn : IntKind.i64.wrap n = n) (hJ : J (T.drop C.G false n).2) (who two : Bool) (ad : Option Addr) (ld cd : Nat) : Calls Tryz.prog 131 #[.pointer (some ⟨r, 0, none⟩), .pointer (some ⟨u, 0, none⟩), stepV 3 n who two (.slice ad ld cd)] w (MovePost J w C r p q m Z X) := by
  have g1 := h.pl.geo.b1
  have g2 := h.pl.geo.b2
  have g3 := h.pl.geo.n1
  have g4 := h.pl.geo.n2
  have kA : Keeps (fun _ => False) w (w.alloc (.cells #[.int .i64 3, .int .i64 n, .bool who, .bool two, .slice ad ld cd] 138 (0, 0))) := (Keeps.refl _ w).alloc _
  have bx := Blk.new w (.cells #[.int .i64 3, .int .i64 n, .bool who, .bool two, .slice ad ld cd] 138 (0, 0))
  have hR0 := h.refl.mv (Nat.le_refl _) kA
  have u0 := kA.blk hu (fun f => f)
  have xbx : Zn w (w.alloc (.cells #[.int .i64 3, .int .i64 n, .bool who, .bool two, .slice ad ld cd] 138 (0, 0))) X w.heap.size := .inr ⟨Nat.le_refl _, by rw [World.size_alloc]; omega⟩
  generalize hWA : w.alloc (.cells #[.int .i64 3, .int .i64 n, .bool who, .bool two, .slice ad ld cd] 138 (0, 0)) = wA at *
  have b0 := bx.cell 0
  have b1 := bx.cell 1
  simp at b0 b1
  have eL : ∀ nd, rLo R nd = xLo C.G nd := fun nd => by unfold rLo xLo; rw [hs.data]
  have eH : ∀ nd, rHi R nd = xHi C.G nd := fun nd => by unfold rHi xHi; rw [hs.nodes, hs.blocks]
  have xh : ∀ nd, xLo C.G nd ≤ xHi C.G nd ∧ xHi C.G nd ≤ 2048 := fun nd => by
    unfold xLo xHi Geom.data
    cases nd
    · simp; omega
    · simp; omega
  have hl0 := h.pl.len 0 (by omega)
  have hl1 := h.pl.len 1 (by omega)
  obtain ⟨hE, hS'⟩ := hs.drop false n hl0 (by have := (xh false).2; omega)
  have hC1 : Calls Tryz.prog 60 #[.pointer (some ⟨u, 0, none⟩), .int .i64 n] wA fun e w3 => e = .returned (.int .i64 ((T.drop C.G false n).1 : Nat)) ∧ w3.cell? ⟨r, 4, none⟩ = some (.pointer (some ⟨m, 0, none⟩)) ∧ w3.cell? ⟨w.heap.size, 1, none⟩ = some (.int .i64 n) ∧
      ∀ W, Keeps (fun _ => False) w3 W → Calls Tryz.prog 164 #[.pointer (some ⟨m, 0, none⟩), .int .i64 n] W fun e w5 => e = .returned (.int .i64 ((T.drop C.G false n).1 : Nat)) ∧ w5.cell? ⟨r, 4, none⟩ = some (.pointer (some ⟨m, 0, none⟩)) ∧ w5.cell? ⟨w.heap.size, 1, none⟩ = some (.int .i64 n) ∧ MovePost J w C r p q m Z X (.returned (.bool true)) w5 := by
    refine (hR0.pl.dropB u0 (.inl xu) n).mono ?_
    rintro e w3 ⟨rfl, y2, y3⟩
    have hR3 := hR0.pool y3 y2 (drop_le h.le _ _ _) (TS.drop_like _ _ _ _).1
    refine ⟨rfl, by have := hR3.hr.cell 4; simpa using this, by have := (y3.blk bx (hR0.pl.notF xbx)).cell 1; simpa using this, fun W kW => ?_⟩
    have hRW := hR3.other kW (fun _ _ f => f.elim)
    have bW := kW.blk (y3.blk bx (hR0.pl.notF xbx)) (fun f => f)
    have s1 := kA.size
    have s3 := y3.size
    have s4 := kW.size
    refine (rdropB_w hRW.ref (by rw [hs.put]; exact h.le) (T.raw 0) hs.nb hl0 (by rw [eH]; exact (xh _).2) n hn).mono ?_
    rintro e w5 ⟨rfl, hst⟩
    have hE' := hE
    simp only [Bool.toNat_false] at hE'
    have hR5 := hRW.doc hst
    exact ⟨by rw [hE'], by have := hR5.hr.cell 4; simpa using this, by have := (hst.k.blk bW (fun z => by have := h.pl.lt _ (h.zX _ z).1; omega)).cell 1; simpa using this, MovePost.fin2 (((kA.mono fun _ _ f => f.elim).step y3).step (kW.mono fun _ _ f => f.elim)) hRW (fun i hi => .inl (.inl hi)) (fun i hi => by
      rcases hi with (hi | hi) | hi
      · exact .inl hi
      · exact .inr ⟨hi.1, by omega⟩
      · exact .inr ⟨by omega, hi.2⟩) hst hJ hS'⟩
  generalize MovePost J w C r p q m Z X = Post at *
  generalize (T.drop C.G false n).1 = pe at *
  clear hJ hS'
  replace h := hid h; replace hs := hid hs; replace hu := hid hu; replace kA := hid kA; replace bx := hid bx; replace hR0 := hid hR0; replace u0 := hid u0; replace hE := hid hE; replace hC1 := hid hC1; replace hWA := hid hWA; replace hl0 := hid hl0; replace hl1 := hid hl1; replace eL := hid eL; replace eH := hid eH; replace xh := hid xh; replace xbx := hid xbx; replace hn := hid hn
  unfold stepV
  go_enter Tryz.func131, Tryz.ntmps131
  go_upto_region 1 with fail
  rw [hWA.out]
  go_upto_region 12 with (first
    | (go_at_call 60; refine hC1.out.mono ?_; rintro e w3 ⟨rfl, d4, d1, hC2⟩; replace hC2 := hid hC2)
    | (go_at_call 19; refine (num_w _ _).mono ?_; rintro e w' ⟨rfl, rfl⟩))
  have kE : Keeps (fun _ => False) w3 w3.drew := (Keeps.refl _ _).drew
  have d4' : w3.drew.cell? ⟨r, 4, none⟩ = some (.pointer (some ⟨m, 0, none⟩)) := d4
  have d1' : w3.drew.cell? ⟨w.heap.size, 1, none⟩ = some (.int .i64 n) := d1
  replace kE := hid kE
  go_region_held3 (fun W => W.cell? ⟨r, 4, none⟩ = some (.pointer (some ⟨m, 0, none⟩)) ∧ W.cell? ⟨w.heap.size, 1, none⟩ = some (.int .i64 n)) (first | with_reducible exact ⟨d4', d1'⟩ | with_reducible exact ⟨d5, d6⟩) (first
    | (go_at_call 164; refine (hC2.out _ kE.out).mono ?_; rintro e w5 ⟨rfl, d5, d6, hF⟩; replace hF := hid hF))
  rename_i hHeld
  clear hHeld
  go_wp2_with (go_at_call 19; refine (num_w _ _).mono ?_; rintro e w' ⟨rfl, rfl⟩)
  exact hF.out
set_option maxRecDepth 100000 in
set_option maxHeartbeats 1000000 in
theorem calls4_w (h : RX w C r p q m T R Z X) (hs : Same R T C.G) (u : Nat) (hu : Blk w u (poolO C.t)) (xu : X u) (J : TS → Prop)
    (n : Int) (hJ : J (T.take C.G true).2) (who two : Bool) (ad : Option Addr) (ld cd : Nat) : Calls Tryz.prog 131 #[.pointer (some ⟨r, 0, none⟩), .pointer (some ⟨u, 0, none⟩), stepV 4 n who two (.slice ad ld cd)] w (MovePost J w C r p q m Z X) := by
  have g1 := h.pl.geo.b1
  have g2 := h.pl.geo.b2
  have g3 := h.pl.geo.n1
  have g4 := h.pl.geo.n2
  have kA : Keeps (fun _ => False) w (w.alloc (.cells #[.int .i64 4, .int .i64 n, .bool who, .bool two, .slice ad ld cd] 138 (0, 0))) := (Keeps.refl _ w).alloc _
  have bx := Blk.new w (.cells #[.int .i64 4, .int .i64 n, .bool who, .bool two, .slice ad ld cd] 138 (0, 0))
  have hR0 := h.refl.mv (Nat.le_refl _) kA
  have u0 := kA.blk hu (fun f => f)
  have xbx : Zn w (w.alloc (.cells #[.int .i64 4, .int .i64 n, .bool who, .bool two, .slice ad ld cd] 138 (0, 0))) X w.heap.size := .inr ⟨Nat.le_refl _, by rw [World.size_alloc]; omega⟩
  generalize hWA : w.alloc (.cells #[.int .i64 4, .int .i64 n, .bool who, .bool two, .slice ad ld cd] 138 (0, 0)) = wA at *
  have b0 := bx.cell 0
  have b1 := bx.cell 1
  simp at b0 b1
  have eL : ∀ nd, rLo R nd = xLo C.G nd := fun nd => by unfold rLo xLo; rw [hs.data]
  have eH : ∀ nd, rHi R nd = xHi C.G nd := fun nd => by unfold rHi xHi; rw [hs.nodes, hs.blocks]
  have xh : ∀ nd, xLo C.G nd ≤ xHi C.G nd ∧ xHi C.G nd ≤ 2048 := fun nd => by
    unfold xLo xHi Geom.data
    cases nd
    · simp; omega
    · simp; omega
  have hl0 := h.pl.len 0 (by omega)
  have hl1 := h.pl.len 1 (by omega)
  obtain ⟨hE, hS'⟩ := hs.take true hl1 (by have := (xh true).2; omega)
  have hC1 : Calls Tryz.prog 48 #[.pointer (some ⟨u, 0, none⟩)] wA fun e w3 => e = .returned (.tuple #[.int .i64 ((T.take C.G true).1.1 : Nat), .int .i64 ((T.take C.G true).1.2 : Nat)]) ∧ w3.cell? ⟨r, 4, none⟩ = some (.pointer (some ⟨m, 0, none⟩)) ∧
      Calls Tryz.prog 165 #[.pointer (some ⟨m, 0, none⟩)] w3 fun e w5 => e = .returned (.tuple #[.int .i64 ((T.take C.G true).1.1 : Nat), .int .i64 ((T.take C.G true).1.2 : Nat)]) ∧ MovePost J w C r p q m Z X (.returned (.bool true)) w5 := by
    refine (hR0.pl.takeN u0 (.inl xu)).mono ?_
    rintro e w3 ⟨rfl, y2, y3⟩
    have hR3 := hR0.pool y3 y2 (take_le h.le _ _) (TS.take_like _ _ _).1
    refine ⟨rfl, by have := hR3.hr.cell 4; simpa using this, ?_⟩
    refine (rtakeN_w hR3.ref (by rw [hs.put]; exact h.le) (T.raw 1) hs.nn hl1 (by rw [eL, eH]; exact (xh _).1) (by rw [eH]; exact (xh _).2)).mono ?_
    rintro e w5 ⟨rfl, hst⟩
    have hE' := hE
    simp only [Bool.toNat_true] at hE'
    exact ⟨by rw [hE'], MovePost.fin kA y3 hR3 hst hJ hS'⟩
  generalize MovePost J w C r p q m Z X = Post at *
  generalize (T.take C.G true).1.1 = pa at *
  generalize (T.take C.G true).1.2 = pe at *
  clear hJ hS'
  replace h := hid h; replace hs := hid hs; replace hu := hid hu; replace kA := hid kA; replace bx := hid bx; replace hR0 := hid hR0; replace u0 := hid u0; replace hE := hid hE; replace hC1 := hid hC1; replace hWA := hid hWA; replace hl0 := hid hl0; replace hl1 := hid hl1; replace eL := hid eL; replace eH := hid eH; replace xh := hid xh; replace xbx := hid xbx
  unfold stepV
  go_enter Tryz.func131, Tryz.ntmps131
  go_upto_region 1 with fail
  rw [hWA.out]
  go_wp2_with (first
    | (go_at_call 48; refine hC1.out.mono ?_; rintro e w3 ⟨rfl, d4, hC2⟩; replace hC2 := hid hC2)
    | (go_at_call 165; refine hC2.out.mono ?_; rintro e w5 ⟨rfl, hF⟩; replace hF := hid hF)
    | (go_at_call 19; refine (num_w _ _).mono ?_; rintro e w' ⟨rfl, rfl⟩))
  exact hF.out
set_option maxRecDepth 100000 in
set_option maxHeartbeats 1000000 in
theorem calls5_w (h : RX w C r p q m T R Z X) (hs : Same R T C.G) (u : Nat) (hu : Blk w u (poolO C.t)) (xu : X u) (J : TS → Prop)
    (n : Int) (hn : IntKind.i64.wrap n = n) (hJ : J (T.drop C.G true n).2) (who two : Bool) (ad : Option Addr) (ld cd : Nat) : Calls Tryz.prog 131 #[.pointer (some ⟨r, 0, none⟩), .pointer (some ⟨u, 0, none⟩), stepV 5 n who two (.slice ad ld cd)] w (MovePost J w C r p q m Z X) := by
  have g1 := h.pl.geo.b1
  have g2 := h.pl.geo.b2
  have g3 := h.pl.geo.n1
  have g4 := h.pl.geo.n2
  have kA : Keeps (fun _ => False) w (w.alloc (.cells #[.int .i64 5, .int .i64 n, .bool who, .bool two, .slice ad ld cd] 138 (0, 0))) := (Keeps.refl _ w).alloc _
  have bx := Blk.new w (.cells #[.int .i64 5, .int .i64 n, .bool who, .bool two, .slice ad ld cd] 138 (0, 0))
  have hR0 := h.refl.mv (Nat.le_refl _) kA
  have u0 := kA.blk hu (fun f => f)
  have xbx : Zn w (w.alloc (.cells #[.int .i64 5, .int .i64 n, .bool who, .bool two, .slice ad ld cd] 138 (0, 0))) X w.heap.size := .inr ⟨Nat.le_refl _, by rw [World.size_alloc]; omega⟩
  generalize hWA : w.alloc (.cells #[.int .i64 5, .int .i64 n, .bool who, .bool two, .slice ad ld cd] 138 (0, 0)) = wA at *
  have b0 := bx.cell 0
  have b1 := bx.cell 1
  simp at b0 b1
  have eL : ∀ nd, rLo R nd = xLo C.G nd := fun nd => by unfold rLo xLo; rw [hs.data]
  have eH : ∀ nd, rHi R nd = xHi C.G nd := fun nd => by unfold rHi xHi; rw [hs.nodes, hs.blocks]
  have xh : ∀ nd, xLo C.G nd ≤ xHi C.G nd ∧ xHi C.G nd ≤ 2048 := fun nd => by
    unfold xLo xHi Geom.data
    cases nd
    · simp; omega
    · simp; omega
  have hl0 := h.pl.len 0 (by omega)
  have hl1 := h.pl.len 1 (by omega)
  obtain ⟨hE, hS'⟩ := hs.drop true n hl1 (by have := (xh true).2; omega)
  have hC1 : Calls Tryz.prog 59 #[.pointer (some ⟨u, 0, none⟩), .int .i64 n] wA fun e w3 => e = .returned (.int .i64 ((T.drop C.G true n).1 : Nat)) ∧ w3.cell? ⟨r, 4, none⟩ = some (.pointer (some ⟨m, 0, none⟩)) ∧ w3.cell? ⟨w.heap.size, 1, none⟩ = some (.int .i64 n) ∧
      ∀ W, Keeps (fun _ => False) w3 W → Calls Tryz.prog 166 #[.pointer (some ⟨m, 0, none⟩), .int .i64 n] W fun e w5 => e = .returned (.int .i64 ((T.drop C.G true n).1 : Nat)) ∧ w5.cell? ⟨r, 4, none⟩ = some (.pointer (some ⟨m, 0, none⟩)) ∧ w5.cell? ⟨w.heap.size, 1, none⟩ = some (.int .i64 n) ∧ MovePost J w C r p q m Z X (.returned (.bool true)) w5 := by
    refine (hR0.pl.dropN u0 (.inl xu) n).mono ?_
    rintro e w3 ⟨rfl, y2, y3⟩
    have hR3 := hR0.pool y3 y2 (drop_le h.le _ _ _) (TS.drop_like _ _ _ _).1
    refine ⟨rfl, by have := hR3.hr.cell 4; simpa using this, by have := (y3.blk bx (hR0.pl.notF xbx)).cell 1; simpa using this, fun W kW => ?_⟩
    have hRW := hR3.other kW (fun _ _ f => f.elim)
    have bW := kW.blk (y3.blk bx (hR0.pl.notF xbx)) (fun f => f)
    have s1 := kA.size
    have s3 := y3.size
    have s4 := kW.size
    refine (rdropN_w hRW.ref (by rw [hs.put]; exact h.le) (T.raw 1) hs.nn hl1 (by rw [eH]; exact (xh _).2) n hn).mono ?_
    rintro e w5 ⟨rfl, hst⟩
    have hE' := hE
    simp only [Bool.toNat_true] at hE'
    have hR5 := hRW.doc hst
    exact ⟨by rw [hE'], by have := hR5.hr.cell 4; simpa using this, by have := (hst.k.blk bW (fun z => by have := h.pl.lt _ (h.zX _ z).1; omega)).cell 1; simpa using this, MovePost.fin2 (((kA.mono fun _ _ f => f.elim).step y3).step (kW.mono fun _ _ f => f.elim)) hRW (fun i hi => .inl (.inl hi)) (fun i hi => by
      rcases hi with (hi | hi) | hi
      · exact .inl hi
      · exact .inr ⟨hi.1, by omega⟩
      · exact .inr ⟨by omega, hi.2⟩) hst hJ hS'⟩
  generalize MovePost J w C r p q m Z X = Post at *
  generalize (T.drop C.G true n).1 = pe at *
  clear hJ hS'
  replace h := hid h; replace hs := hid hs; replace hu := hid hu; replace kA := hid kA; replace bx := hid bx; replace hR0 := hid hR0; replace u0 := hid u0; replace hE := hid hE; replace hC1 := hid hC1; replace hWA := hid hWA; replace hl0 := hid hl0; replace hl1 := hid hl1; replace eL := hid eL; replace eH := hid eH; replace xh := hid xh; replace xbx := hid xbx; replace hn := hid hn
  unfold stepV
  go_enter Tryz.func131, Tryz.ntmps131
  go_upto_region 1 with fail
  rw [hWA.out]
  go_upto_region 20 with (first
    | (go_at_call 59; refine hC1.out.mono ?_; rintro e w3 ⟨rfl, d4, d1, hC2⟩; replace hC2 := hid hC2)
    | (go_at_call 19; refine (num_w _ _).mono ?_; rintro e w' ⟨rfl, rfl⟩))
  have kE : Keeps (fun _ => False) w3 w3.drew := (Keeps.refl _ _).drew
  have d4' : w3.drew.cell? ⟨r, 4, none⟩ = some (.pointer (some ⟨m, 0, none⟩)) := d4
  have d1' : w3.drew.cell? ⟨w.heap.size, 1, none⟩ = some (.int .i64 n) := d1
  replace kE := hid kE
  go_region_held3 (fun W => W.cell? ⟨r, 4, none⟩ = some (.pointer (some ⟨m, 0, none⟩)) ∧ W.cell? ⟨w.heap.size, 1, none⟩ = some (.int .i64 n)) (first | with_reducible exact ⟨d4', d1'⟩ | with_reducible exact ⟨d5, d6⟩) (first
    | (go_at_call 166; refine (hC2.out _ kE.out).mono ?_; rintro e w5 ⟨rfl, d5, d6, hF⟩; replace hF := hid hF))
  rename_i hHeld
  clear hHeld
  go_wp2_with (go_at_call 19; refine (num_w _ _).mono ?_; rintro e w' ⟨rfl, rfl⟩)
  exact hF.out
set_option maxRecDepth 100000 in
set_option maxHeartbeats 1000000 in
theorem calls6_w (h : RX w C r p q m T R Z X) (hs : Same R T C.G) (u : Nat) (hu : Blk w u (poolO C.t)) (xu : X u) (J : TS → Prop)
    (n : Int) (hJ : J T) (who two : Bool) (ad : Option Addr) (ld cd : Nat) : Calls Tryz.prog 131 #[.pointer (some ⟨r, 0, none⟩), .pointer (some ⟨u, 0, none⟩), stepV 6 n who two (.slice ad ld cd)] w (MovePost J w C r p q m Z X) := by
  have g1 := h.pl.geo.b1
  have g2 := h.pl.geo.b2
  have g3 := h.pl.geo.n1
  have g4 := h.pl.geo.n2
  have kA : Keeps (fun _ => False) w (w.alloc (.cells #[.int .i64 6, .int .i64 n, .bool who, .bool two, .slice ad ld cd] 138 (0, 0))) := (Keeps.refl _ w).alloc _
  have bx := Blk.new w (.cells #[.int .i64 6, .int .i64 n, .bool who, .bool two, .slice ad ld cd] 138 (0, 0))
  have hR0 := h.refl.mv (Nat.le_refl _) kA
  have u0 := kA.blk hu (fun f => f)
  have xbx : Zn w (w.alloc (.cells #[.int .i64 6, .int .i64 n, .bool who, .bool two, .slice ad ld cd] 138 (0, 0))) X w.heap.size := .inr ⟨Nat.le_refl _, by rw [World.size_alloc]; omega⟩
  generalize hWA : w.alloc (.cells #[.int .i64 6, .int .i64 n, .bool who, .bool two, .slice ad ld cd] 138 (0, 0)) = wA at *
  have b0 := bx.cell 0
  have b1 := bx.cell 1
  simp at b0 b1
  have eL : ∀ nd, rLo R nd = xLo C.G nd := fun nd => by unfold rLo xLo; rw [hs.data]
  have eH : ∀ nd, rHi R nd = xHi C.G nd := fun nd => by unfold rHi xHi; rw [hs.nodes, hs.blocks]
  have xh : ∀ nd, xLo C.G nd ≤ xHi C.G nd ∧ xHi C.G nd ≤ 2048 := fun nd => by
    unfold xLo xHi Geom.data
    cases nd
    · simp; omega
    · simp; omega
  have hl0 := h.pl.len 0 (by omega)
  have hl1 := h.pl.len 1 (by omega)
  have hE := hs.left
  have hS' := hs
  have hC1 : Calls Tryz.prog 20 #[.pointer (some ⟨u, 0, none⟩)] wA fun e w3 => e = .returned (.tuple #[.int .i64 ((T.left C.G).1 : Nat), .int .i64 ((T.left C.G).2.1 : Nat), .int .i64 ((T.left C.G).2.2 : Nat)]) ∧ w3.cell? ⟨r, 4, none⟩ = some (.pointer (some ⟨m, 0, none⟩)) ∧
      Calls Tryz.prog 167 #[.pointer (some ⟨m, 0, none⟩)] w3 fun e w5 => e = .returned (.tuple #[.int .i64 ((T.left C.G).1 : Nat), .int .i64 ((T.left C.G).2.1 : Nat), .int .i64 ((T.left C.G).2.2 : Nat)]) ∧ MovePost J w C r p q m Z X (.returned (.bool true)) w5 := by
    refine (hR0.pl.left u0 (.inl xu)).mono ?_
    rintro e w3 ⟨rfl, y2, y3⟩
    have hR3 := hR0.pool y3 y2 h.le rfl
    refine ⟨rfl, by have := hR3.hr.cell 4; simpa using this, ?_⟩
    refine (rleft_w hR3.ref (T.raw 0) (T.raw 1) hs.nb hs.nn (by rw [hs.data, hs.blocks]; unfold Geom.data; omega) (by rw [hs.blocks]; omega) (by rw [hs.nodes]; omega)).mono ?_
    rintro e w5 ⟨rfl, kk, rfl⟩
    exact ⟨by rw [hE], MovePost.fin kA y3 hR3 (RStep.quiet hR3.ref ((Keeps.refl _ _).drewN kk)) hJ hS'⟩
  generalize MovePost J w C r p q m Z X = Post at *
  generalize (T.left C.G).1 = pa at *
  generalize (T.left C.G).2.1 = pb at *
  generalize (T.left C.G).2.2 = pe at *
  clear hJ hS'
  replace h := hid h; replace hs := hid hs; replace hu := hid hu; replace kA := hid kA; replace bx := hid bx; replace hR0 := hid hR0; replace u0 := hid u0; replace hE := hid hE; replace hC1 := hid hC1; replace hWA := hid hWA; replace hl0 := hid hl0; replace hl1 := hid hl1; replace eL := hid eL; replace eH := hid eH; replace xh := hid xh; replace xbx := hid xbx
  unfold stepV
  go_enter Tryz.func131, Tryz.ntmps131
  go_upto_region 1 with fail
  rw [hWA.out]
  go_wp2_with (first
    | (go_at_call 20; refine hC1.out.mono ?_; rintro e w3 ⟨rfl, d4, hC2⟩; replace hC2 := hid hC2)
    | (go_at_call 167; refine hC2.out.mono ?_; rintro e w5 ⟨rfl, hF⟩; replace hF := hid hF)
    | (go_at_call 19; refine (num_w _ _).mono ?_; rintro e w' ⟨rfl, rfl⟩))
  exact hF.out
end
end Go.Vk

namespace Go.Vk
open Go.RowKit Go.Proofs

section
variable {Post : Ending → World → Prop} {w : World} {r p q : Nat}
set_option maxRecDepth 100000 in
set_option maxHeartbeats 2000000 in
theorem stepC_w (hr2 : w.cell? ⟨r, 2, none⟩ = some (.pointer (some ⟨p, 0, none⟩))) (hr3 : w.cell? ⟨r, 3, none⟩ = some (.pointer (some ⟨q, 0, none⟩))) (k n : Int) (hk : k = 1 ∨ k = 2 ∨ k = 3 ∨ k = 4 ∨ k = 5 ∨ k = 6) (who two : Bool) (ad : Option Addr) (ld cd : Nat)
    (hP : ∀ e w', Post e w' → ∃ b, e = .returned (.bool b)) (hC : ∀ w1, Keeps (fun _ => False) w w1 → Calls Tryz.prog 131 #[.pointer (some ⟨r, 0, none⟩), .pointer (some ⟨if who then q else p, 0, none⟩), stepV k n who two (.slice ad ld cd)] w1 Post) :
    Calls Tryz.prog 79 #[.pointer (some ⟨r, 0, none⟩), stepV k n who two (.slice ad ld cd)] w Post := by
  have kA : Keeps (fun _ => False) w (w.alloc (.cells #[.int .i64 k, .int .i64 n, .bool who, .bool two, .slice ad ld cd] 138 (0, 0))) := (Keeps.refl _ w).alloc _
  have hC1 := hC _ kA
  have e2 := kA.cellF hr2 (fun f => f)
  have e3 := kA.cellF hr3 (fun f => f)
  clear hC kA hr2 hr3
  unfold stepV at *
  cases who
  all_goals
    simp only [if_true, Bool.false_eq_true, if_false] at hC1
    rcases hk with rfl | rfl | rfl | rfl | rfl | rfl
  all_goals
    replace hC1 := hid hC1; replace hP := hid hP
    go_enter Tryz.func79, Tryz.ntmps79
    go_wp2_with (go_at_call 131; refine hC1.out.mono ?_; intro e w' hx; obtain ⟨b, rfl⟩ := hP.out _ _ hx; replace hx := hid hx)
    exact hx.out
set_option maxRecDepth 100000 in
set_option maxHeartbeats 2000000 in
theorem stepR_w (hr2 : w.cell? ⟨r, 2, none⟩ = some (.pointer (some ⟨p, 0, none⟩))) (hr3 : w.cell? ⟨r, 3, none⟩ = some (.pointer (some ⟨q, 0, none⟩))) (k n : Int) (hk : k = 10 ∨ k = 11) (who two : Bool) (ad : Option Addr) (ld cd : Nat)
    (hP : ∀ e w', Post e w' → ∃ b, e = .returned (.bool b)) (hC : ∀ w1, Keeps (fun _ => False) w w1 → Calls Tryz.prog 133 #[.pointer (some ⟨r, 0, none⟩), .pointer (some ⟨if who then q else p, 0, none⟩), stepV k n who two (.slice ad ld cd)] w1 Post) :
    Calls Tryz.prog 79 #[.pointer (some ⟨r, 0, none⟩), stepV k n who two (.slice ad ld cd)] w Post := by
  have kA : Keeps (fun _ => False) w (w.alloc (.cells #[.int .i64 k, .int .i64 n, .bool who, .bool two, .slice ad ld cd] 138 (0, 0))) := (Keeps.refl _ w).alloc _
  have hC1 := hC _ kA
  have e2 := kA.cellF hr2 (fun f => f)
  have e3 := kA.cellF hr3 (fun f => f)
  clear hC kA hr2 hr3
  unfold stepV at *
  cases who
  all_goals
    simp only [if_true, Bool.false_eq_true, if_false] at hC1
    rcases hk with rfl | rfl
  all_goals
    replace hC1 := hid hC1; replace hP := hid hP
    go_enter Tryz.func79, Tryz.ntmps79
    go_wp2_with (go_at_call 133; refine hC1.out.mono ?_; intro e w' hx; obtain ⟨b, rfl⟩ := hP.out _ _ hx; replace hx := hid hx)
    exact hx.out
set_option maxRecDepth 100000 in
set_option maxHeartbeats 2000000 in
theorem stepL_w (hr2 : w.cell? ⟨r, 2, none⟩ = some (.pointer (some ⟨p, 0, none⟩))) (hr3 : w.cell? ⟨r, 3, none⟩ = some (.pointer (some ⟨q, 0, none⟩))) (n : Int) (who two : Bool) (ad : Option Addr) (ld cd : Nat)
    (hP : ∀ e w', Post e w' → ∃ b, e = .returned (.bool b)) (hC : ∀ w1, Keeps (fun _ => False) w w1 → Calls Tryz.prog 78 #[.pointer (some ⟨r, 0, none⟩), .pointer (some ⟨if who then q else p, 0, none⟩)] w1 Post) :
    Calls Tryz.prog 79 #[.pointer (some ⟨r, 0, none⟩), stepV 7 n who two (.slice ad ld cd)] w Post := by
  have kA : Keeps (fun _ => False) w (w.alloc (.cells #[.int .i64 7, .int .i64 n, .bool who, .bool two, .slice ad ld cd] 138 (0, 0))) := (Keeps.refl _ w).alloc _
  have hC1 := hC _ kA
  have e2 := kA.cellF hr2 (fun f => f)
  have e3 := kA.cellF hr3 (fun f => f)
  clear hC kA hr2 hr3
  unfold stepV at *
  cases who
  all_goals
    simp only [if_true, Bool.false_eq_true, if_false] at hC1
    replace hC1 := hid hC1; replace hP := hid hP
    go_enter Tryz.func79, Tryz.ntmps79
    go_wp2_with (go_at_call 78; refine hC1.out.mono ?_; intro e w' hx; obtain ⟨b, rfl⟩ := hP.out _ _ hx; replace hx := hid hx)
    exact hx.out
end
end Go.Vk

namespace Go.Vk
open Go.RowKit Go.Proofs

/-- Whatever was put. -/
def Any (_ : TS) : Prop := True
/-- What holds behind so many steps hangs on the log, on what was written and on what is committed alone, and grows weaker. -/
def JOk (J : Nat → TS → Prop) : Prop := (∀ n T T', T.Like T' → J n T → J n T') ∧ ∀ n T, J n T → J (n + 1) T
theorem JOk.any : JOk fun _ => Any := ⟨fun _ _ _ _ _ => trivial, fun _ _ _ => trivial⟩
theorem KF.lt {w : World} {C : TxC} {T : TS} {X : Nat → Prop} (h : PoolX w C T X) {i : Nat} (hi : KF C i) : i < w.heap.size := by
  obtain ⟨M, ⟨own, xc, h1, _⟩, _⟩ := h.rep
  rcases hi with hi | hi | hi
  · exact h1.hd.lt i hi
  · exact hi ▸ h1.ht.lt
  · exact hi ▸ h1.hx.lt _ (by simp [mapFoot])
theorem PoolX.sbLt {w : World} {C : TxC} {T : TS} {X : Nat → Prop} (h : PoolX w C T X) : C.sb < w.heap.size := by
  obtain ⟨M, ⟨own, xc, h1, _⟩, _⟩ := h.rep
  exact h1.hs.lt
/-- One side: a rig whose doings stay inside F and who leaves X alone. -/
def Side (J : TS → Prop) (w : World) (r : Nat) (F X : Nat → Prop) : Prop :=
  ∃ (C : TxC) (p q m : Nat) (T : TS) (R : RP) (Z : Nat → Prop), RX w C r p q m T R Z X ∧ Same R T C.G ∧ J T ∧ F = Foot C r p q Z
def SidePost (J : TS → Prop) (w : World) (r : Nat) (F X : Nat → Prop) (e : Ending) (w' : World) : Prop :=
  e = .returned (.bool true) ∧ ∃ F' X', Side J w' r F' X' ∧ Keeps F w w' ∧ (∀ i, F' i → Zn w w' F i) ∧ (∀ i, X i → X' i)
section
variable {J : TS → Prop} {w0 w w' w1 : World} {C : TxC} {r p q m : Nat} {T T' : TS} {R R' : RP} {Z F X : Nat → Prop} {e : Ending}
theorem Side.lt (h : Side J w r F X) {i : Nat} (hi : F i) : i < w.heap.size := by
  obtain ⟨C, p, q, m, T, R, Z, h1, _, _, rfl⟩ := h
  rcases hi with hi | hi | hi | hi | hi | hi | hi | hi
  · exact KF.lt h1.pl hi
  · exact h1.pl.lt i (h1.zX i hi).1
  · exact hi ▸ h1.hr.lt
  · exact hi ▸ h1.hp.lt
  · exact hi ▸ h1.hq.lt
  · exact hi ▸ h1.pl.sbLt
  · exact hi ▸ h1.hl.lt
  · obtain ⟨M, ⟨own, xc, y1, _⟩, _⟩ := h1.pl.rep
    exact hi ▸ y1.ho.hm.lt
theorem Side.other (h : Side J w r F X) {Gf : Nat → Prop} (k : Keeps Gf w w') (hG : ∀ i, i < w.heap.size → Gf i → X i ∧ ¬ F i) : Side J w' r F (Zn w w' X) := by
  obtain ⟨C, p, q, m, T, R, Z, h1, h2, h3, rfl⟩ := h
  exact ⟨C, p, q, m, T, R, Z, h1.other k (fun i hi f => ⟨(hG i hi f).1, fun x => (hG i hi f).2 (.inr (.inl x)), fun x => (hG i hi f).2 (.inr (.inr (.inl x))), fun x => (hG i hi f).2 (.inr (.inr (.inr (.inl x)))), fun x => (hG i hi f).2 (.inr (.inr (.inr (.inr (.inl x)))))⟩), h2, h3, rfl⟩
theorem Side.weak {J' : TS → Prop} (h : Side J w r F X) (hJ : ∀ T, J T → J' T) : Side J' w r F X := by
  obtain ⟨C, p, q, m, T, R, Z, h1, h2, h3, rfl⟩ := h
  exact ⟨C, p, q, m, T, R, Z, h1, h2, hJ T h3, rfl⟩
theorem SidePost.weak {J' : TS → Prop} (h : SidePost J w r F X e w') (hJ : ∀ T, J T → J' T) : SidePost J' w r F X e w' := by
  obtain ⟨h1, F', X', h2, h3⟩ := h
  exact ⟨h1, F', X', h2.weak hJ, h3⟩
theorem MovePost.step (h : MovePost J w C r p q m Z X e w') : SidePost J w r (Foot C r p q Z) X e w' := by
  obtain ⟨T', R', Z', X', h1, h2, h3, h4, h5, h6, h7, h8, h9⟩ := h
  refine ⟨h2, _, X', ⟨C, p, q, m, T', R', Z', h3, h4, h1, rfl⟩, h5.mono fun i _ f => f.elim .inl (fun x => .inr (.inl x)), fun i hi => ?_, h8⟩
  rcases hi with hi | hi | hi
  · exact .inl (.inl hi)
  · exact (h7 i hi).elim (fun x => .inl (.inr (.inl x))) .inr
  · exact .inl (.inr (.inr hi))
theorem SidePost.mv (k : Keeps (fun _ => False) w w1) (h : SidePost J w1 r F (Zn w w1 X) e w') : SidePost J w r F X e w' := by
  obtain ⟨h1, F', X', h2, h3, h4, h5⟩ := h
  have z := k.size
  exact ⟨h1, F', X', h2, (k.mono fun _ _ f => f.elim).step h3, fun i hi => (h4 i hi).elim .inl (fun x => .inr ⟨by omega, x.2⟩), fun i hi => h5 i (.inl hi)⟩
/-- Two sides, both made behind w0. -/
def Duo (J : TS → Prop) (w0 w : World) (a b : Nat) : Prop :=
  ∃ Fa Xa Fb Xb, Side J w a Fa Xa ∧ Side J w b Fb Xb ∧ (∀ i, Fa i → Xb i ∧ ¬ Fb i) ∧ (∀ i, Fb i → Xa i) ∧ (∀ i, Fa i ∨ Fb i → w0.heap.size ≤ i) ∧ Keeps (fun _ => False) w0 w
theorem Duo.swap {a b : Nat} (h : Duo J w0 w a b) : Duo J w0 w b a := by
  obtain ⟨Fa, Xa, Fb, Xb, h1, h2, h3, h4, h5, h6⟩ := h
  exact ⟨Fb, Xb, Fa, Xa, h2, h1, fun i hi => ⟨h4 i hi, fun x => (h3 i x).2 hi⟩, fun i hi => (h3 i hi).1, fun i hi => h5 i hi.symm, h6⟩
theorem Duo.calm {a b : Nat} (h : Duo J w0 w a b) (k : Keeps (fun _ => False) w w') : Duo J w0 w' a b := by
  obtain ⟨Fa, Xa, Fb, Xb, h1, h2, h3, h4, h5, h6⟩ := h
  exact ⟨Fa, _, Fb, _, h1.other k (fun _ _ f => f.elim), h2.other k (fun _ _ f => f.elim), fun i hi => ⟨.inl (h3 i hi).1, (h3 i hi).2⟩, fun i hi => .inl (h4 i hi), h5, h6.step k⟩
theorem Duo.weak {J' : TS → Prop} {a b : Nat} (h : Duo J w0 w a b) (hJ : ∀ T, J T → J' T) : Duo J' w0 w a b := by
  obtain ⟨Fa, Xa, Fb, Xb, h1, h2, h3⟩ := h
  exact ⟨Fa, Xa, Fb, Xb, h1.weak hJ, h2.weak hJ, h3⟩
/-- One step of a script: its data lies somewhere. -/
structure StepR where
  k : Int
  n : Int
  who : Bool
  two : Bool
  d : Value
  l : List UInt8
def StepR.v (s : StepR) : Value := stepV s.k s.n s.who s.two s.d
/-- Every step of one of these kinds goes well. -/
def StepOk (J : Nat → TS → Prop) (K : List Int) : Prop :=
  ∀ i w r F X, i < 3000 → Side (J i) w r F X → ∀ s : StepR, s.k ∈ K → IntKind.i64.wrap s.n = s.n → ByteSl w s.d s.l → (s.l ≠ [] → ∀ g, s.d.ownBlock = some g → ¬ F g) → Calls Tryz.prog 79 #[.pointer (some ⟨r, 0, none⟩), s.v] w (SidePost (J (i + 1)) w r F X)
theorem Duo.step {J : Nat → TS → Prop} (hJ : JOk J) {K : List Int} (hK : StepOk J K) {a b i0 : Nat} (hi0 : i0 < 3000) (h : Duo (J i0) w0 w a b) (s : StepR) (hs : s.k ∈ K) (hn : IntKind.i64.wrap s.n = s.n) (hd : ByteSl w0 s.d s.l) (hl : s.l ≠ [] → ∀ g, s.d.ownBlock = some g → g < w0.heap.size) :
    Calls Tryz.prog 79 #[.pointer (some ⟨a, 0, none⟩), s.v] w fun e w' => e = .returned (.bool true) ∧ Duo (J (i0 + 1)) w0 w' a b := by
  obtain ⟨Fa, Xa, Fb, Xb, h1, h2, h3, h4, h5, h6⟩ := h
  refine (hK i0 w a Fa Xa hi0 h1 s hs hn (hd.keeps h6 (fun _ _ f => f)) (fun hne g hg f => by have := hl hne g hg; have := h5 g (.inl f); omega)).mono ?_
  rintro e w' ⟨rfl, F', X', y1, y2, y3, y4⟩
  have z0 := h6.size
  have z1 := y2.size
  refine ⟨rfl, F', X', Fb, Zn w w' Xb, y1, (h2.other y2 (fun i _ f => h3 i f)).weak (hJ.2 i0), fun i hi => ?_, fun i hi => y4 i (h4 i hi), fun i hi => ?_, h6.trans y2 (fun i hi f => by have := h5 i (.inl f); omega)⟩
  · rcases y3 i hi with x | x
    · exact ⟨.inl (h3 i x).1, (h3 i x).2⟩
    · exact ⟨.inr x, fun f => by have := h2.lt f; omega⟩
  · rcases hi with hi | hi
    · rcases y3 i hi with x | x
      · exact h5 i (.inl x)
      · omega
    · exact h5 i (.inr hi)
end
end Go.Vk

namespace Go.Vk
open Go.ChangeShapes Go.WideShapes Go.RowKit Go.Proofs

theorem rows_of {α : Type} (p : Nat → α → Prop) : ∀ n, (∀ i, i < n → ∃ x, p i x) → ∃ l : List α, l.length = n ∧ ∀ i (h : i < l.length), p i l[i]
  | 0, _ => ⟨[], rfl, fun i h => by cases h⟩
  | n + 1, h => by
    obtain ⟨l, h1, h2⟩ := rows_of p n (fun i hi => h i (by omega))
    obtain ⟨x, hx⟩ := h n (by omega)
    refine ⟨l ++ [x], by simp [h1], fun i hi => ?_⟩
    rw [List.length_append, h1] at hi
    by_cases e : i < n
    · rw [List.getElem_append_left (by omega)]; exact h2 i (by omega)
    · have : i = n := by simp at hi; omega
      subst this
      rw [List.getElem_append_right (by omega)]
      simpa [h1] using hx
theorem addA (b off i : Nat) : (⟨b, off, none⟩ : Addr).add i = ⟨b, off + i, none⟩ := by
  unfold Addr.add
  split <;> simp_all
theorem addAA (b off i j : Nat) : ((⟨b, off, none⟩ : Addr).add i).add j = ⟨b, off + i + j, none⟩ := by
  rw [addA, addA]
def ArgSteps (w : World) (v : Value) (ss : List StepR) : Prop :=
  ∃ a cap, v = .slice a ss.length cap ∧ (ss = [] ∨ ∃ g o, a = some ⟨g, o, none⟩ ∧ ∀ i (h : i < ss.length), w.cell? ⟨g, o + i * 5 + 0, none⟩ = some (.int .i64 ss[i].k) ∧ w.cell? ⟨g, o + i * 5 + 1, none⟩ = some (.int .i64 ss[i].n) ∧ w.cell? ⟨g, o + i * 5 + 2, none⟩ = some (.bool ss[i].who) ∧
    w.cell? ⟨g, o + i * 5 + 3, none⟩ = some (.bool ss[i].two) ∧ w.cell? ⟨g, o + i * 5 + 4, none⟩ = some ss[i].d ∧ IntKind.i64.wrap ss[i].n = ss[i].n ∧ ByteSl w ss[i].d ss[i].l)
theorem ArgSteps.keeps {w w' : World} {v : Value} {ss : List StepR} (h : ArgSteps w v ss) (k : Keeps (fun _ => False) w w') : ArgSteps w' v ss := by
  obtain ⟨a, cap, e, hx⟩ := h
  refine ⟨a, cap, e, hx.imp id ?_⟩
  rintro ⟨g, o, rfl, hc⟩
  refine ⟨g, o, rfl, fun i hi => ?_⟩
  obtain ⟨q0, q1, q2, q3, q4, q5, q6⟩ := hc i hi
  exact ⟨k.cellF q0 (fun f => f), k.cellF q1 (fun f => f), k.cellF q2 (fun f => f), k.cellF q3 (fun f => f), k.cellF q4 (fun f => f), q5, q6.keeps k (fun _ _ f => f)⟩
theorem wrap_of_wf {n : Int} (h : (Lit.int .i64 n).wf = true) : IntKind.i64.wrap n = n := by
  obtain ⟨h1, h2⟩ := (Lit.wf_int_iff _ _).1 h
  have e1 : IntKind.i64.min = -9223372036854775808 := by decide
  have e2 : IntKind.i64.max = 9223372036854775807 := by decide
  rw [e1] at h1
  rw [e2] at h2
  rw [IntKind.wrap_i64]; omega
theorem open_data {H : Type} {enc : TypeId × Value → H} {W : World} {base : Nat} {spare : Nat → Bool} {held : Bool} {v : Value} {fuel : Nat} {y : DataW H × List MemPlace} (h : DataW.trod enc Tryz.prog W base spare held fuel 57 [v] = some y) : ∃ l, ByteSl W v l := by
  have hc1 : Tryz.prog.cellsOf 5 = 1 := by kernel_rfl
  rcases open_ints Tryz.underlying57 Tryz.underlying5 hc1 h with ⟨hcs, _⟩ | ⟨a, len, cap, zs, hcs, hb, hl, hm, hzl, _, hx, hwf⟩
  · simp at hcs
    subst hcs
    exact ⟨[], none, 0, rfl, .inl rfl⟩
  · simp at hcs
    subst hcs
    have hlz : len ≤ zs.length := by rw [hzl]; split <;> omega
    refine ⟨(zs.take len).map fun z => UInt8.ofNat z.toNat, some a, cap, by rw [List.length_map, List.length_take, Nat.min_eq_left hlz], ?_⟩
    by_cases hz : len = 0
    · left; rw [hz]; rfl
    · right
      obtain ⟨b, off, spot⟩ := a
      have h0 := hx 0 (by omega)
      have hsp : spot = none := by
        have := World.cell?_spot h0
        simpa [Addr.add] using this
      subst hsp
      refine ⟨b, off, rfl, fun i hi => ?_⟩
      rw [List.length_map, List.length_take, Nat.min_eq_left hlz] at hi
      have q := hx i (by omega)
      rw [addA] at q
      rw [q, List.getElem_map, List.getElem_take, List.getD_eq_getElem?_getD, List.getElem?_eq_getElem (by omega)]
      have hw := hwf zs[i] (List.getElem_mem _)
      obtain ⟨h1, h2⟩ := (Lit.wf_int_iff _ _).1 hw
      have e1 : IntKind.u8.min = 0 := by decide
      have e2 : IntKind.u8.max = 255 := by decide
      rw [e1] at h1
      rw [e2] at h2
      show some (Value.int .u8 zs[i]) = some (Value.int .u8 _)
      have : ((UInt8.ofNat zs[i].toNat).toNat : Int) = zs[i] := by
        rw [UInt8.toNat_ofNat']; omega
      rw [this]
theorem five_fields {H : Type} {enc : TypeId × Value → H} {P : Program} {W : World} {base : Nat} {spare : Nat → Bool} {held : Bool} {t : TypeId} {f0 f1 f2 f3 f4 : Field} {fuel : Nat} {c0 c1 c2 c3 c4 : Value} {y : DataW H × List MemPlace} (ht : P.underlying t = some (.struct #[f0, f1, f2, f3, f4])) (h : DataW.trod enc P W base spare held fuel t [c0, c1, c2, c3, c4] = some y) :
    ∃ y0 y1 y2 y3 y4 n, DataW.trod enc P W base spare held n f0.type (([c0, c1, c2, c3, c4].drop f0.offset).take (P.cellsOf f0.type)) = some y0 ∧ DataW.trod enc P W base spare held n f1.type (([c0, c1, c2, c3, c4].drop f1.offset).take (P.cellsOf f1.type)) = some y1 ∧ DataW.trod enc P W base spare held n f2.type (([c0, c1, c2, c3, c4].drop f2.offset).take (P.cellsOf f2.type)) = some y2 ∧
      DataW.trod enc P W base spare held n f3.type (([c0, c1, c2, c3, c4].drop f3.offset).take (P.cellsOf f3.type)) = some y3 ∧ DataW.trod enc P W base spare held n f4.type (([c0, c1, c2, c3, c4].drop f4.offset).take (P.cellsOf f4.type)) = some y4 := by
  obtain ⟨xs, n, _, _, _, hlen, hf⟩ := DataW.trod_struct ht h
  match xs, hlen with
  | [y0, y1, y2, y3, y4], _ => exact ⟨y0, y1, y2, y3, y4, n, hf 0 f0 rfl, hf 1 f1 rfl, hf 2 f2 rfl, hf 3 f3 rfl, hf 4 f4 rfl⟩
set_option maxRecDepth 100000 in
theorem open_steps {H : Type} {enc : TypeId × Value → H} {W : World} {base b0 : Nat} {r : Reach} {spare : Nat → Bool} {held : Bool} {v : Value} {d : DataW H} {ps : List MemPlace} (hval : Value.okWide Tryz.prog W r b0 87 v) (h : DataW.Trod enc Tryz.prog W base spare held 87 v d ps) :
    ∃ ss, ArgSteps W v ss := by
  obtain ⟨a0, len, cap, rfl⟩ := okWide_slice Tryz.underlying87 hval
  obtain ⟨fuel, hf⟩ := h
  have hc5 : Tryz.prog.cellsOf 138 = 5 := by kernel_rfl
  rcases Go.Deep.open_slice Tryz.underlying87 hf with ⟨hcs, _⟩ | ⟨a, len', cap', m, n, D, Pl, hcs, hb, hl, hm, hmm, _, hx⟩
  · simp [Value.cells] at hcs
    obtain ⟨rfl, rfl, rfl⟩ := hcs
    exact ⟨[], none, 0, rfl, .inl rfl⟩
  · simp [Value.cells] at hcs
    obtain ⟨rfl, rfl, rfl⟩ := hcs
    rw [hc5] at hx
    have hlm : len ≤ m := by rw [hmm]; split <;> omega
    have hone : ∀ i, i < len → ∃ x : StepR, W.cell? ((a.add (i * 5)).add 0) = some (.int .i64 x.k) ∧ W.cell? ((a.add (i * 5)).add 1) = some (.int .i64 x.n) ∧ W.cell? ((a.add (i * 5)).add 2) = some (.bool x.who) ∧ W.cell? ((a.add (i * 5)).add 3) = some (.bool x.two) ∧ W.cell? ((a.add (i * 5)).add 4) = some x.d ∧ IntKind.i64.wrap x.n = x.n ∧ ByteSl W x.d x.l := by
      intro i hi
      obtain ⟨cs', h1, h2⟩ := hx i (by omega)
      obtain ⟨_, hl4, hcell⟩ := World.cells?_some h1
      have e0 := hcell 0 (by omega)
      have e1 := hcell 1 (by omega)
      have e2 := hcell 2 (by omega)
      have e3 := hcell 3 (by omega)
      have e4 := hcell 4 (by omega)
      match cs', hl4 with
      | [c0, c1, c2, c3, c4], _ =>
        obtain ⟨y0, y1, y2, y3, y4, k, t0, t1, t2, t3, t4⟩ := five_fields Tryz.underlying138 h2
        have k1 : Tryz.prog.cellsOf 4 = 1 := by kernel_rfl
        have k3 : Tryz.prog.cellsOf 3 = 1 := by kernel_rfl
        have k4 : Tryz.prog.cellsOf 57 = 1 := by kernel_rfl
        simp only [k1, k3, k4, List.drop_zero, List.take_succ_cons, List.take_zero, List.drop_succ_cons] at t0 t1 t2 t3 t4
        obtain ⟨x0, g0, _⟩ := DataW.trod_int Tryz.underlying3 t0
        obtain ⟨x1, g1, _, f1⟩ := DataW.trod_int Tryz.underlying3 t1
        obtain ⟨x2, g2, _⟩ := DataW.trod_bool Tryz.underlying4 t2
        obtain ⟨x3, g3, _⟩ := DataW.trod_bool Tryz.underlying4 t3
        obtain ⟨l, hl⟩ := open_data t4
        simp only [List.cons.injEq, and_true] at g0 g1 g2 g3
        subst g0 g1 g2 g3
        exact ⟨⟨x0, x1, x2, x3, c4, l⟩, e0, e1, e2, e3, e4, wrap_of_wf f1, hl⟩
    obtain ⟨ss, hl1, hl2⟩ := rows_of _ len hone
    refine ⟨ss, some a, cap, by rw [hl1], ?_⟩
    by_cases hz : len = 0
    · left; exact List.eq_nil_of_length_eq_zero (by omega)
    · right
      obtain ⟨b, off, spot⟩ := a
      have h0 := (hl2 0 (by omega)).1
      have hsp : spot = none := by
        have := World.cell?_spot h0
        simpa [Addr.add] using this
      subst hsp
      refine ⟨b, off, rfl, fun i hi => ?_⟩
      obtain ⟨q0, q1, q2, q3, q4, q5, q6⟩ := hl2 i hi
      rw [addAA] at q0 q1 q2 q3 q4
      exact ⟨q0, q1, q2, q3, q4, q5, q6⟩
end Go.Vk
