/- A store without a transaction; Begin makes one. The walk of begin of the law's Rig. The walk of rig of the law: a new store with a transaction. The walk of fresh of the law: a cleared pool on a new store. -/
import Derived.Test.YtceodjgajkimnaaGreatML
import Derived.Test.YtceodjgajkimnaaGreatMK
import Derived.Laws.StructEq
set_option linter.unusedVariables false

namespace Go.Vk
open Go.RowKit Go.Proofs

/-- A store that is open. -/
structure StAt (w : World) (sb d l mo : Nat) (F : List Nat) (G : Geom) (D : DM) (ov : List OEnt) (oc : Nat) (op : Bool) : Prop where
  hs : Blk w sb (storeO d l mo G.s G.lg G.n G.life op)
  hd : DiskRep w d D F
  ho : MapAt w mo ov oc
  sF : sb ∉ F
  oF : ∀ k ∈ mapFoot mo ov, k ∉ F
  sO : sb ∉ mapFoot mo ov
  gn : G.home + G.blocks ≤ D.n
  n2 : D.n ≤ 2048
  live : goneB D G.life = false

/-- What a new transaction tells. -/
def TxM.new (D : DM) : TxM := ⟨D, fun _ => none, 0, 0⟩
section
variable {w : World} {sb d l mo : Nat} {F : List Nat} {G : Geom} {D : DM} {ov : List OEnt} {oc : Nat}
theorem StAt.begin (h : StAt w sb d l mo F G D ov oc false) (X : Nat → Prop) (hX : ∀ i, X i → i < w.heap.size ∧ i ≠ sb ∧ i ∉ F ∧ i ∉ mapFoot mo ov) : Calls Tryz.prog 29 #[.pointer (some ⟨sb, 0, none⟩)] w fun e w' =>
    ∃ t mx, e = .returned (.tuple #[.pointer (some ⟨t, 0, none⟩), .int .i64 0]) ∧ w.heap.size ≤ t ∧ w.heap.size ≤ mx ∧ t < w'.heap.size ∧ TxRep w' ⟨t, sb, d, l, mo, mx, F, G, true, ov, oc⟩ (TxM.new D) false (fresh X w'.heap.size) ∧ Keeps (· = sb) w w' := by
  refine (begin_ok h.hs h.hd h.live).mono ?_
  rintro e w' ⟨t, mx, rfl, a1, a2, a3, a4, a5, a6, a7⟩
  have hs := h.hs.lt
  have hdl := h.hd.lt
  have hol := h.ho.lt
  have hT : TxAt w' ⟨t, sb, d, l, mo, mx, F, G, true, ov, oc⟩ D [] 0 0 false X :=
    { ht := a4
      hs := a6
      hd := h.hd.keeps a7 fun i hi e => h.sF (e ▸ hi)
      ho := h.ho.keeps a7 fun i hi e => h.sO (e ▸ hi)
      hx := a5
      tF := fun hm => by have := hdl t hm; omega
      sF := h.sF
      oF := h.oF
      xF := fun k hk hm => by
        have := hdl k hm
        simp [mapFoot] at hk
        omega
      ts := by show t ≠ sb; omega
      tO := fun hm => by have := hol t hm; omega
      tX := fun hm => by simp [mapFoot] at hm; exact a3 hm
      sO := h.sO
      sX := fun hm => by simp [mapFoot] at hm; omega
      xO := fun k hk hm => by
        have := hol k hm
        simp [mapFoot] at hk
        omega
      mb := fun e he => by cases he
      kb := fun e he => by cases he
      gn := h.gn
      n2 := h.n2
      xX := fun k hk => by
        obtain ⟨b1, b2, b3, b4⟩ := hX k hk
        refine ⟨by show k ≠ t; omega, b2, b3, b4, fun hm => ?_⟩
        simp [mapFoot] at hm
        omega }
  exact ⟨t, mx, rfl, a1, a2, a4.lt, ⟨[], 0, hT.client (fun i hi => hi), fun k => rfl, rfl⟩, a7⟩
end
end Go.Vk

namespace Go.Vk
open Go.RowKit Go.Proofs

theorem cell_set_off {w : World} {a p : Addr} {v : Value} (h : w.cell? a = some v) (hne : a ≠ p) (u : Value) : (w.setCell p u).cell? a = some v := by
  rw [World.cell?_setCell_other _ _ _ _ (fun e => hne e.symm)]; exact h
def rigO (d s p q m : Value) (ok : Bool) : Obj := .cells #[d, s, p, q, m, .bool ok] 39 (0, 0)
theorem counts_eq (a b c d e : Int) (w : World) : (binOp .eql 141 (.agg #[.int .i64 a, .int .i64 b, .int .i64 c, .int .i64 d, .int .i64 e]) (.agg #[.int .i64 a, .int .i64 b, .int .i64 c, .int .i64 d, .int .i64 e])).run Tryz.prog w = .ok (.bool true) w := by
  go_simp
section
variable {w : World} {r d sb l mo m : Nat} {F : List Nat} {G : Geom} {D : DM} {ov : List OEnt} {oc : Nat} {R : RP} {Z X : Nat → Prop} {vp vq : Value}
/-- What begin leaves. -/
def BeginPost (w : World) (r d sb l mo m : Nat) (F : List Nat) (G : Geom) (D : DM) (ov : List OEnt) (oc : Nat) (R : RP) (Z X : Nat → Prop) (w' : World) : Prop :=
  ∃ t mx p q n1 n2, w.heap.size ≤ t ∧ w.heap.size ≤ mx ∧ w.heap.size ≤ n1 ∧ t < n1 ∧ n1 ≤ p ∧ n1 ≤ q ∧ p < n2 ∧ q < n2 ∧ n2 ≤ w'.heap.size ∧
    Blk w' r (rigO (.pointer (some ⟨d, 0, none⟩)) (.pointer (some ⟨sb, 0, none⟩)) (.pointer (some ⟨p, 0, none⟩)) (.pointer (some ⟨q, 0, none⟩)) (.pointer (some ⟨m, 0, none⟩)) true) ∧ Blk w' p (poolO t) ∧ Blk w' q (poolO t) ∧
    TxRep w' ⟨t, sb, d, l, mo, mx, F, G, true, ov, oc⟩ (TxM.new D) false (fun i => X i ∨ n1 ≤ i ∧ i < w'.heap.size) ∧
    RefRep w' m R.begin (fun i => Z i ∨ n2 ≤ i ∧ i < w'.heap.size) ∧ Keeps (fun i => i = sb ∨ i = r ∨ i = m) w w'
theorem RefRep.mono {w : World} {m : Nat} {R : RP} {Z Z' : Nat → Prop} (h : RefRep w m R Z) (hZ : ∀ i, Z i → Z' i) : RefRep w m R Z' := by
  obtain ⟨V, h⟩ := h
  exact ⟨V, { h with zm := hZ _ h.zm, zob := fun g e => hZ _ (h.zob g e), zon := fun g e => hZ _ (h.zon g e), znb := fun g e => hZ _ (h.znb g e), znn := fun g e => hZ _ (h.znn g e), zor := fun g e => hZ _ (h.zor g e), zr := fun g e => hZ _ (h.zr g e), zp := fun g e => hZ _ (h.zp g e), zuO := fun u hu g e => hZ _ (h.zuO u hu g e), zuR := fun u hu g e => hZ _ (h.zuR u hu g e) }⟩
structure BInv (w : World) (n1 r d sb m : Nat) (C : TxC) (D : DM) (R : RP) (Z X : Nat → Prop) (vp vq : Value) (ok : Bool) (W : World) : Prop where
  b : Blk W r (.cells #[.pointer (some ⟨d, 0, none⟩), .pointer (some ⟨sb, 0, none⟩), vp, vq, .pointer (some ⟨m, 0, none⟩), .bool ok] 39 (0, 0))
  t : TxRep W C (TxM.new D) false (fresh X n1)
  f : RefRep W m R Z
  d : DiskRep W d D C.F
  k : Keeps (fun i => i = sb ∨ i = r ∨ i = m) w W
  n : n1 ≤ W.heap.size
theorem BInv.quiet {n1 : Nat} {C : TxC} {ok : Bool} {W W' : World} (h : BInv w n1 r d sb m C D R Z X vp vq ok W) (k : Keeps (fun _ => False) W W') : BInv w n1 r d sb m C D R Z X vp vq ok W' :=
  ⟨k.blk h.b (fun f => f), h.t.quiet k (fun _ f => f.elim), h.f.keeps k (fun _ _ f => f), h.d.keeps k (fun _ _ f => f), h.k.step (k.mono fun _ _ f => f.elim), Nat.le_trans h.n k.size⟩
theorem BInv.turn {n1 : Nat} {C : TxC} {ok ok' : Bool} {W W' : World} {vp' vq' : Value} (h : BInv w n1 r d sb m C D R Z X vp vq ok W) (k : Keeps (· = r) W W') (hXr : X r) (hrZ : ¬ Z r) (hrF : r ∉ C.F)
    (b : Blk W' r (.cells #[.pointer (some ⟨d, 0, none⟩), .pointer (some ⟨sb, 0, none⟩), vp', vq', .pointer (some ⟨m, 0, none⟩), .bool ok'] 39 (0, 0))) : BInv w n1 r d sb m C D R Z X vp' vq' ok' W' :=
  ⟨b, h.t.quiet k (fun _ e => .inl (e ▸ hXr)), h.f.keeps k (fun _ hi e => hrZ (e ▸ hi)), h.d.keeps k (fun _ hi e => hrF (e ▸ hi)), h.k.step (k.mono fun _ _ e => .inr (.inl e)), Nat.le_trans h.n k.size⟩
theorem BInv.drew {n1 : Nat} {C : TxC} {ok : Bool} {W : World} (h : BInv w n1 r d sb m C D R Z X vp vq ok W) : BInv w n1 r d sb m C D R Z X vp vq ok W.drew := h.quiet (Keeps.refl _ _).drew
set_option maxHeartbeats 1000000 in
theorem lbegin_w (hr : Blk w r (rigO (.pointer (some ⟨d, 0, none⟩)) (.pointer (some ⟨sb, 0, none⟩)) vp vq (.pointer (some ⟨m, 0, none⟩)) true)) (hS : StAt w sb d l mo F G D ov oc false) (hR : RefRep w m R Z)
    (hX : ∀ i, X i → i < w.heap.size ∧ i ≠ sb ∧ i ∉ F ∧ i ∉ mapFoot mo ov) (hXr : X r) (hXZ : ∀ i, Z i → X i) (hrZ : ¬ Z r) :
    Calls Tryz.prog 43 #[.pointer (some ⟨r, 0, none⟩)] w fun e w' => e = .returned (.tuple #[]) ∧ BeginPost w r d sb l mo m F G D ov oc R Z X w' := by
  have hB := hS.begin X hX
  have hrs : r ≠ sb := (hX r hXr).2.1
  unfold rigO at hr
  have r1 := hr.cell 1
  have r5 := hr.cell 5
  simp at r1 r5
  have hEq := counts_eq D.reads D.writes D.flushes D.refused D.pending
  have hRl := hR
  replace hr := hid hr; replace hS := hid hS; replace hR := hid hR; replace hX := hid hX; replace hXZ := hid hXZ; replace hB := hid hB; replace hRl := hid hRl
  go_enter Tryz.func43, Tryz.ntmps43
  go_upto_region 3 with (first
    | (go_at_call 29; refine hB.out.mono ?_; rintro e w1 ⟨t, mx, rfl, a1, a2, a3, a4, a5⟩; have b1 := a5.blk hr.out hrs; have c5 := b1.cell 5; have cf := b1.frz 5; simp at c5; replace b1 := hid b1; replace a4 := hid a4; replace a5 := hid a5)
    | (go_at_call 19; refine (num_w _ _).mono ?_; rintro e w' ⟨rfl, rfl⟩))
  have hXX := hX.out
  have hZZ := hXZ.out
  have k1 : Keeps (fun i => i = sb ∨ i = r ∨ i = m) w (w1.setCell ⟨r, 5, none⟩ (.bool true)) := (a5.out.mono (fun _ _ e => .inl e)).setCell (p := ⟨r, 5, none⟩) (.inl (.inr (.inl rfl))) _
  have k2 : Keeps (fun i => i = sb ∨ i = r) w (w1.setCell ⟨r, 5, none⟩ (.bool true)) := (a5.out.mono (fun _ _ e => .inl e)).setCell (p := ⟨r, 5, none⟩) (.inl (.inr rfl)) _
  have kr : Keeps (· = r) w1 (w1.setCell ⟨r, 5, none⟩ (.bool true)) := (Keeps.refl (· = r) w1).setCell (p := ⟨r, 5, none⟩) (.inl rfl) _
  have e1 := b1.out.setCell 5 (.bool true)
  simp at e1
  have e2 := a4.out.quiet kr (fun i e => .inl (e ▸ hXr))
  have e3 : RefRep _ m R Z := hR.out.keeps k2 (fun i hi e => by rcases e with e | e; exact (hXX i (hZZ i hi)).2.1 e; exact hrZ (e ▸ hi))
  have e4 : DiskRep _ d D F := hS.out.hd.keeps k2 (fun i hi e => by rcases e with rfl | rfl; exact hS.out.sF hi; exact (hXX _ hXr).2.2.1 hi)
  have e5 : (w1.setCell ⟨r, 5, none⟩ (.bool true)).heap.size = w1.heap.size := World.size_setCell ..
  have hI : BInv w w1.heap.size r d sb m ⟨t, sb, d, l, mo, mx, F, G, true, ov, oc⟩ D R Z X vp vq true (w1.setCell ⟨r, 5, none⟩ (.bool true)) := ⟨e1, e2, e3, e4, k1, Nat.le_of_eq e5.symm⟩
  refine wp_gen (fun W => BInv w w1.heap.size r d sb m ⟨t, sb, d, l, mo, mx, F, G, true, ov, oc⟩ D R Z X vp vq true W) hI ?_
  have hw1 : w.heap.size ≤ w1.heap.size := a5.out.size
  clear hI e1 e2 e3 e4 e5 k1 k2 kr a4 a5 b1 c5 cf r1 r5
  generalize w1.heap.size = n1 at *
  clear w1
  have hrF : r ∉ (⟨t, sb, d, l, mo, mx, F, G, true, ov, oc⟩ : TxC).F := (hXX r hXr).2.2.1
  have hCt : (⟨t, sb, d, l, mo, mx, F, G, true, ov, oc⟩ : TxC).t = t := rfl
  generalize hCg : (⟨t, sb, d, l, mo, mx, F, G, true, ov, oc⟩ : TxC) = C at *
  rintro w2 I2
  have c0 := I2.b.cell 0
  simp at c0
  have hC := counts_w I2.d
  replace I2 := hid I2; replace hC := hid hC; replace hCg := hid hCg; replace hCt := hid hCt
  go_upto_region 4 with (go_at_call 81; refine hC.out.mono ?_; rintro e w3 ⟨rfl, k3⟩; replace k3 := hid k3)
  have I4 := I2.out.quiet (k3.out.alloc (.cells #[.int .i64 D.reads, .int .i64 D.writes, .int .i64 D.flushes, .int .i64 D.refused, .int .i64 D.pending] 141 (0, 0)))
  have B4 := Blk.new w3 (.cells #[.int .i64 D.reads, .int .i64 D.writes, .int .i64 D.flushes, .int .i64 D.refused, .int .i64 D.pending] 141 (0, 0))
  have hn4 : n1 ≤ w3.heap.size := Nat.le_trans I2.out.n k3.out.size
  refine wp_gen (fun W => BInv w n1 r d sb m C D R Z X vp vq true W ∧ Blk W w3.heap.size (.cells #[.int .i64 D.reads, .int .i64 D.writes, .int .i64 D.flushes, .int .i64 D.refused, .int .i64 D.pending] 141 (0, 0))) ⟨I4, B4⟩ ?_
  have hrn : r < n1 := by have := (hXX r hXr).1; omega
  clear I2 hC I4 B4 k3 c0 w2
  generalize w3.heap.size = cb at *
  clear w3
  rintro w4 ⟨I4, B4⟩
  replace I4 := hid I4; replace B4 := hid B4
  go_upto_region 5 with (go_at_call 82; refine (on_w _ _).mono ?_; rintro e w5 ⟨p, rfl, hp, bp, k5⟩; have I5 := I4.out.quiet k5; have q2 := I5.b.cell 2; have qf := I5.b.frz 2; simp at q2; replace I5 := hid I5; replace bp := hid bp; replace k5 := hid k5)
  have hp4 : cb < p := Nat.lt_of_lt_of_le B4.out.lt hp
  have kr5 : Keeps (· = r) w5 (w5.setCell ⟨r, 2, none⟩ (.pointer (some ⟨p, 0, none⟩))) := (Keeps.refl (· = r) w5).setCell (p := ⟨r, 2, none⟩) (.inl rfl) _
  have I6 := I5.out.turn (vp' := .pointer (some ⟨p, 0, none⟩)) (vq' := vq) (ok' := true) kr5 hXr hrZ hrF (by have := I5.out.b.setCell 2 (.pointer (some ⟨p, 0, none⟩)); simpa using this)
  have hpr : p ≠ r := by omega
  have hcr : cb ≠ r := by omega
  have P6 := kr5.blk bp.out hpr
  have B6 := kr5.blk (k5.out.blk B4.out (fun f => f)) hcr
  refine wp_gen (fun W => BInv w n1 r d sb m C D R Z X (.pointer (some ⟨p, 0, none⟩)) vq true W ∧ Blk W cb (.cells #[.int .i64 D.reads, .int .i64 D.writes, .int .i64 D.flushes, .int .i64 D.refused, .int .i64 D.pending] 141 (0, 0)) ∧ Blk W p (.cells #[.pointer (some ⟨t, 0, none⟩)] 43 (0, 0))) ⟨I6, B6, P6⟩ ?_
  clear I5 I6 B4 B6 P6 bp k5 kr5 I4 q2 qf hp w4 w5
  rintro w4 ⟨I4, B4, P4⟩
  replace I4 := hid I4; replace B4 := hid B4; replace P4 := hid P4
  go_upto_region 6 with (go_at_call 82; refine (on_w _ _).mono ?_; rintro e w5 ⟨q, rfl, hq, bq, k5⟩; have I5 := I4.out.quiet k5; have q3 := I5.b.cell 3; have qf := I5.b.frz 3; simp at q3; replace I5 := hid I5; replace bq := hid bq; replace k5 := hid k5)
  have hq4 : p < q := Nat.lt_of_lt_of_le P4.out.lt hq
  have kr5 : Keeps (· = r) w5 (w5.setCell ⟨r, 3, none⟩ (.pointer (some ⟨q, 0, none⟩))) := (Keeps.refl (· = r) w5).setCell (p := ⟨r, 3, none⟩) (.inl rfl) _
  have I6 := I5.out.turn (vp' := .pointer (some ⟨p, 0, none⟩)) (vq' := .pointer (some ⟨q, 0, none⟩)) (ok' := true) kr5 hXr hrZ hrF (by have := I5.out.b.setCell 3 (.pointer (some ⟨q, 0, none⟩)); simpa using this)
  have hqr : q ≠ r := by omega
  have P6 := kr5.blk (k5.out.blk P4.out (fun f => f)) hpr
  have Q6 := kr5.blk bq.out hqr
  have B6 := kr5.blk (k5.out.blk B4.out (fun f => f)) hcr
  refine wp_gen (fun W => BInv w n1 r d sb m C D R Z X (.pointer (some ⟨p, 0, none⟩)) (.pointer (some ⟨q, 0, none⟩)) true W ∧ Blk W cb (.cells #[.int .i64 D.reads, .int .i64 D.writes, .int .i64 D.flushes, .int .i64 D.refused, .int .i64 D.pending] 141 (0, 0)) ∧ Blk W p (.cells #[.pointer (some ⟨t, 0, none⟩)] 43 (0, 0)) ∧ Blk W q (.cells #[.pointer (some ⟨t, 0, none⟩)] 43 (0, 0))) ⟨I6, B6, P6, Q6⟩ ?_
  clear I5 I6 B4 B6 P6 Q6 bq k5 kr5 I4 P4 q3 qf hq w4 w5
  rintro w6 ⟨I6, B6, P6, Q6⟩
  have r0 := I6.b.drew.cell 0
  have r2 := I6.b.drew.cell 2
  have r3 := I6.b.drew.cell 3
  have b0 := B6.drew.cell 0
  have b1 := B6.drew.cell 1
  have b2 := B6.drew.cell 2
  have b3 := B6.drew.cell 3
  have b4 := B6.drew.cell 4
  simp at r0 r2 r3 b0 b1 b2 b3 b4
  have hC := counts_w I6.drew.d
  replace I6 := hid I6; replace B6 := hid B6; replace P6 := hid P6; replace Q6 := hid Q6; replace hC := hid hC
  go_region_held3 (fun W => W.cell? ⟨r, 0, none⟩ = some (.pointer (some ⟨d, 0, none⟩)) ∧ W.cell? ⟨r, 2, none⟩ = some (.pointer (some ⟨p, 0, none⟩)) ∧ W.cell? ⟨r, 3, none⟩ = some (.pointer (some ⟨q, 0, none⟩)) ∧ W.cell? ⟨cb, 0, none⟩ = some (.int .i64 D.reads) ∧ W.cell? ⟨cb, 1, none⟩ = some (.int .i64 D.writes) ∧ W.cell? ⟨cb, 2, none⟩ = some (.int .i64 D.flushes) ∧ W.cell? ⟨cb, 3, none⟩ = some (.int .i64 D.refused) ∧ W.cell? ⟨cb, 4, none⟩ = some (.int .i64 D.pending)) (first | with_reducible exact ⟨r0, r2, r3, b0, b1, b2, b3, b4⟩ | with_reducible exact x7 | exact ⟨cell_set_off x7.1 (fun e => by injection e with e1 e2 _; omega) _, cell_set_off x7.2.1 (fun e => by injection e with e1 e2 _; omega) _, cell_set_off x7.2.2.1 (fun e => by injection e with e1 e2 _; omega) _, cell_set_off x7.2.2.2.1 (fun e => by injection e with e1 e2 _; omega) _, cell_set_off x7.2.2.2.2.1 (fun e => by injection e with e1 e2 _; omega) _, cell_set_off x7.2.2.2.2.2.1 (fun e => by injection e with e1 e2 _; omega) _, cell_set_off x7.2.2.2.2.2.2.1 (fun e => by injection e with e1 e2 _; omega) _, cell_set_off x7.2.2.2.2.2.2.2 (fun e => by injection e with e1 e2 _; omega) _⟩ | go_keep) (first | (go_at_call 81; refine hC.out.mono ?_; rintro e w7 ⟨rfl, k7⟩; have x7 : w7.cell? ⟨r, 0, none⟩ = some (.pointer (some ⟨d, 0, none⟩)) ∧ w7.cell? ⟨r, 2, none⟩ = some (.pointer (some ⟨p, 0, none⟩)) ∧ w7.cell? ⟨r, 3, none⟩ = some (.pointer (some ⟨q, 0, none⟩)) ∧ w7.cell? ⟨cb, 0, none⟩ = some (.int .i64 D.reads) ∧ w7.cell? ⟨cb, 1, none⟩ = some (.int .i64 D.writes) ∧ w7.cell? ⟨cb, 2, none⟩ = some (.int .i64 D.flushes) ∧ w7.cell? ⟨cb, 3, none⟩ = some (.int .i64 D.refused) ∧ w7.cell? ⟨cb, 4, none⟩ = some (.int .i64 D.pending) := ⟨k7.cellF r0 (fun f => f), k7.cellF r2 (fun f => f), k7.cellF r3 (fun f => f), k7.cellF b0 (fun f => f), k7.cellF b1 (fun f => f), k7.cellF b2 (fun f => f), k7.cellF b3 (fun f => f), k7.cellF b4 (fun f => f)⟩; have I7 := I6.out.drew.quiet k7; have c7 := I7.b.cell 5; have f7 := I7.b.frz 5; simp at c7; replace I7 := hid I7; replace k7 := hid k7))
  all_goals
    have kr7 : Keeps (· = r) w7 (w7.setCell ⟨r, 5, none⟩ (.bool true)) := (Keeps.refl (· = r) w7).setCell (p := ⟨r, 5, none⟩) (.inl rfl) _
    have I8 := I7.out.turn (vp' := .pointer (some ⟨p, 0, none⟩)) (vq' := .pointer (some ⟨q, 0, none⟩)) (ok' := true) kr7 hXr hrZ hrF (by have := I7.out.b.setCell 5 (.bool true); simpa using this)
    have P8 := kr7.blk (k7.out.blk P6.out.drew (fun f => f)) hpr
    have Q8 := kr7.blk (k7.out.blk Q6.out.drew (fun f => f)) hqr
    refine exit_gen (fun W => BInv w n1 r d sb m C D R Z X (.pointer (some ⟨p, 0, none⟩)) (.pointer (some ⟨q, 0, none⟩)) true W ∧ Blk W p (.cells #[.pointer (some ⟨t, 0, none⟩)] 43 (0, 0)) ∧ Blk W q (.cells #[.pointer (some ⟨t, 0, none⟩)] 43 (0, 0))) ⟨I8, P8, Q8⟩ ?_
    clear I6 I7 I8 B6 P6 Q6 P8 Q8 kr7 k7 c7 f7 x7 r0 r2 r3 b0 b1 b2 b3 b4 hC
    rename_i hHeld
    clear hHeld
    rintro w8 ⟨I8, P8, Q8⟩
    clear w7 w6
    have r2 := I8.b.cell 2
    have r3 := I8.b.cell 3
    have r4 := I8.b.cell 4
    have r5 := I8.b.cell 5
    have rf := I8.b.frz 5
    have p0 := P8.cell 0
    have q0 := Q8.cell 0
    simp at r2 r3 r4 r5 p0 q0
    have kr8 : Keeps (· = r) w8 (w8.setCell ⟨r, 5, none⟩ (.bool true)) := (Keeps.refl (· = r) w8).setCell (p := ⟨r, 5, none⟩) (.inl rfl) _
    have I9 := I8.turn (vp' := .pointer (some ⟨p, 0, none⟩)) (vq' := .pointer (some ⟨q, 0, none⟩)) (ok' := true) kr8 hXr hrZ hrF (by have := I8.b.setCell 5 (.bool true); simpa using this)
    have P9 := kr8.blk P8 hpr
    have Q9 := kr8.blk Q8 hqr
    have hRB := rbegin_w I9.f
    have hmr : m ≠ r := fun e => by
      obtain ⟨V, hV⟩ := hRl.out
      exact hrZ (e ▸ hV.zm)
    have r4' := cell_set_off r4 (p := ⟨r, 5, none⟩) (fun e => by injection e with e1 e2 _; omega) (.bool true)
    replace I8 := hid I8; replace P8 := hid P8; replace Q8 := hid Q8; replace I9 := hid I9; replace P9 := hid P9; replace Q9 := hid Q9; replace hRB := hid hRB; replace kr8 := hid kr8
    go_wp2_with (go_at_call 83; refine hRB.out.mono ?_; rintro e w9 ⟨rfl, g1, g2⟩; replace g1 := hid g1; replace g2 := hid g2)
    go_end0
    have hmX : X m := by
      obtain ⟨V, hV⟩ := hRl.out
      exact hZZ m hV.zm
    have hmn : m < n1 := by have := (hXX m hmX).1; omega
    have hs9 := g2.out.size
    have hn8 := I9.out.n
    have hpl := P9.out.lt
    have hql := Q9.out.lt
    have hCt' := hCt.out
    refine ⟨rfl, t, mx, p, q, n1, _, a1, a2, hw1, a3, by omega, by omega, hpl, hql, hs9, g2.out.blk I9.out.b (fun e => hmr e.symm), g2.out.blk P9.out (by omega), g2.out.blk Q9.out (by omega), ?_, g1.out, I9.out.k.step (g2.out.mono fun i _ e => .inr (.inr e))⟩
    · rw [hCg.out]
      exact (I9.out.t.quiet g2.out (fun i e => .inl (e ▸ hmX))).client (fun i hi => .inl (hi.elim .inl (fun x => .inr x.1)))
end
end Go.Vk

namespace Go.Vk
open Go.RowKit Go.Proofs

theorem sopen_new {w : World} {d : Nat} {F : List Nat} {s lg n : Nat} (hp : PlanOk s lg n) (h2 : s ≤ 2048) (h : DiskRep w d (fmtD s lg n) F) :
    Calls Tryz.prog 88 #[.pointer (some ⟨d, 0, none⟩)] w (OpenPost w d F (newD s lg n) s lg n (wrap64 ((fmtD s lg n).life + 1)) 1) := by
  obtain ⟨life, g, e1, _⟩ := new_store hp h2
  have ht := fmt_top hp h2
  have := sopen_ok h s lg n 1 0 (fmt_fresh hp h2) (by rw [ht]; rw [e1])
  rw [ht] at this
  exact this
theorem format_new {w : World} {d : Nat} {F : List Nat} {s lg n : Nat} (hp : PlanOk s lg n) (h2 : s ≤ 2048) (h : DiskRep w d (DM.new s) F) :
    Calls Tryz.prog 62 #[.pointer (some ⟨d, 0, none⟩), .agg #[.int .i64 s, .int .i64 lg, .int .i64 n]] w fun e w' => e = .returned (.int .i64 (0 : Nat)) ∧ DPost w d F (fmtD s lg n) w' := by
  obtain ⟨life, e, _⟩ := fmt_ok hp h2
  have h1 : 1 ≤ s := by unfold PlanOk at hp; omega
  refine (format_ok h rfl s lg n hp (Is.new s h1 h2).n.symm (by show (0 : Nat) < _; decide)).mono ?_
  rintro e' w' ⟨rfl, x⟩
  rw [e] at x ⊢
  exact ⟨rfl, x⟩

/-- A new rig: its store, its transaction, its pools, the document's pool. -/
def RigPost (w0 : World) (s lg n : Nat) (e : Ending) (w' : World) : Prop :=
  ∃ (C : TxC) (r p q m : Nat) (Z X : Nat → Prop), e = .returned (.pointer (some ⟨r, 0, none⟩)) ∧ C.G = ⟨s, lg, n, wrap64 ((fmtD s lg n).life + 1)⟩ ∧ C.ov = [] ∧
    Blk w' r (rigO (.pointer (some ⟨C.d, 0, none⟩)) (.pointer (some ⟨C.sb, 0, none⟩)) (.pointer (some ⟨p, 0, none⟩)) (.pointer (some ⟨q, 0, none⟩)) (.pointer (some ⟨m, 0, none⟩)) true) ∧ Blk w' p (poolO C.t) ∧ Blk w' q (poolO C.t) ∧
    Blk w' C.l (logO C.d ⟨1, lg, wrap64 ((fmtD s lg n).life + 1), 2, 1, 0, 0, true⟩) ∧
    TxRep w' C (TxM.new (newD s lg n)) false X ∧ RefRep w' m (newRP (s - (3 + lg)) n).begin Z ∧ X r ∧ X p ∧ X q ∧ X C.l ∧ (∀ i, Z i → X i ∧ i ≠ r ∧ i ≠ p ∧ i ≠ q ∧ i ≠ C.l) ∧ (∀ i, X i → i < w'.heap.size) ∧
    (∀ i, X i ∨ i ∈ C.F ∨ i = C.t ∨ i = C.mx ∨ i = C.sb ∨ i = C.mo → w0.heap.size ≤ i) ∧ Keeps (fun _ => False) w0 w' ∧ p ≠ r ∧ q ≠ r ∧ p ≠ C.l ∧ q ≠ C.l ∧ C.l ≠ r
set_option maxHeartbeats 1000000 in
theorem rig_w (w : World) (s lg n : Nat) (hp : PlanOk s lg n) (h2 : s ≤ 2048) : Calls Tryz.prog 46 #[.agg #[.int .i64 s, .int .i64 lg, .int .i64 n]] w (RigPost w s lg n) := by
  have hp' := hp
  unfold PlanOk at hp'
  have hN := fun w => rnew_w w (s - (3 + lg)) n (by omega) (by omega)
  have hD := fun w => new_ok s (by omega) h2 w
  have hsub : (s : Int) - 3 - (lg : Int) = ((s - (3 + lg) : Nat) : Int) := by omega
  have hb1 : 3 + lg ≤ s := by omega
  have hb2 : s ≤ 2048 := h2
  have hNs : ∀ w (x : Int), x = ((s - (3 + lg) : Nat) : Int) → Calls Tryz.prog 87 #[.int .i64 x, .int .i64 n] w fun e w' =>
    ∃ m, e = .returned (.pointer (some ⟨m, 0, none⟩)) ∧ RefRep w' m (newRP (s - (3 + lg)) n) (fun i => w.heap.size ≤ i ∧ i < w'.heap.size) ∧ Keeps (fun _ => False) w w' := fun w x hx => by rw [hx]; exact hN w
  replace hp := hid hp; replace hp' := hid hp'; replace hN := hid hN; replace hD := hid hD; replace hsub := hid hsub; replace hNs := hid hNs
  go_enter Tryz.func46, Tryz.ntmps46
  go_upto_region 2 with (go_at_call 87; refine (hNs.out _ _ (by omega)).mono ?_; rintro e w1 ⟨m, rfl, m1, k1⟩; replace m1 := hid m1; replace k1 := hid k1)
  have kA : Keeps (fun _ => False) w (w1.alloc (.cells #[.pointer none, .pointer none, .pointer none, .pointer none, .pointer (some ⟨m, 0, none⟩), .bool false] 39 (0, 0))) := (((Keeps.refl _ w).alloc _).step k1.out).alloc _
  have sA := (k1.out.blk (Blk.new w (.cells #[.int .i64 s, .int .i64 lg, .int .i64 n] 31 (0, 0))) (fun f => f)).alloc (.cells #[.pointer none, .pointer none, .pointer none, .pointer none, .pointer (some ⟨m, 0, none⟩), .bool false] 39 (0, 0))
  have rA := Blk.new w1 (.cells #[.pointer none, .pointer none, .pointer none, .pointer none, .pointer (some ⟨m, 0, none⟩), .bool false] 39 (0, 0))
  have mA := m1.out.keeps ((Keeps.refl (fun _ => False) w1).alloc (.cells #[.pointer none, .pointer none, .pointer none, .pointer none, .pointer (some ⟨m, 0, none⟩), .bool false] 39 (0, 0))) (fun _ _ f => f)
  rw [World.size_alloc] at mA
  have hsz1 : w.heap.size + 1 ≤ w1.heap.size := by have := k1.out.size; rwa [World.size_alloc] at this
  refine wp_gen (fun W => Blk W w.heap.size (.cells #[.int .i64 s, .int .i64 lg, .int .i64 n] 31 (0, 0)) ∧ Blk W w1.heap.size (.cells #[.pointer none, .pointer none, .pointer none, .pointer none, .pointer (some ⟨m, 0, none⟩), .bool false] 39 (0, 0)) ∧ RefRep W m (newRP (s - (3 + lg)) n) (fun i => w.heap.size + 1 ≤ i ∧ i < w1.heap.size) ∧ Keeps (fun _ => False) w W) ⟨sA, rA, mA, kA⟩ ?_
  clear sA rA mA kA m1 k1
  generalize hrr : w1.heap.size = r at *
  clear hrr w1
  rintro wA ⟨sA, rA, mA, kA⟩
  have s0 := sA.cell 0
  simp at s0
  have hrl := rA.lt
  replace sA := hid sA; replace rA := hid rA; replace mA := hid mA; replace kA := hid kA
  go_upto_region 5 with (first
    | (go_at_call 61; refine (hD.out _).mono ?_; rintro e w2 ⟨d, F, rfl, d1, k2, f2⟩; replace d1 := hid d1; replace k2 := hid k2; replace f2 := hid f2)
    | (go_at_call 19; refine (num_w _ _).mono ?_; rintro e w' ⟨rfl, rfl⟩))
  have sB := k2.out.blk sA.out (fun f => f)
  have rB := k2.out.blk rA.out (fun f => f)
  have mB := mA.out.keeps k2.out (fun _ _ f => f)
  have kB := kA.out.step k2.out
  have hF : ∀ k ∈ F, r < k := fun k hk => Nat.lt_of_lt_of_le hrl (f2.out k hk)
  have hf := format_new hp.out h2 d1.out
  clear sA rA mA kA k2 f2 s0 hrl
  have q0 := sB.cell 0
  have q1 := sB.cell 1
  have q2 := sB.cell 2
  simp at q0 q1 q2
  replace sB := hid sB; replace rB := hid rB; replace mB := hid mB; replace kB := hid kB; replace hf := hid hf; replace hF := hid hF
  clear wA
  go_upto_region 8 with (first
    | (go_at_call 62; refine hf.out.mono ?_; rintro e w3 ⟨rfl, F3, d3, k3, f3⟩; replace d3 := hid d3; replace k3 := hid k3; replace f3 := hid f3)
    | (go_at_call 19; refine (num_w _ _).mono ?_; rintro e w' ⟨rfl, rfl⟩))
  have hFF := hF.out
  have hrl := rB.out.lt
  have rC := k3.out.blk rB.out (fun hm => by have := hFF r hm; omega)
  have mC := mB.out.keeps k3.out (fun i hi hm => by have := hFF i hm; omega)
  have kC : Keeps (fun _ => False) w w3 := kB.out.trans k3.out (fun i hi hm => by have := hFF i hm; omega)
  have hF3 : ∀ k ∈ F3, r < k := fun k hk => by
    rcases f3.out k hk with x | x
    · exact hFF k x
    · omega
  have hO := sopen_new hp.out h2 d3.out
  have hsz3 := k3.out.size
  have hrl3 : r < w3.heap.size := by omega
  clear sB rB mB kB hf hF hFF q0 q1 q2 k3 f3 d1 d3 hrl hsz3
  unfold OpenPost at hO
  replace rC := hid rC; replace mC := hid mC; replace kC := hid kC; replace hO := hid hO; replace hF3 := hid hF3
  go_upto_region 11 with (first
    | (go_at_call 88; refine hO.out.mono ?_; rintro e w4 ⟨sb, l, mo, F4, rfl, hs, hl, hm, hA, g1, g2, g3, g4⟩; replace hs := hid hs; replace hl := hid hl; replace hm := hid hm; replace hA := hid hA; replace g4 := hid g4)
    | (go_at_call 19; refine (num_w _ _).mono ?_; rintro e w' ⟨rfl, rfl⟩))
  have hFF := hF3.out
  have rD := hA.out.keeps.blk rC.out (fun hm => by have := hFF r hm; omega)
  have mD := mC.out.keeps hA.out.keeps (fun i hi hm => by have := hFF i hm; omega)
  have kD : Keeps (fun _ => False) w w4 := kC.out.trans hA.out.keeps (fun i hi hm => by have := hFF i hm; omega)
  have hF4 : ∀ k ∈ F4, r < k := fun k hk => by
    rcases hA.out.sub k hk with x | x
    · exact hFF k x
    · omega
  have dD := hA.out.rep
  have q0 := rD.cell 0
  have q1 := rD.cell 1
  have q5 := rD.cell 5
  have qf := rD.frz
  simp at q0 q1 q5
  clear hFF hF3 rC mC kC hO
  replace rD := hid rD; replace mD := hid mD; replace kD := hid kD; replace dD := hid dD; replace hF4 := hid hF4
  go_upto_region 14 with fail
  have kS : Keeps (· = r) w4 (((w4.setCell ⟨r, 0, none⟩ (.pointer (some ⟨d, 0, none⟩))).setCell ⟨r, 1, none⟩ (.pointer (some ⟨sb, 0, none⟩))).setCell ⟨r, 5, none⟩ (.bool true)) :=
    (((Keeps.refl (· = r) w4).setCell (p := ⟨r, 0, none⟩) (.inl rfl) _).setCell (p := ⟨r, 1, none⟩) (.inl rfl) _).setCell (p := ⟨r, 5, none⟩) (.inl rfl) _
  have bS := ((rD.out.setCell 0 (.pointer (some ⟨d, 0, none⟩))).setCell 1 (.pointer (some ⟨sb, 0, none⟩))).setCell 5 (.bool true)
  simp at bS
  have hrw : w.heap.size ≤ r := by omega
  have nd := g4.out
  rw [List.nodup_cons, List.nodup_cons, List.nodup_cons] at nd
  simp only [List.mem_cons, not_or] at nd
  obtain ⟨life, g, _, hI, hlf, _⟩ := new_store hp.out h2
  have hS : StAt _ sb d l mo F4 ⟨s, lg, n, wrap64 ((fmtD s lg n).life + 1)⟩ (newD s lg n) [] 0 false :=
    { hs := kS.blk hs.out (by omega)
      hd := dD.out.keeps kS (fun i hi e => by have := hF4.out i hi; omega)
      ho := ⟨kS.blk hm.out (by omega), (fun e he => by cases he), List.nodup_nil, List.nodup_nil, (fun e he => by cases he)⟩
      sF := nd.1.2.2
      oF := fun k hk => by
        have : k = mo := by simpa [mapFoot] using hk
        rw [this]; exact nd.2.2.1
      sO := fun hk => by
        have : sb = mo := by simpa [mapFoot] using hk
        exact nd.1.2.1 this
      gn := by rw [hI.n]; show 3 + lg + (s - (3 + lg)) ≤ s; omega
      n2 := by rw [hI.n]; exact h2
      live := by unfold goneB; rw [hI.burnt, hI.lf, hlf]; simp }
  have mS := mD.out.keeps kS (fun i hi e => by omega)
  have lS := kS.blk hl.out (by omega)
  have kE := kD.out.trans kS (fun i hi e => by omega)
  refine wp_gen (fun W => Blk W r (.cells #[.pointer (some ⟨d, 0, none⟩), .pointer (some ⟨sb, 0, none⟩), .pointer none, .pointer none, .pointer (some ⟨m, 0, none⟩), .bool true] 39 (0, 0)) ∧ StAt W sb d l mo F4 ⟨s, lg, n, wrap64 ((fmtD s lg n).life + 1)⟩ (newD s lg n) [] 0 false ∧ RefRep W m (newRP (s - (3 + lg)) n) (fun i => w.heap.size + 1 ≤ i ∧ i < r) ∧ Blk W l (logO d ⟨1, lg, wrap64 ((fmtD s lg n).life + 1), 2, 1, 0, 0, true⟩) ∧ Keeps (fun _ => False) w W) ⟨bS, hS, mS, lS, kE⟩ ?_
  have hsbr : r < sb := by omega
  have hlr : r < l := by omega
  have hmr : r < mo := by omega
  clear bS hS mS lS kE kS rD mD kD dD hs hl hm hA q0 q1 q5 qf hI hlf w4 g1 g2 g3
  rintro w5 ⟨b5, S5, m5, l5, k5⟩
  have hXs : ∀ i, (i = r ∨ i = l ∨ w.heap.size + 1 ≤ i ∧ i < r) → i < w5.heap.size ∧ i ≠ sb ∧ i ∉ F4 ∧ i ∉ mapFoot mo [] := by
    have h1 := b5.lt
    have h2 := l5.lt
    intro i hi
    simp only [mapFoot, List.map_nil, List.mem_singleton]
    rcases hi with rfl | rfl | hi
    · exact ⟨h1, by omega, fun hm => by have := hF4.out _ hm; omega, by omega⟩
    · exact ⟨h2, fun e => nd.1.1 e.symm, nd.2.1.2, nd.2.1.1⟩
    · exact ⟨by omega, by omega, fun hm => by have := hF4.out _ hm; omega, by omega⟩
  have hB := lbegin_w b5 S5 m5 hXs (.inl rfl) (fun i hi => .inr (.inr hi)) (by omega)
  have hPost : ∀ W, BeginPost w5 r d sb l mo m F4 ⟨s, lg, n, wrap64 ((fmtD s lg n).life + 1)⟩ (newD s lg n) [] 0 (newRP (s - (3 + lg)) n) (fun i => w.heap.size + 1 ≤ i ∧ i < r) (fun i => i = r ∨ i = l ∨ w.heap.size + 1 ≤ i ∧ i < r) W → RigPost w s lg n (.returned (.pointer (some ⟨r, 0, none⟩))) W := by
    rintro W ⟨t, mx, p, q, n1, n2, a1, a2, a3, a4, a5, a6, a7, a8, a9, x1, x2, x3, x4, x5, x6⟩
    have hw5 := k5.size
    have hb5 := b5.lt
    have hl5 := l5.lt
    have hlm : l ≠ m := fun e => by
      obtain ⟨V, hV⟩ := m5
      have := hV.zm
      omega
    have hlb : ¬ (l = sb ∨ l = r ∨ l = m) := by
      rintro (e | e | e)
      · exact nd.1.1 e.symm
      · omega
      · exact hlm e
    refine ⟨_, r, p, q, m, _, _, rfl, rfl, rfl, x1, x2, x3, x6.blk l5 hlb, x4, x5, .inl (.inl rfl), .inr ⟨a5, by omega⟩, .inr ⟨a6, by omega⟩, .inl (.inr (.inl rfl)), ?_, ?_, ?_, ?_, by omega, by omega, by show p ≠ l; omega, by show q ≠ l; omega, by show l ≠ r; omega⟩
    · intro i hi
      rcases hi with hi | hi
      · exact ⟨.inl (.inr (.inr hi)), by omega, by omega, by omega, by show i ≠ l; omega⟩
      · exact ⟨.inr ⟨by omega, hi.2⟩, by omega, by omega, by omega, by show i ≠ l; omega⟩
    · intro i hi
      have := x6.size
      rcases hi with (hi | hi | hi) | hi
      · omega
      · omega
      · omega
      · exact hi.2
    · intro i hi
      rcases hi with ((hi | hi | hi) | hi) | hi | hi | hi | hi | hi
      · omega
      · omega
      · omega
      · omega
      · have := hF4.out i hi; omega
      · have : i = t := hi; omega
      · have : i = mx := hi; omega
      · have : i = sb := hi; omega
      · have : i = mo := hi; omega
    · exact k5.trans x6 (fun i hi e => by
        obtain ⟨V, hV⟩ := m5
        have := hV.zm
        omega)
  replace b5 := hid b5; replace S5 := hid S5; replace m5 := hid m5; replace l5 := hid l5; replace k5 := hid k5; replace hB := hid hB; replace hPost := hid hPost; replace hXs := hid hXs; replace hF4 := hid hF4
  go_wp2_with (go_at_call 43; refine hB.out.mono ?_; rintro e w6 ⟨rfl, x⟩; replace x := hid x)
  go_ret
  exact hPost.out _ x.out
end Go.Vk

namespace Go.Vk
open Go.RowKit Go.Proofs

theorem plan_super (a b c : Int) : PlanOk (gSecs a b c) (gLog b) (gNodes c) := by
  have h1 := gNodes_b c
  have h2 := gLog_b b
  have h3 := gSecs_b a b c
  unfold gLeast at h3
  unfold PlanOk
  omega
/-- A rig, both bitmaps known. -/
structure Rig (w : World) (C : TxC) (r p q m : Nat) (bs ns : List UInt8) (sp : Nat) (X : Nat → Prop) : Prop where
  st : PoolSt w C bs ns sp X
  hr : Blk w r (rigO (.pointer (some ⟨C.d, 0, none⟩)) (.pointer (some ⟨C.sb, 0, none⟩)) (.pointer (some ⟨p, 0, none⟩)) (.pointer (some ⟨q, 0, none⟩)) (.pointer (some ⟨m, 0, none⟩)) true)
  hp : Blk w p (poolO C.t)
  hq : Blk w q (poolO C.t)
  xr : X r
  xp : X p
  xq : X q
theorem Rig.call {w w' : World} {C : TxC} {r p q m : Nat} {bs ns bs' ns' : List UInt8} {sp sp' : Nat} {X : Nat → Prop} (h : Rig w C r p q m bs ns sp X) (k : Keeps (KF C) w w') (h' : PoolSt w' C bs' ns' sp' X) : Rig w' C r p q m bs' ns' sp' X :=
  ⟨h', h.st.blk k h.hr h.xr, h.st.blk k h.hp h.xp, h.st.blk k h.hq h.xq, h.xr, h.xp, h.xq⟩
theorem Rig.quiet {w w' : World} {C : TxC} {r p q m : Nat} {bs ns : List UInt8} {sp : Nat} {X : Nat → Prop} (h : Rig w C r p q m bs ns sp X) (k : Keeps (fun _ => False) w w') : Rig w' C r p q m bs ns sp X :=
  ⟨h.st.quiet k, k.blk h.hr (fun f => f), k.blk h.hp (fun f => f), k.blk h.hq (fun f => f), h.xr, h.xp, h.xq⟩

def FreshPost (w0 : World) (a b c : Int) (e : Ending) (w' : World) : Prop :=
  ∃ (C : TxC) (r p q m : Nat) (X : Nat → Prop), e = .returned (.tuple #[.pointer (some ⟨r, 0, none⟩), .pointer (some ⟨p, 0, none⟩)]) ∧ C.G.s = gSecs a b c ∧ C.G.lg = gLog b ∧ C.G.n = gNodes c ∧
    Rig w' C r p q m (onesB C.G.data) (zeros 512) 0 X ∧ (∀ i, X i ∨ KF C i → w0.heap.size ≤ i) ∧ Keeps (fun _ => False) w0 w'
set_option maxHeartbeats 1000000 in
theorem fresh_w (w : World) (a b c : Int) : Calls Tryz.prog 14 #[.agg #[.int .i64 a, .int .i64 b, .int .i64 c]] w (FreshPost w a b c) := by
  have hS := fun w => lsuper_w w a b c
  have hp := plan_super a b c
  have h2 := (gSecs_b a b c).2
  have h3 := gNodes_b c
  have h4 := gLog_b b
  have hR := fun w => rig_w w (gSecs a b c) (gLog b) (gNodes c) hp h2
  have hgeo : ∀ G : Geom, G.s = gSecs a b c → G.lg = gLog b → G.n = gNodes c → GeoOk G := fun G e1 e2 e3 => by
    have h5 := gSecs_b a b c
    unfold gLeast at h5
    refine ⟨?_, ?_, ?_, ?_⟩
    · unfold Geom.blocks; rw [e1, e2, e3]; omega
    · unfold Geom.blocks; rw [e1, e2]; omega
    · rw [e3]; omega
    · rw [e3]; omega
  have hlive : goneB (newD (gSecs a b c) (gLog b) (gNodes c)) (wrap64 ((fmtD (gSecs a b c) (gLog b) (gNodes c)).life + 1)) = false := by
    obtain ⟨life, g, _, hI, hlf, _⟩ := new_store hp h2
    unfold goneB; rw [hI.burnt, hI.lf, hlf]; simp
  have hRP : ∀ w1 e w2, RigPost w1 (gSecs a b c) (gLog b) (gNodes c) e w2 → Keeps (fun _ => False) w w1 → ∃ (C : TxC) (r p q m : Nat) (X : Nat → Prop), e = .returned (.pointer (some ⟨r, 0, none⟩)) ∧ w2.cell? ⟨r, 5, none⟩ = some (.bool true) ∧ w2.cell? ⟨r, 2, none⟩ = some (.pointer (some ⟨p, 0, none⟩)) ∧
      (Calls Tryz.prog 47 #[.pointer (some ⟨p, 0, none⟩)] w2 fun e w3 => e = .returned (.int .i64 (0 : Nat)) ∧ w3.cell? ⟨r, 2, none⟩ = some (.pointer (some ⟨p, 0, none⟩)) ∧ (∀ w', Keeps (fun _ => False) w3 w' → FreshPost w a b c (.returned (.tuple #[.pointer (some ⟨r, 0, none⟩), .pointer (some ⟨p, 0, none⟩)])) w')) := by
    rintro w1 e w2 ⟨C, r, p, q, m, Z, X, rfl, x1, x2, x3, x4, x5, x6, x7, x8, x9, x10, x11, x12, x13, x14, x15, x16, x17⟩ k1
    have g1 : C.G.s = gSecs a b c := by rw [x1]
    have g2 : C.G.lg = gLog b := by rw [x1]
    have g3 : C.G.n = gNodes c := by rw [x1]
    have hlv : goneB (TxM.new (newD (gSecs a b c) (gLog b) (gNodes c))).D C.G.life = false := by rw [x1]; exact hlive
    have hst : PoolSt w2 C ((TxM.new (newD (gSecs a b c) (gLog b) (gNodes c))).get C 0) ((TxM.new (newD (gSecs a b c) (gLog b) (gNodes c))).get C 1) 0 X :=
      ⟨⟨_, x7, ⟨rfl, rfl, hlv, by simp [TxM.new]⟩, rfl⟩, x14, hgeo C.G g1 g2 g3⟩
    have hrg : Rig w2 C r p q m _ _ 0 X := ⟨hst, x3, x4, x5, x9, x10, x11⟩
    refine ⟨C, r, p, q, m, X, rfl, by have := x3.cell 5; simpa using this, by have := x3.cell 2; simpa using this, (hst.clear x4 x10).mono ?_⟩
    rintro e w3 ⟨rfl, y1, y2⟩
    have hr3 := hrg.call y2 y1
    refine ⟨rfl, by have := hr3.hr.cell 2; simpa using this, fun w' k' => ⟨C, r, p, q, m, X, rfl, g1, g2, g3, hr3.quiet k', fun i hi => ?_, ?_⟩⟩
    · have := k1.size
      have hh : X i ∨ i ∈ C.F ∨ i = C.t ∨ i = C.mx ∨ i = C.sb ∨ i = C.mo := by
        rcases hi with hi | hi | hi | hi
        · exact .inl hi
        · exact .inr (.inl hi)
        · exact .inr (.inr (.inl hi))
        · exact .inr (.inr (.inr (.inl hi)))
      have := x15 i hh
      omega
    · refine ((k1.step x16).trans y2 (fun i hi e => ?_)).step k'
      have h1 := k1.size
      have := x15 i (by
        rcases e with e | e | e
        · exact .inr (.inl e)
        · exact .inr (.inr (.inl e))
        · exact .inr (.inr (.inr (.inl e))))
      omega
  have hkA : Keeps (fun _ => False) w (w.alloc (.cells #[.int .i64 a, .int .i64 b, .int .i64 c] 23 (0, 0))) := (Keeps.refl _ w).alloc _
  replace hS := hid hS; replace hR := hid hR; replace hRP := hid hRP; replace hkA := hid hkA; replace hp := hid hp; replace hlive := hid hlive; replace hgeo := hid hgeo
  go_enter Tryz.func14, Tryz.ntmps14
  go_upto_region 7 with (first
    | (go_at_call 16; refine (hS.out _).mono ?_; rintro e w1 ⟨rfl, k1⟩; replace k1 := hid (hkA.out.step k1))
    | (go_at_call 46; refine (hR.out _).mono ?_; intro e w2 hx; obtain ⟨C, r, p, q, m, X, rfl, c5, c2, hC⟩ := hRP.out _ _ _ hx k1.out; clear hx; replace hC := hid hC)
    | (go_at_call 47; refine hC.out.mono ?_; rintro e w3 ⟨rfl, d2, hP⟩; replace hP := hid hP)
    | (go_at_call 19; refine (num_w _ _).mono ?_; rintro e w' ⟨rfl, rfl⟩))
  go_region
  go_wp2
  go_ret2
  exact hP.out _ (Keeps.refl _ _).drew
end Go.Vk
