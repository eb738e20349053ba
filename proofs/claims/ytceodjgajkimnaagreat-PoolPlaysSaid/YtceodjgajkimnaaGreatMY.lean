/- A rig whose transaction was ended; a new one is begun. The walk of ends of the law, by Abort. Steps that end the transaction by Abort, and that ask its state. -/
import Derived.Test.YtceodjgajkimnaaGreatMX
import Derived.Test.YtceodjgajkimnaaGreatNJ
import Derived.Test.YtceodjgajkimnaaGreatNC
set_option linter.unusedVariables false

namespace Go.Vk
open Go.RowKit Go.Proofs

/-- The transaction is ended, nothing of it was; the document's likewise. -/
structure REnd (w : World) (C : TxC) (r p q m : Nat) (D : DM) (sp : Nat) (old : Nat → List UInt8) (L : LM) (wr : Nat) (R : RP) (Z X : Nat → Prop) : Prop where
  rep : TxRep w C ⟨D, fun _ => none, 0, sp⟩ true X
  op : C.op = false
  live : goneB D C.G.life = false
  o : ∀ b, b < C.G.blocks → cmtB D (ovOf C.ov) C.G.home b = old b
  lt : ∀ i, X i → i < w.heap.size
  geo : GeoOk C.G
  hr : Blk w r (rigO (.pointer (some ⟨C.d, 0, none⟩)) (.pointer (some ⟨C.sb, 0, none⟩)) (.pointer (some ⟨p, 0, none⟩)) (.pointer (some ⟨q, 0, none⟩)) (.pointer (some ⟨m, 0, none⟩)) true)
  hp : Blk w p (poolO C.t)
  hq : Blk w q (poolO C.t)
  ref : RefRep w m R Z
  xr : X r
  xp : X p
  xq : X q
  zX : ∀ i, Z i → X i ∧ i ≠ r ∧ i ≠ p ∧ i ≠ q
  dk : Calm C.G L wr D
  hl : Blk w C.l (logO C.d L)
  lF : C.l ∉ C.F
  xl : ∀ i, X i → i ≠ C.l
  lok : LOk C.G L
  ovk : ∀ e ∈ C.ov, e.key < C.G.blocks
section
variable {w w' w0 : World} {C : TxC} {r p q m sp : Nat} {D : DM} {T : TS} {R : RP} {Z X F : Nat → Prop} {old : Nat → List UInt8} {J : TS → Prop} {e : Ending} {v : Value} {L : LM} {wr tk : Nat}
theorem TxRep.mxLt {M : TxM} {en : Bool} (h : TxRep w C M en X) : C.mx < w.heap.size := by
  obtain ⟨own, xc, h1, _⟩ := h
  exact h1.hx.lt _ (by simp [mapFoot])
theorem notKF_log {M : TxM} {en : Bool} (h : TxRep w C M en X) {d : Nat} (hl : Blk w C.l (logO d L)) (lF : C.l ∉ C.F) : ¬ KF C C.l ∧ C.l ≠ C.sb := by
  obtain ⟨own, xc, y1, _⟩ := h
  refine ⟨fun x => ?_, fun x => ?_⟩
  · rcases x with x | x | x
    · exact lF x
    · have ht := y1.ht
      rw [x] at hl
      unfold Blk at hl ht
      rw [hl] at ht
      simp [logO, txO] at ht
    · have ht := y1.hx.hm
      rw [x] at hl
      unfold Blk at hl ht
      rw [hl] at ht
      simp [logO, mapO] at ht
  · have ht := y1.hs
    rw [x] at hl
    unfold Blk at hl ht
    rw [hl] at ht
    simp [logO, storeO] at ht
theorem REnd.four (h : REnd w C r p q m D sp old L wr R Z X) : txState D C.G.life sp true = 4 := by
  unfold txState; rw [h.live]; rfl
theorem REnd.notF (h : REnd w C r p q m D sp old L wr R Z X) {i : Nat} (hi : X i) : ¬ KF C i := by
  obtain ⟨a1, a2, a3⟩ := h.rep.notF hi
  rintro (x | x | x)
  · exact a1 x
  · exact a2 x
  · exact a3 x
theorem REnd.call (h : REnd w C r p q m D sp old L wr R Z X) (x : PoolM w C ⟨D, fun _ => none, 0, sp⟩ true X v e w') : e = .returned v ∧ REnd w' C r p q m D sp old L wr R Z X ∧ Keeps (KF C) w w' := by
  obtain ⟨x1, x2, x3⟩ := x
  have k : Keeps (KF C) w w' := x3
  exact ⟨x1,
    { h with
      rep := x2
      lt := fun i hi => Nat.lt_of_lt_of_le (h.lt i hi) k.size
      hr := k.blk h.hr (h.notF h.xr)
      hp := k.blk h.hp (h.notF h.xp)
      hq := k.blk h.hq (h.notF h.xq)
      ref := h.ref.keeps k (fun i hi f => h.notF (h.zX i hi).1 f)
      hl := k.blk h.hl (notKF_log h.rep h.hl h.lF).1 }, k⟩
theorem REnd.quiet (h : REnd w C r p q m D sp old L wr R Z X) (k : Keeps (fun _ => False) w w') : REnd w' C r p q m D sp old L wr R Z X :=
  { h with
    rep := h.rep.quiet k (fun _ f => f.elim)
    lt := fun i hi => Nat.lt_of_lt_of_le (h.lt i hi) k.size
    hr := k.blk h.hr (fun f => f)
    hp := k.blk h.hp (fun f => f)
    hq := k.blk h.hq (fun f => f)
    ref := h.ref.keeps k (fun i hi f => f)
    hl := k.blk h.hl (fun f => f) }
/-- Abort on the store's side. -/
theorem RX.abort (h : RX w C r p q m T R Z X) (hdd : T.dd = false) : Calls Tryz.prog 35 #[.pointer (some ⟨C.t, 0, none⟩)] w fun e w' => e = .returned (.int .i64 0) ∧ ∃ D sp, REnd w' { C with op := false } r p q m D sp T.old T.lm T.wr R Z X ∧ Keeps (fun i => KF C i ∨ i = C.sb) w w' := by
  obtain ⟨M, ⟨own, xc, y1, y2, y3⟩, hM⟩ := h.pl.rep
  refine (tabort_w y1 (hM.live.trans hdd)).mono ?_
  rintro e w' ⟨rfl, z1, z2⟩
  have hx := fun i hi => (y1.xX i hi)
  have kk : Keeps X w w → Keeps (fun i => ¬ X i) w w' := fun _ => z2.mono fun i _ f hi => by
    obtain ⟨a1, a2, a3, a4, a5⟩ := hx i hi
    rcases f with f | f | f
    · exact a1 f
    · exact a2 f
    · exact a5 (by simp [mapFoot, f])
  have k := kk (Keeps.refl _ w)
  refine ⟨rfl, M.D, M.sp, ?_, z2.mono fun i _ f => ?_⟩
  · exact
      { rep := ⟨[], xc, z1, fun _ => rfl, rfl⟩
        op := rfl
        live := hM.live.trans hdd
        o := hM.o
        lt := fun i hi => Nat.lt_of_lt_of_le (h.pl.lt i hi) z2.size
        geo := h.pl.geo
        hr := k.blk h.hr (fun f => f h.xr)
        hp := k.blk h.hp (fun f => f h.xp)
        hq := k.blk h.hq (fun f => f h.xq)
        ref := h.ref.keeps k (fun i hi f => f (h.zX i hi).1)
        xr := h.xr, xp := h.xp, xq := h.xq, zX := h.zX
        dk := hM.dk.1 hdd
        hl := z2.blk h.hl (fun f => by
          obtain ⟨b1, b2⟩ := notKF_log (M := M) ⟨own, xc, y1, y2, y3⟩ h.hl h.lF
          rcases f with f | f | f
          · exact b1 (.inr (.inl f))
          · exact b2 f
          · exact b1 (.inr (.inr f)))
        lF := h.lF
        xl := h.xl
        lok := h.lok
        ovk := h.ovk }
  · rcases f with f | f | f
    · exact .inl (.inr (.inl f))
    · exact .inr f
    · exact .inl (.inr (.inr f))
/-- Abort on the document's side. -/
theorem REnd.abort (h : REnd w C r p q m D sp old L wr R Z X) (hd : R.dead = false) (ho : R.op = true) : Calls Tryz.prog 169 #[.pointer (some ⟨m, 0, none⟩)] w fun e w' => e = .returned (.int .i64 0) ∧ REnd w' C r p q m D sp old L wr { R with op := false } (Zn w w' Z) (Zn w w' X) ∧ Keeps Z w w' := by
  refine (rabort_w h.ref hd ho).mono ?_
  rintro e w' ⟨rfl, s⟩
  refine ⟨rfl, ?_, s.k⟩
  exact
    { rep := ((h.rep.client (Y := fun i => X i ∨ w.heap.size ≤ i) (fun i hi => hi)).quiet s.k (fun i f => .inl (h.zX i f).1)).client (fun i hi => .inl (hi.elim .inl (fun x => .inr x.1)))
      op := h.op
      live := h.live
      o := h.o
      lt := fun i hi => hi.elim (fun x => Nat.lt_of_lt_of_le (h.lt i x) s.k.size) (·.2)
      geo := h.geo
      hr := s.k.blk h.hr (fun f => (h.zX r f).2.1 rfl)
      hp := s.k.blk h.hp (fun f => (h.zX p f).2.2.1 rfl)
      hq := s.k.blk h.hq (fun f => (h.zX q f).2.2.2 rfl)
      ref := s.rep
      xr := .inl h.xr, xp := .inl h.xp, xq := .inl h.xq
      zX := fun i hi => by
        have h1 := h.hr.lt
        have h2 := h.hp.lt
        have h3 := h.hq.lt
        rcases hi with hi | hi
        · exact ⟨.inl (h.zX i hi).1, (h.zX i hi).2⟩
        · exact ⟨.inr hi, by omega, by omega, by omega⟩
      dk := h.dk
      hl := s.k.blk h.hl (fun f => h.xl _ (h.zX _ f).1 rfl)
      lF := h.lF
      xl := fun i hi e => hi.elim (fun x => h.xl i x e) (fun x => by have := h.hl.lt; omega)
      lok := h.lok
      ovk := h.ovk }
theorem REnd.begin (h : REnd w C r p q m D sp old L wr R Z X) (hS : Olds R.oldB R.oldN R.oldRaw old C.G) (hb : R.data = C.G.data ∧ R.blocks = C.G.blocks ∧ R.nodes = C.G.n ∧ R.dead = false) : Calls Tryz.prog 43 #[.pointer (some ⟨r, 0, none⟩)] w fun e w' => e = .returned (.tuple #[]) ∧
    ∃ (C' : TxC) (p' q' : Nat) (Z' X' : Nat → Prop), RX w' C' r p' q' m ⟨old, [], 0, old, L, wr, false, tk⟩ R.begin Z' X' ∧ Same R.begin ⟨old, [], 0, old, L, wr, false, tk⟩ C'.G ∧ (∀ i, Foot C' r p' q' Z' i → Zn w w' (Foot C r p q Z) i) ∧ (∀ i, X i → X' i) ∧ Keeps (fun i => i = C.sb ∨ i = r ∨ Z i) w w' := by
  obtain ⟨own, xc, y1, y2, y3⟩ := id h.rep
  have hxX := fun i hi => (y1.xX i hi)
  have hs := y1.hs
  rw [h.op] at hs
  have hAt : StAt w C.sb C.d C.l C.mo C.F C.G D C.ov C.oc false := ⟨hs, y1.hd, y1.ho, y1.sF, y1.oF, y1.sO, y1.gn, y1.n2, h.live⟩
  have hmZ : Z m := by obtain ⟨V, hV⟩ := h.ref; exact hV.zm
  have hmX : X m := (h.zX m hmZ).1
  refine (lbegin_w h.hr hAt h.ref (X := X) (fun i hi => ⟨h.lt i hi, (hxX i hi).2.1, (hxX i hi).2.2.1, (hxX i hi).2.2.2.1⟩) h.xr (fun i hi => (h.zX i hi).1) (fun f => (h.zX r f).2.1 rfl)).mono ?_
  rintro e w' ⟨rfl, t, mx, p', q', n1, n2, a1, a2, a3, a4, a5, a6, a7, a8, a9, x1, x2, x3, x4, x5, x6⟩
  have hrl := h.hr.lt
  refine ⟨rfl, ⟨t, C.sb, C.d, C.l, C.mo, mx, C.F, C.G, true, C.ov, C.oc⟩, p', q', fun i => Z i ∨ n2 ≤ i ∧ i < w'.heap.size, fun i => X i ∨ n1 ≤ i ∧ i < w'.heap.size, ?_, ?_, fun i hi => ?_, fun i hi => .inl hi, x6.mono fun i _ f => ?_⟩
  · exact
      { pl := ⟨⟨_, x4, ⟨fun b hb => h.o b hb, fun b => ⟨fun _ => by simp, fun _ => rfl⟩, rfl, List.nodup_nil, by simp, h.live, rfl, h.o, fun _ => h.dk, fun e => by cases e⟩⟩, fun i hi => hi.elim (fun x => by have := h.lt i x; omega) (·.2), h.geo⟩
        hr := x1, hp := x2, hq := x3
        ref := x5
        xr := .inl h.xr
        xp := .inr ⟨a5, by omega⟩
        xq := .inr ⟨a6, by omega⟩
        zX := fun i hi => by
          rcases hi with hi | hi
          · have := h.lt i (h.zX i hi).1
            exact ⟨.inl (h.zX i hi).1, (h.zX i hi).2.1, by omega, by omega⟩
          · exact ⟨.inr ⟨by omega, hi.2⟩, by omega, by omega, by omega⟩
        le := by simp
        hl := x6.blk h.hl (fun f => by
          rcases f with f | f | f
          · exact (notKF_log h.rep h.hl h.lF).2 f
          · exact h.xl _ h.xr f.symm
          · exact h.xl _ hmX f.symm)
        lF := h.lF
        xl := fun i hi e => hi.elim (fun x => h.xl i x e) (fun x => by have := h.hl.lt; dsimp only at e; omega)
        lok := h.lok
        ovk := h.ovk }
  · obtain ⟨b1, b2, b3, b4⟩ := hb
    obtain ⟨o1, o2, o3, o4⟩ := hS
    exact ⟨o1, o2, o3, o4, rfl, rfl, rfl, b4, b1, b2, b3, o1, o2, o3, o4⟩
  · rcases hi with (hi | hi | hi) | (hi | hi) | hi | hi | hi | hi
    · exact .inl (.inl (.inl hi))
    · have e : i = t := hi; exact .inr ⟨by omega, by omega⟩
    · have e : i = mx := hi; exact .inr ⟨by omega, by have := x4.mxLt; exact e ▸ this⟩
    · exact .inl (.inr (.inl hi))
    · exact .inr ⟨by omega, hi.2⟩
    · exact .inl (.inr (.inr (.inl hi)))
    · exact .inr ⟨by omega, by omega⟩
    · exact .inr ⟨by omega, by omega⟩
    · exact .inl (.inr (.inr (.inr (.inr (.inr hi)))))
  · rcases f with f | f | f
    · exact .inl f
    · exact .inr (.inl f)
    · exact .inr (.inr (f ▸ hmZ))
end
end Go.Vk

namespace Go.Vk
open Go.RowKit Go.Proofs

def EndIn (w0 : World) (C : TxC) (r p q m : Nat) (D : DM) (sp : Nat) (old : Nat → List UInt8) (L : LM) (wr : Nat) (R : RP) (Z X F X0 : Nat → Prop) (u : Nat) (w : World) : Prop :=
  REnd w C r p q m D sp old L wr R Z X ∧ Blk w u (poolO C.t) ∧ X u ∧ Keeps F w0 w ∧ (∀ i, Foot C r p q Z i → Zn w0 w F i) ∧ (∀ i, X0 i → X i)
/-- What the law asks of an ended transaction, and how it begins another. -/
structure EndK (J : TS → Prop) (w0 : World) (r t u : Nat) (F X0 : Nat → Prop) (EI : World → Prop) : Prop where
  c : ∀ W, EI W → W.cell? ⟨u, 0, none⟩ = some (.pointer (some ⟨t, 0, none⟩))
  st : ∀ W, EI W → Calls Tryz.prog 18 #[.pointer (some ⟨t, 0, none⟩)] W fun e w' => e = .returned (.int .i64 4) ∧ EI w'
  tn : ∀ W, EI W → Calls Tryz.prog 48 #[.pointer (some ⟨u, 0, none⟩)] W fun e w' => e = .returned (.tuple #[.int .i64 0, .int .i64 4]) ∧ EI w'
  db : ∀ W, EI W → Calls Tryz.prog 60 #[.pointer (some ⟨u, 0, none⟩), .int .i64 (-1)] W fun e w' => e = .returned (.int .i64 4) ∧ EI w'
  dn : ∀ W, EI W → Calls Tryz.prog 59 #[.pointer (some ⟨u, 0, none⟩), .int .i64 0] W fun e w' => e = .returned (.int .i64 4) ∧ EI w'
  tb : ∀ W, EI W → Calls Tryz.prog 49 #[.pointer (some ⟨u, 0, none⟩)] W fun e w' => e = .returned (.tuple #[.int .i64 0, .int .i64 4]) ∧ EI w'
  cl : ∀ W, EI W → Calls Tryz.prog 47 #[.pointer (some ⟨u, 0, none⟩)] W fun e w' => e = .returned (.int .i64 4) ∧ EI w'
  lf : ∀ W, EI W → Calls Tryz.prog 20 #[.pointer (some ⟨u, 0, none⟩)] W fun e w' => e = .returned (.tuple #[.int .i64 0, .int .i64 0, .int .i64 4]) ∧ EI w'
  bg : ∀ W, EI W → Calls Tryz.prog 43 #[.pointer (some ⟨r, 0, none⟩)] W fun e w' => e = .returned (.tuple #[]) ∧ w'.cell? ⟨r, 5, none⟩ = some (.bool true) ∧ SidePost J w0 r F X0 (.returned (.bool true)) w'
section
variable {w w' w0 : World} {C : TxC} {r p q m sp u : Nat} {D : DM} {T : TS} {R : RP} {Z X F X0 : Nat → Prop} {old : Nat → List UInt8} {J : TS → Prop} {e : Ending} {v : Value} {L : LM} {wr tk : Nat}
theorem EndIn.step (h : EndIn w0 C r p q m D sp old L wr R Z X F X0 u w) (h' : REnd w' C r p q m D sp old L wr R Z X) (k : Keeps (KF C) w w') : EndIn w0 C r p q m D sp old L wr R Z X F X0 u w' := by
  obtain ⟨h1, h2, h3, h4, h5, h6⟩ := h
  have z := k.size
  have z4 := h4.size
  refine ⟨h', k.blk h2 (h1.notF h3), h3, h4.trans k (fun i hi f => (h5 i (.inl f)).elim id (fun x => by omega)), fun i hi => (h5 i hi).elim .inl (fun x => .inr ⟨x.1, by omega⟩), h6⟩
theorem EndIn.call (h : EndIn w0 C r p q m D sp old L wr R Z X F X0 u w) (x : PoolM w C ⟨D, fun _ => none, 0, sp⟩ true X v e w') : e = .returned v ∧ EndIn w0 C r p q m D sp old L wr R Z X F X0 u w' := by
  obtain ⟨x1, x2, x3⟩ := h.1.call x
  exact ⟨x1, h.step x2 x3⟩
theorem EndIn.K (hJ : J ⟨old, [], 0, old, L, wr, false, tk⟩) (hS : Olds R.oldB R.oldN R.oldRaw old C.G) (hb : R.data = C.G.data ∧ R.blocks = C.G.blocks ∧ R.nodes = C.G.n ∧ R.dead = false) : EndK J w0 r C.t u F X0 (EndIn w0 C r p q m D sp old L wr R Z X F X0 u) where
  c := fun W h => by have := h.2.1.cell 0; simpa using this
  st := fun W h => by
    have h4 := h.1.four
    have := state_m h.1.rep
    rw [h4] at this
    refine this.mono ?_
    rintro e w' ⟨rfl, k, rfl⟩
    have hk : Keeps (fun _ => False) W (W.drewN k) := (Keeps.refl _ W).drewN k
    exact ⟨rfl, h.step (h.1.quiet hk) (hk.mono fun _ _ f => f.elim)⟩
  tn := fun W h => by
    have h4 := h.1.four
    have := takeN_bad h.2.1 h.1.rep (by rw [h4]; decide)
    rw [h4] at this
    exact this.mono fun e w' x => h.call x
  db := fun W h => by
    have h4 := h.1.four
    have := dropB_bad h.2.1 h.1.rep (by rw [h4]; decide) (-1)
    rw [h4] at this
    exact this.mono fun e w' x => h.call x
  dn := fun W h => by
    have h4 := h.1.four
    have := dropN_bad h.2.1 h.1.rep (by rw [h4]; decide) 0
    rw [h4] at this
    exact this.mono fun e w' x => h.call x
  tb := fun W h => by
    have h4 := h.1.four
    have := takeB_bad h.2.1 h.1.rep (by rw [h4]; decide)
    rw [h4] at this
    exact this.mono fun e w' x => h.call x
  cl := fun W h => by
    have h4 := h.1.four
    have := clear_bad h.2.1 h.1.rep (by rw [h4]; decide)
    rw [h4] at this
    exact this.mono fun e w' x => h.call x
  lf := fun W h => by
    have h4 := h.1.four
    have := left_bad h.2.1 h.1.rep (by rw [h4]; decide)
    rw [h4] at this
    exact this.mono fun e w' x => h.call x
  bg := fun W h => by
    obtain ⟨h1, h2, h3, h4, h5, h6⟩ := h
    have z4 := h4.size
    refine (h1.begin (tk := tk) hS hb).mono ?_
    rintro e w' ⟨rfl, C', p', q', Z', X', y1, y2, y3, y4, y5⟩
    have z5 := y5.size
    refine ⟨rfl, by have := y1.hr.cell 5; simpa using this, rfl, _, X', ⟨C', p', q', m, _, _, Z', y1, y2, hJ, rfl⟩, h4.trans y5 (fun i hi f => ?_), fun i hi => ?_, fun i hi => y4 i (h6 i hi)⟩
    · have : Foot C r p q Z i := by
        rcases f with f | f | f
        · exact .inr (.inr (.inr (.inr (.inr (.inl f)))))
        · exact .inr (.inr (.inl f))
        · exact .inr (.inl f)
      exact (h5 i this).elim id (fun x => by omega)
    · rcases y3 i hi with x | x
      · exact (h5 i x).elim .inl (fun x => .inr ⟨x.1, by omega⟩)
      · exact .inr ⟨by omega, x.2⟩
set_option maxRecDepth 100000 in
set_option maxHeartbeats 4000000 in
theorem ends9_w (h : RX w C r p q m T R Z X) (hs : Same R T C.G) (hdd : T.dd = false) (hJ : J ⟨T.old, [], 0, T.old, T.lm, T.wr, false, T.tk⟩) (u : Nat) (hu : Blk w u (poolO C.t)) (xu : X u) (hzu : ¬ Z u) : Calls Tryz.prog 132 #[.pointer (some ⟨r, 0, none⟩), .pointer (some ⟨u, 0, none⟩), .int .i64 9] w (SidePost J w r (Foot C r p q Z) X) := by
  have hA : Calls Tryz.prog 35 #[.pointer (some ⟨C.t, 0, none⟩)] w fun e w1 => e = .returned (.int .i64 0) ∧ w1.cell? ⟨r, 4, none⟩ = some (.pointer (some ⟨m, 0, none⟩)) ∧
      Calls Tryz.prog 169 #[.pointer (some ⟨m, 0, none⟩)] w1 fun e w2 => e = .returned (.int .i64 0) ∧ ∃ EI : World → Prop, EI w2 ∧ EndK J w r C.t u (Foot C r p q Z) X EI := by
    refine (h.abort hdd).mono ?_
    rintro e w1 ⟨rfl, D, sp, y1, y2⟩
    refine ⟨rfl, by have := y1.hr.cell 4; simpa using this, ?_⟩
    refine (y1.abort (hs.dead.trans hdd) hs.op).mono ?_
    rintro e w2 ⟨rfl, z1, z2⟩
    have s1 := y2.size
    have s2 := z2.size
    have hsb : ¬ X C.sb := fun f => by
      obtain ⟨M, ⟨own, xc, t1, _⟩, _⟩ := h.pl.rep
      exact (t1.xX _ f).2.1 rfl
    have hu1 : Blk w1 u (poolO C.t) := y2.blk hu (fun f => f.elim (h.pl.notF xu) (fun x => hsb (x ▸ xu)))
    have hu2 : Blk w2 u (poolO C.t) := z2.blk hu1 hzu
    have k1 : Keeps (Foot C r p q Z) w w1 := y2.mono fun i _ f => f.elim .inl (fun x => .inr (.inr (.inr (.inr (.inr (.inl x))))))
    have k2 : Keeps (Foot C r p q Z) w1 w2 := z2.mono fun i _ f => .inr (.inl f)
    have hft : ∀ i, Foot { C with op := false } r p q (Zn w1 w2 Z) i → Zn w w2 (Foot C r p q Z) i := by
      intro i hi
      rcases hi with (hi | hi | hi) | (hi | hi) | hi
      · exact .inl (.inl (.inl hi))
      · exact .inl (.inl (.inr (.inl hi)))
      · exact .inl (.inl (.inr (.inr hi)))
      · exact .inl (.inr (.inl hi))
      · exact .inr ⟨by omega, hi.2⟩
      · exact .inl (.inr (.inr hi))
    exact ⟨rfl, EndIn w { C with op := false } r p q m D sp T.old T.lm T.wr { R with op := false } (Zn w1 w2 Z) (Zn w1 w2 X) (Foot C r p q Z) X u, ⟨z1, hu2, .inl xu, k1.step k2, hft, fun i hi => .inl hi⟩, EndIn.K (C := { C with op := false }) hJ hs.od ⟨hs.data, hs.blocks, hs.nodes, hs.dead.trans hdd⟩⟩
  have cu := hu.cell 0
  simp at cu
  have hP : ∀ EI, EndK J w r C.t u (Foot C r p q Z) X EI → EndK J w r C.t u (Foot C r p q Z) X EI := fun _ x => x
  have hB3 : ∀ EI, EndK J w r C.t u (Foot C r p q Z) X EI → ∀ W, EI W → Calls Tryz.prog 43 #[.pointer (some ⟨r, 0, none⟩)] W fun e w' => e = .returned (.tuple #[]) ∧ w'.cell? ⟨r, 5, none⟩ = some (.bool true) ∧ SidePost J w r (Foot C r p q Z) X (.returned (.bool true)) w' := fun EI x => x.bg
  clear hP
  generalize hPost : SidePost J w r (Foot C r p q Z) X = Post at hB3 ⊢
  replace h := hid h; replace hs := hid hs; replace hJ := hid hJ; replace hu := hid hu; replace xu := hid xu; replace hzu := hid hzu; replace hA := hid hA; replace hB3 := hid hB3; replace hPost := hid hPost
  go_enter Tryz.func132, Tryz.ntmps132
  go_wp2_with (first
    | (go_at_call 35; refine hA.out.mono ?_; rintro e w1 ⟨rfl, d4, hB⟩; replace hB := hid hB)
    | (go_at_call 169; refine hB.out.mono ?_; rintro e w2 ⟨rfl, EI, hE, hK⟩; have d0 := hK.c _ hE; have hBg := hB3.out _ hK; replace hE := hid hE; replace hK := hid hK; replace hBg := hid hBg)
    | (go_at_call 18; refine (hK.out.st _ hE.out).mono ?_; rintro e w3 ⟨rfl, hE3⟩; replace hE3 := hid hE3)
    | (go_at_call 49; refine (hK.out.tb _ hE3.out).mono ?_; rintro e w4 ⟨rfl, hE4⟩; replace hE4 := hid hE4)
    | (go_at_call 60; refine (hK.out.db _ hE4.out).mono ?_; rintro e w5 ⟨rfl, hE5⟩; replace hE5 := hid hE5)
    | (go_at_call 59; refine (hK.out.dn _ hE5.out).mono ?_; rintro e w6 ⟨rfl, hE6⟩; replace hE6 := hid hE6)
    | (go_at_call 48; refine (hK.out.tn _ hE6.out).mono ?_; rintro e w7 ⟨rfl, hE7⟩; replace hE7 := hid hE7)
    | (go_at_call 47; refine (hK.out.cl _ hE7.out).mono ?_; rintro e w8 ⟨rfl, hE8⟩; replace hE8 := hid hE8)
    | (go_at_call 20; refine (hK.out.lf _ hE8.out).mono ?_; rintro e w9 ⟨rfl, hE9⟩; replace hE9 := hid hE9)
    | (go_at_call 43; refine (hBg.out _ hE9.out).mono ?_; rintro e w10 ⟨rfl, d5, hF⟩; replace hF := hid hF)
    | (go_at_call 19; refine (num_w _ _).mono ?_; rintro e w' ⟨rfl, rfl⟩))
  exact hF.out
end
end Go.Vk

namespace Go.Vk
open Go.RowKit Go.Proofs

section
variable {Post : Ending → World → Prop} {w : World} {r p q t m : Nat}
set_option maxRecDepth 100000 in
set_option maxHeartbeats 2000000 in
theorem stepE_w (hr2 : w.cell? ⟨r, 2, none⟩ = some (.pointer (some ⟨p, 0, none⟩))) (hr3 : w.cell? ⟨r, 3, none⟩ = some (.pointer (some ⟨q, 0, none⟩))) (k n : Int) (hk : k = 8 ∨ k = 9) (who two : Bool) (ad : Option Addr) (ld cd : Nat)
    (hP : ∀ e w', Post e w' → ∃ b, e = .returned (.bool b)) (hC : ∀ w1, Keeps (fun _ => False) w w1 → Calls Tryz.prog 132 #[.pointer (some ⟨r, 0, none⟩), .pointer (some ⟨if who then q else p, 0, none⟩), .int .i64 k] w1 Post) :
    Calls Tryz.prog 79 #[.pointer (some ⟨r, 0, none⟩), stepV k n who two (.slice ad ld cd)] w Post := by
  have kA : Keeps (fun _ => False) w (w.alloc (.cells #[.int .i64 k, .int .i64 n, .bool who, .bool two, .slice ad ld cd] 138 (0, 0))) := (Keeps.refl _ w).alloc _
  have hC1 := hC _ kA
  have e2 := kA.cellF hr2 (fun f => f)
  have e3 := kA.cellF hr3 (fun f => f)
  clear hC kA hr2 hr3
  unfold stepV at *
  cases who
  all_goals
    simp only [if_true, Bool.false_eq_true, if_false] at hC1
    rcases hk with rfl | rfl
  all_goals
    replace hC1 := hid hC1; replace hP := hid hP
    go_enter Tryz.func79, Tryz.ntmps79
    go_wp2_with (go_at_call 132; refine hC1.out.mono ?_; intro e w' hx; obtain ⟨b, rfl⟩ := hP.out _ _ hx; replace hx := hid hx)
    exact hx.out
set_option maxRecDepth 100000 in
set_option maxHeartbeats 2000000 in
theorem stepS_w (hr2 : w.cell? ⟨r, 2, none⟩ = some (.pointer (some ⟨p, 0, none⟩))) (hr3 : w.cell? ⟨r, 3, none⟩ = some (.pointer (some ⟨q, 0, none⟩))) (n : Int) (who two : Bool) (ad : Option Addr) (ld cd : Nat) (s : Nat)
    (hp : ∀ W, Keeps (fun _ => False) w W → W.cell? ⟨r, 4, none⟩ = some (.pointer (some ⟨m, 0, none⟩)) ∧ W.cell? ⟨if who then q else p, 0, none⟩ = some (.pointer (some ⟨t, 0, none⟩)))
    (hC : ∀ W, Keeps (fun _ => False) w W → Calls Tryz.prog 18 #[.pointer (some ⟨t, 0, none⟩)] W fun e w' => e = .returned (.int .i64 s) ∧ Keeps (fun _ => False) W w')
    (hD : ∀ W, Keeps (fun _ => False) w W → Calls Tryz.prog 126 #[.pointer (some ⟨m, 0, none⟩)] W fun e w' => e = .returned (.int .i64 s) ∧ W = w')
    (hF : ∀ W, Keeps (fun _ => False) w W → Post (.returned (.bool true)) W) :
    Calls Tryz.prog 79 #[.pointer (some ⟨r, 0, none⟩), stepV 12 n who two (.slice ad ld cd)] w Post := by
  have kA : Keeps (fun _ => False) w (w.alloc (.cells #[.int .i64 12, .int .i64 n, .bool who, .bool two, .slice ad ld cd] 138 (0, 0))) := (Keeps.refl _ w).alloc _
  obtain ⟨_, c0⟩ := hp _ kA
  have hC1 := hC _ kA
  have e2 := kA.cellF hr2 (fun f => f)
  have e3 := kA.cellF hr3 (fun f => f)
  clear hC hr2 hr3
  unfold stepV at *
  cases who
  all_goals
    simp only [if_true, Bool.false_eq_true, if_false] at hp c0
    replace hC1 := hid hC1; replace hp := hid hp; replace hD := hid hD; replace hF := hid hF; replace kA := hid kA
    go_enter Tryz.func79, Tryz.ntmps79
    go_upto_region 22 with (go_at_call 18; refine hC1.out.mono ?_; rintro e w2 ⟨rfl, k2⟩; have kk := kA.out.step k2; obtain ⟨d4, _⟩ := hp.out _ kk; replace kk := hid kk; clear k2)
    have hdr : ∀ k, Keeps (fun _ => False) w (w2.drewN k) := fun k => kk.out.step ((Keeps.refl _ _).drewN k)
    replace hdr := hid hdr
    go_quiet (first
      | (go_at_call 19; exact Calls.quiet_of_same ((num_w _ _).mono fun e w' x => ⟨x.1, x.2.symm⟩))
      | (go_at_call 126; exact Calls.quiet_of_same ((hD.out _ (hdr.out _)).mono fun e w' x => ⟨x.1, x.2.symm⟩)))
    go_wp2
    exact hF.out _ (hdr.out _)
end
section
variable {w : World} {t sb d l mo mx : Nat} {D : DM} {F : List Nat} {G : Geom} {op en : Bool} {sp : Nat}
theorem tabort_bad (ht : Blk w t (txO sb mx sp en)) (hs : Blk w sb (storeO d l mo G.s G.lg G.n G.life op)) (h : DiskRep w d D F) (hg : goneB D G.life = true) : Calls Tryz.prog 35 #[.pointer (some ⟨t, 0, none⟩)] w fun e w' => e = .returned (.int .i64 3) ∧ ∃ m, w' = w.drewN m := by
  have hgo := gone_w hs h
  rw [hg] at hgo
  have c0 := ht.cell 0
  simp at c0
  replace ht := hid ht; replace hs := hid hs; replace h := hid h; replace hgo := hid hgo; replace hg := hid hg
  go_enter Tryz.func35, Tryz.ntmps35
  go_wp2_with (go_at_call 50; refine hgo.out.mono ?_; rintro e w' ⟨rfl, m, rfl⟩)
  go_ret
  exact ⟨rfl, m, rfl⟩
theorem rabort_bad {m : Nat} {R : RP} {Z : Nat → Prop} (h : RefRep w m R Z) (hd : R.dead = true) : Calls Tryz.prog 169 #[.pointer (some ⟨m, 0, none⟩)] w fun e w' => e = .returned (.int .i64 3) ∧ w = w' := by
  obtain ⟨V, hV⟩ := h
  have hm := hV.hm
  unfold refO at hm
  have c12 := hm.cell 12
  simp at c12
  rw [hd] at c12
  replace hm := hid hm; replace hd := hid hd; replace hV := hid hV
  go_enter Tryz.func169, Tryz.ntmps169
  go_wp2
  go_ret
  exact ⟨rfl, rfl⟩
end
section
variable {w : World} {C : TxC} {r p q m : Nat} {T : TS} {R : RP} {Z X : Nat → Prop} {J : TS → Prop}
set_option maxRecDepth 100000 in
set_option maxHeartbeats 4000000 in
theorem ends9_bad (h : RX w C r p q m T R Z X) (hs : Same R T C.G) (hdd : T.dd = true) (hJ : J T) (u : Nat) (hu : Blk w u (poolO C.t)) (xu : X u) : Calls Tryz.prog 132 #[.pointer (some ⟨r, 0, none⟩), .pointer (some ⟨u, 0, none⟩), .int .i64 9] w (SidePost J w r (Foot C r p q Z) X) := by
  have hA : Calls Tryz.prog 35 #[.pointer (some ⟨C.t, 0, none⟩)] w fun e w1 => e = .returned (.int .i64 3) ∧ ∃ k, w1 = w.drewN k := by
    obtain ⟨M, ⟨own, xc, y1, y2, y3⟩, hM⟩ := h.pl.rep
    exact tabort_bad y1.ht y1.hs y1.hd (hM.live.trans hdd)
  have hB : ∀ n, Calls Tryz.prog 169 #[.pointer (some ⟨m, 0, none⟩)] (w.drewN n) fun e w2 => e = .returned (.int .i64 3) ∧ w.drewN n = w2 := fun n =>
    rabort_bad (h.ref.keeps ((Keeps.refl (fun _ => False) w).drewN n) (fun _ _ f => f)) (hs.dead.trans hdd)
  have hF : ∀ n, SidePost J w r (Foot C r p q Z) X (.returned (.bool true)) (w.drewN n) := fun n => by
    have k : Keeps (fun _ => False) w (w.drewN n) := (Keeps.refl _ w).drewN n
    exact ⟨rfl, _, _, ⟨C, p, q, m, T, R, Z, h.other k (fun _ _ f => f.elim), hs, hJ, rfl⟩, k.mono fun _ _ f => f.elim, fun i hi => .inl hi, fun i hi => .inl hi⟩
  have cu := hu.cell 0
  have r4 := h.hr.cell 4
  have r5 := h.hr.cell 5
  simp at cu r4 r5
  generalize hPost : SidePost J w r (Foot C r p q Z) X = Post at *
  clear hJ
  replace h := hid h; replace hs := hid hs; replace hdd := hid hdd; replace hu := hid hu; replace xu := hid xu; replace hA := hid hA; replace hB := hid hB; replace hF := hid hF; replace hPost := hid hPost
  go_enter Tryz.func132, Tryz.ntmps132
  go_wp2_with (first
    | (go_at_call 35; refine hA.out.mono ?_; rintro e w1 ⟨rfl, k, rfl⟩)
    | (go_at_call 169; refine (hB.out _).mono ?_; rintro e w2 ⟨rfl, rfl⟩)
    | (go_at_call 19; refine (num_w _ _).mono ?_; rintro e w' ⟨rfl, rfl⟩))
  exact hF.out _
end
section
variable {J : TS → Prop} {w0 w w' w1 : World} {r : Nat} {F X : Nat → Prop} {e : Ending} (s : StepR)
theorem sOk9 (h : Side J w r F X) (hL : ∀ T T', T.Like T' → J T → J T') (hk : s.k = 9) (hd : ByteSl w s.d s.l) : Calls Tryz.prog 79 #[.pointer (some ⟨r, 0, none⟩), s.v] w (SidePost J w r F X) := by
  obtain ⟨C, p, q, m, T, R, Z, rfl, hJ, hs, r2, r3, hR⟩ := h.at
  obtain ⟨k, n, who, two, d, l⟩ := s
  replace hd : ByteSl w d l := hd
  obtain ⟨ad, cd, rfl, _⟩ := hd
  obtain rfl : k = 9 := hk
  refine stepE_w r2 r3 9 n (.inr rfl) who two ad l.length cd (fun e w' x => x.val) (fun w1 kA => ?_)
  obtain ⟨hR1, hu⟩ := hR w1 kA
  cases hdd : T.dd with
  | true => exact (ends9_bad hR1 hs hdd hJ _ (hu who).1 (hu who).2).mono fun e w' x => x.mv kA
  | false =>
  exact (ends9_w hR1 hs hdd (hL T _ ⟨rfl, rfl, rfl, hdd.symm, rfl⟩ hJ) _ (hu who).1 (hu who).2 (fun z => by
    have := hR1.zX _ z
    cases who
    · exact this.2.2.1 rfl
    · exact this.2.2.2 rfl)).mono fun e w' x => x.mv kA
theorem sOk12 (h : Side J w r F X) (hk : s.k = 12) (hd : ByteSl w s.d s.l) : Calls Tryz.prog 79 #[.pointer (some ⟨r, 0, none⟩), s.v] w (SidePost J w r F X) := by
  obtain ⟨C, p, q, m, T, R, Z, rfl, hJ, hs, r2, r3, hR⟩ := h.at
  obtain ⟨k, n, who, two, d, l⟩ := s
  replace hd : ByteSl w d l := hd
  obtain ⟨ad, cd, rfl, _⟩ := hd
  obtain rfl : k = 12 := hk
  refine stepS_w (t := C.t) (m := m) r2 r3 n who two ad l.length cd T.st (fun W k => ?_) (fun W k => ?_) (fun W k => ?_) (fun W k => ?_)
  · obtain ⟨hR1, hu⟩ := hR W k
    refine ⟨by have := hR1.hr.cell 4; simpa using this, by have := (hu who).1.cell 0; simpa using this⟩
  · obtain ⟨hR1, hu⟩ := hR W k
    exact hR1.pl.state.mono fun e w' x => ⟨x.1, x.2.2⟩
  · obtain ⟨hR1, hu⟩ := hR W k
    have := rstate_w hR1.ref
    rw [hs.state] at this
    exact this
  · obtain ⟨hR1, hu⟩ := hR W k
    exact ⟨rfl, _, _, ⟨C, p, q, m, T, R, Z, hR1, hs, hJ, rfl⟩, k.mono fun _ _ f => f.elim, fun i hi => .inl hi, fun i hi => .inl hi⟩
end
theorem stepOk_takes {J : Nat → TS → Prop} (hJ : JOk J) : StepOk J [1, 2, 4, 7, 9, 11, 12] := fun i w r F X _ h s hs hn hd hl => by
  have hL := hJ.1 i
  simp only [List.mem_cons, List.not_mem_nil, or_false] at hs
  rcases hs with hs | hs | hs | hs | hs | hs | hs
  · exact (sOk1 s h hL hs hd).mono fun e w' x => x.weak (hJ.2 i)
  · exact (sOk2 s h hL hs hd).mono fun e w' x => x.weak (hJ.2 i)
  · exact (sOk4 s h hL hs hd).mono fun e w' x => x.weak (hJ.2 i)
  · exact (sOk7 s h hs hd).mono fun e w' x => x.weak (hJ.2 i)
  · exact (sOk9 s h hL hs hd).mono fun e w' x => x.weak (hJ.2 i)
  · exact (sOk11 s h hL hs hd hl).mono fun e w' x => x.weak (hJ.2 i)
  · exact (sOk12 s h hs hd).mono fun e w' x => x.weak (hJ.2 i)
end Go.Vk
