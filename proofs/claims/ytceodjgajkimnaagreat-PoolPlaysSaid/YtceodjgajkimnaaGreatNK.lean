/- The walk of the reference pool's Commit. Commit of a rig's transaction: what is left of both sides. The walk of ends of the law, by Commit. The step that commits; the kinds of PoolDrops. -/
import Derived.Test.YtceodjgajkimnaaGreatNC
import Derived.Test.YtceodjgajkimnaaGreatMY
import Derived.Test.YtceodjgajkimnaaGreatNH
set_option linter.unusedVariables false

namespace Go.Vk
open Go.RowKit Go.Proofs

def RP.commit (R : RP) : RP := { R with oldB := R.nowB, oldN := R.nowN, oldRaw := R.raw, op := false }
section
variable {w w' : World} {m : Nat} {R : RP} {V : RefV} {Z Z' : Nat → Prop}
theorem RefAt.commit (h : RefAt w m R V Z) (k : Keeps (· = m) w w') (v1 v2 : Value) (hm : Blk w' m (refO R.commit { V with OB := v1, ON := v2, OR := V.R, uO := V.uR })) (h1 : BoolRow w' w.heap.size v1 R.nowB) (h2 : BoolRow w' w.heap.size v2 R.nowN) (hZ : ∀ i, Z i → Z' i) (hv1 : InZ Z' v1) (hv2 : InZ Z' v2) : RefAt w' m R.commit { V with OB := v1, ON := v2, OR := V.R, uO := V.uR } Z' := by
  have hlo : ∀ {v : Value} {l : List Bool}, BoolRow w' w.heap.size v l → ∀ g, v.ownBlock = some g → w.heap.size ≤ g := fun hb g e => by
    rcases hb.2 with ⟨rfl, _⟩ | ⟨g1, cap, cur, rfl, hb, _⟩
    · cases e
    · have : g1 = g := Option.some.inj e
      omega
  have hne : ∀ {v v' : Value} {l l' : List Bool}, BoolRow w 0 v' l' → 0 < l'.length → BoolRow w' w.heap.size v l → v'.ownBlock ≠ v.ownBlock := fun {v v' l l'} hb h0 hb' e => by
    obtain ⟨g, cap, e1, _, hg⟩ := own_form hb h0
    have := hlo hb' g (by rw [← e, e1]; rfl)
    omega
  obtain ⟨a1, a2, a3, a4⟩ := h.lb
  exact
  { hm := hm
    ob := own_lo h1 (Nat.zero_le _)
    on := own_lo h2 (Nat.zero_le _)
    nb := own_far k h.nb (fun g e f => own_ne h.nb h.hm (by decide) (f ▸ e))
    nn := own_far k h.nn (fun g e f => own_ne h.nn h.hm (by decide) (f ▸ e))
    orr := h.rr.far k (fun g e f => own_ne h.rr.1 h.hm (by decide) (f ▸ e)) (fun u hu g e f => by obtain ⟨l, hl⟩ := h.rr.each hu; exact own_ne hl h.hm (by decide) (f ▸ e))
    rr := h.rr.far k (fun g e f => own_ne h.rr.1 h.hm (by decide) (f ▸ e)) (fun u hu g e f => by obtain ⟨l, hl⟩ := h.rr.each hu; exact own_ne hl h.hm (by decide) (f ▸ e))
    pr := own_far k h.pr (fun g e f => own_ne h.pr h.hm (by decide) (f ▸ e))
    zm := hZ _ h.zm, zob := hv1, zon := hv2, znb := fun g e => hZ g (h.znb g e), znn := fun g e => hZ g (h.znn g e), zor := fun g e => hZ g (h.zr g e), zr := fun g e => hZ g (h.zr g e), zp := fun g e => hZ g (h.zp g e)
    zuO := fun u hu g e => hZ g (h.zuR u hu g e), zuR := fun u hu g e => hZ g (h.zuR u hu g e)
    lb := ⟨a3, a4, a3, a4⟩, d1 := h.d1
    d2 := ⟨hne h.nb (by omega) h1, hne h.nb (by omega) h2, hne h.nn (by omega) h1, hne h.nn (by omega) h2⟩
    d3 := fun e => by cases e
    lr := ⟨h.lr.2, h.lr.2⟩, l5 := ⟨h.l5.2, h.l5.2⟩ }
set_option maxRecDepth 100000 in
set_option maxHeartbeats 1000000 in
theorem rcommit_w (h : RefRep w m R Z) (hZw : ∀ i, Z i → i < w.heap.size) (hs : R.state = 0) : Calls Tryz.prog 168 #[.pointer (some ⟨m, 0, none⟩)] w fun e w' => e = .returned (.int .i64 0) ∧ RStep w w' m R.commit Z := by
  have hSt := rstate_w h
  rw [hs] at hSt
  obtain ⟨⟨OB, ON, NB, NN, OR, RR, PP, uO, uR⟩, h1⟩ := h
  obtain ⟨l1, l2, l3, l4⟩ := h1.lb
  obtain ⟨gB, cB, eB, _, xB, yB⟩ := h1.nb.slice (by omega)
  obtain ⟨gN, cN, eN, _, xN, yN⟩ := h1.nn.slice (by omega)
  have hT := twin_w w gB cB gN cN R.nowB R.nowN yB yN (by omega) (by omega) (by omega) (by omega)
  dsimp only at eB eN
  have hb := h1.hm
  unfold refO at hb
  dsimp only at hb
  have c5 := hb.cell 5
  have c6 := hb.cell 6
  simp at c5 c6
  rw [eB] at c5
  rw [eN] at c6
  rw [l3] at c5
  rw [l4] at c6
  rw [l3, l4] at hT
  have hzm := h1.zm
  have hfin : ∀ w1 v1 v2, BoolRow w1 w.heap.size v1 R.nowB → BoolRow w1 w.heap.size v2 R.nowN → Keeps (fun _ => False) w w1 → RStep w ((((w1.setCell ⟨m, 3, none⟩ v1).setCell ⟨m, 4, none⟩ v2).setCell ⟨m, 7, none⟩ RR).setCell ⟨m, 11, none⟩ (.bool false)) m R.commit Z := by
    intro w1 v1 v2 r1 r2 k1
    have kT : Keeps (· = m) w1 ((((w1.setCell ⟨m, 3, none⟩ v1).setCell ⟨m, 4, none⟩ v2).setCell ⟨m, 7, none⟩ RR).setCell ⟨m, 11, none⟩ (.bool false)) :=
      ((((Keeps.refl (· = m) w1).setCell (p := ⟨m, 3, none⟩) (.inl rfl) _).setCell (p := ⟨m, 4, none⟩) (.inl rfl) _).setCell (p := ⟨m, 7, none⟩) (.inl rfl) _).setCell (p := ⟨m, 11, none⟩) (.inl rfl) _
    have hb1 := k1.blk hb (fun f => f)
    have bS := (((hb1.setCell 3 v1).setCell 4 v2).setCell 7 RR).setCell 11 (.bool false)
    simp at bS
    have o1 : v1.ownBlock ≠ some m := own_ne r1 hb1 (by decide)
    have o2 : v2.ownBlock ≠ some m := own_ne r2 hb1 (by decide)
    have q1 : BoolRow _ w.heap.size v1 R.nowB := keeps_own (Z := fun i => v1.ownBlock = some i) kT (fun i e f => o1 (f ▸ e)) r1 (fun x e => e)
    have q2 : BoolRow _ w.heap.size v2 R.nowN := keeps_own (Z := fun i => v2.ownBlock = some i) kT (fun i e f => o2 (f ▸ e)) r2 (fun x e => e)
    have kk : Keeps (· = m) w _ := (k1.mono (G := (· = m)) fun _ _ f => f.elim).step kT
    have hin : ∀ {v : Value} {l : List Bool}, BoolRow w1 w.heap.size v l → ∀ g, v.ownBlock = some g → w.heap.size ≤ g ∧ g < ((((w1.setCell ⟨m, 3, none⟩ v1).setCell ⟨m, 4, none⟩ v2).setCell ⟨m, 7, none⟩ RR).setCell ⟨m, 11, none⟩ (.bool false)).heap.size := fun hr g e => by
      have hl := own_lt hr e
      have hs := kT.size
      rcases hr.2 with ⟨rfl, _⟩ | ⟨g1, cap, cur, rfl, hb, _⟩
      · cases e
      · have : g1 = g := Option.some.inj e
        omega
    refine ⟨⟨_, h1.commit (Z' := Zn w _ Z) kk v1 v2 ?_ q1 q2 (fun i hi => .inl hi) (fun g e => .inr (hin r1 g e)) (fun g e => .inr (hin r2 g e))⟩, kk.mono fun i _ e => by rw [e]; exact hzm⟩
    exact bS
  have hRR : ∃ a c, RR = .slice a R.raw.length c := own_shape h1.rr.1
  clear h1
  replace hRR := hid hRR; replace hT := hid hT; replace eB := hid eB; replace eN := hid eN; replace hb := hid hb; replace l1 := hid l1; replace l2 := hid l2; replace l3 := hid l3; replace l4 := hid l4; replace yB := hid yB; replace yN := hid yN; replace xB := hid xB; replace xN := hid xN; replace hfin := hid hfin; replace hSt := hid hSt; replace hs := hid hs; replace hZw := hid hZw
  go_enter Tryz.func168, Tryz.ntmps168
  go_wp2_with (first
    | (go_at_call 126; refine hSt.out.mono ?_; rintro e w1 ⟨rfl, rfl⟩)
    | (go_at_call 135; refine hT.out.mono ?_; rintro e w1 ⟨v1, v2, rfl, r1, r2, r12, k1⟩; have hF := hfin.out w1 v1 v2 r1 r2 k1; obtain ⟨g1, d1, rfl, _, _, _⟩ := r1.slice (by have := l3.out; omega); obtain ⟨g2, d2, rfl, _, _, _⟩ := r2.slice (by have := l4.out; omega); have hRs := hRR.out; obtain ⟨aR, cR, hRe⟩ := hRs; subst hRe; have hb1 := k1.blk hb.out (fun f => f); have f1 := hb1.frz; have q3 := hb1.cell 3; have q4 := hb1.cell 4; have q7 := hb1.cell 7; have q8 := hb1.cell 8; have q11 := hb1.cell 11; simp at q3 q4 q7 q8 q11; replace hF := hid hF; replace hb1 := hid hb1; clear r1 r2 r12 k1))
  go_ret
  exact ⟨rfl, hF.out⟩
theorem rcommit_bad (h : RefRep w m R Z) (hs : R.state ≠ 0) : Calls Tryz.prog 168 #[.pointer (some ⟨m, 0, none⟩)] w fun e w' => e = .returned (.int .i64 (R.state : Nat)) ∧ w = w' := by
  have hSt := rstate_w h
  generalize R.state = s at *
  have hne : ¬ (s : Int) = 0 := by omega
  replace h := hid h; replace hSt := hid hSt; replace hs := hid hs
  go_enter Tryz.func168, Tryz.ntmps168
  go_wp2_with (go_at_call 126; refine hSt.out.mono ?_; rintro e w1 ⟨rfl, rfl⟩)
  go_ret
  exact ⟨rfl, rfl⟩
end
end Go.Vk

namespace Go.Vk
open Go.RowKit Go.Proofs

section
variable {w w' w0 : World} {C : TxC} {r p q m : Nat} {T : TS} {R : RP} {Z X F : Nat → Prop} {J : TS → Prop}
theorem log_map {w : World} {l d mo clock : Nat} {L : LM} {es : List OEnt} (hl : Blk w l (logO d L)) (h : MapAt w mo es clock) : l ∉ mapFoot mo es := fun hi => by
  simp only [mapFoot, List.mem_cons, List.mem_map] at hi
  rcases hi with rfl | ⟨e, he, rfl⟩
  · have h2 := h.hm
    unfold Blk at hl h2
    rw [hl] at h2
    simp [logO, mapO] at h2
  · have h2 := (h.ok e he).blk
    unfold Blk at hl h2
    rw [hl] at h2
    simp [logO, bytesO] at h2
theorem RX.bothM (h : RX w C r p q m T R Z X) {M : TxM} (hrep : TxRep w C M false X) (hM : PX C M T) (hdd : T.dd = false) (hh : T.lm.head + 40 ≤ 1073741824) (hw : T.wr + 10000 < 1099511627776) :
    ∃ own xc N g, Both w C M.D own xc T.sp false X T.lm N g ∧ (∀ k, ovOf own k = M.own k) ∧ own.length = M.cnt ∧ M.D.writes ≤ T.wr := by
  have hn := notKF_log hrep h.hl h.lF
  obtain ⟨own, xc, y1, y2, y3⟩ := hrep
  have hsp : M.sp = T.sp := hM.sp
  rw [hsp] at y1
  obtain ⟨⟨N, g, d1, d2, d3, d4⟩, d5⟩ := hM.dk.1 hdd
  have hol := nodup_len C.G.blocks (C.ov.map (·.key)) y1.ho.keys (fun x hx => by obtain ⟨e, he, rfl⟩ := List.mem_map.1 hx; exact h.ovk e he)
  rw [List.length_map] at hol
  refine ⟨own, xc, N, g, ⟨y1, ?_, ?_, log_map h.hl y1.hx, h.xl⟩, y2, y3, d5⟩
  · exact
      { hs := y1.hs, hl := h.hl, hd := y1.hd, ho := y1.ho, sF := y1.sF, lF := h.lF, oF := y1.oF
        ls := hn.2, lO := log_map h.hl y1.ho, sO := y1.sO
        is := d1
        li := h.lok.li, st := h.lok.st, Lf := h.lok.Lf, Ln := h.lok.Ln, lg := h.lok.lg
        gb := d3, N2 := d4, kb := h.ovk, ol := by omega
        an := d2, th := h.lok.th, ep := h.lok.ep, hb := hh, wb := by omega }
  · exact fun e => hn.1 (.inr (.inl e.symm))
theorem RX.both (h : RX w C r p q m T R Z X) (hdd : T.dd = false) (hh : T.lm.head + 40 ≤ 1073741824) (hw : T.wr + 10000 < 1099511627776) :
    ∃ D own xc N g, Both w C D own xc T.sp false X T.lm N g ∧ own.length ≤ 16 ∧ D.writes ≤ T.wr ∧ ∀ b, b < C.G.blocks → (ovOf own b).getD (cmtB D (ovOf C.ov) C.G.home b) = T.raw b := by
  obtain ⟨M, hrep, hM⟩ := h.pl.rep
  obtain ⟨own, xc, N, g, hB, y2, y3, hw'⟩ := h.bothM hrep hM hdd hh hw
  have hle := hM.le
  have hcnt := hM.cnt
  refine ⟨M.D, own, xc, N, g, hB, by omega, hw', fun b hb => ?_⟩
  have := hM.g b hb
  rw [← this]
  unfold TxM.get getB
  rw [y2 b]
/-- Commit on the store's side. -/
theorem RX.commit (h : RX w C r p q m T R Z X) (h0 : T.st = 0) (hh : T.lm.head + 100 ≤ 1073741824) (hw : T.wr + 40000 < 1099511627776) : Calls Tryz.prog 36 #[.pointer (some ⟨C.t, 0, none⟩)] w fun e w' => e = .returned (.int .i64 0) ∧
    ∃ C' D L' wr', C'.t = C.t ∧ REnd w' C' r p q m D 0 T.raw L' wr' R Z X ∧ C'.G = C.G ∧ L'.head ≤ T.lm.head + 17 ∧ wr' ≤ T.wr + 2100 ∧ Keeps (fun i => KF C i ∨ i = C.sb ∨ i = C.l ∨ i = C.mo) w w' ∧ ∀ p q Z i, Foot C' r p q Z i → Zn w w' (Foot C r p q Z) i := by
  obtain ⟨hdd, hsp⟩ := TS.st_zero h0
  obtain ⟨D, own, xc, N, g, hB, hcnt, hWr, hraw⟩ := h.both hdd (by omega) (by omega)
  rw [hsp] at hB
  refine (commit_w hB h.pl.lt hcnt hh (by omega)).mono ?_
  rintro e w' ⟨rfl, F', ov', oc', D', L', g', hB', c1, c2, c3, c4, c5, c6⟩
  have hxX := hB.tx.xX
  have kX : Keeps (fun i => ¬ X i) w w' := c3.mono fun i _ f hi => by
    obtain ⟨a1, a2, a3, a4, a5⟩ := hxX i hi
    rcases f with f | f | f | f | f | f
    · exact a3 f
    · exact a1 f
    · exact a2 f
    · exact a5 (by simp [mapFoot, f])
    · exact a4 (by simp [mapFoot, f])
    · exact h.xl i hi f
  have S := hB'.st
  have hlive := hB'.live
  refine ⟨rfl, { C with F := F', ov := ov', oc := oc', op := false }, D', L', D'.writes, rfl, ?_, rfl, c4, by omega, c3.mono fun i _ f => ?_, fun p q Z i hi => ?_⟩
  · exact
      { rep := ⟨[], xc, hB'.tx, fun _ => rfl, rfl⟩
        op := rfl
        live := hlive
        o := fun b hb => (c6 b hb).trans (hraw b hb)
        lt := fun i hi => Nat.lt_of_lt_of_le (h.pl.lt i hi) c3.size
        geo := h.pl.geo
        hr := kX.blk h.hr (fun f => f h.xr)
        hp := kX.blk h.hp (fun f => f h.xp)
        hq := kX.blk h.hq (fun f => f h.xq)
        ref := h.ref.keeps kX (fun i hi f => f (h.zX i hi).1)
        xr := h.xr, xp := h.xp, xq := h.xq, zX := h.zX
        dk := ⟨⟨N, g', S.is, S.an, S.gb, S.N2⟩, Nat.le_refl _⟩
        hl := S.hl, lF := S.lF, xl := h.xl
        lok := ⟨S.li, S.st, S.Lf, S.Ln, S.lg, S.th, S.ep⟩
        ovk := S.kb }
  · rcases f with f | f | f | f | f | f
    · exact .inl (.inl f)
    · exact .inl (.inr (.inl f))
    · exact .inr (.inl f)
    · exact .inl (.inr (.inr f))
    · exact .inr (.inr (.inr f))
    · exact .inr (.inr (.inl f))
  · rcases hi with (hi | hi | hi) | hi
    · have hlt := S.hd.lt i hi
      exact (c1 i hi).elim (fun x => .inl (.inl (.inl x))) (fun x => .inr ⟨x, hlt⟩)
    · exact .inl (.inl (.inr (.inl hi)))
    · exact .inl (.inl (.inr (.inr hi)))
    · exact .inl (.inr hi)
end
end Go.Vk

namespace Go.Vk
open Go.RowKit Go.Proofs

section
variable {w : World} {t sb d l mo mx : Nat} {D : DM} {F : List Nat} {G : Geom} {op en : Bool} {sp : Nat}
theorem tcommit_bad (ht : Blk w t (txO sb mx sp en)) (hs : Blk w sb (storeO d l mo G.s G.lg G.n G.life op)) (h : DiskRep w d D F) (hst : txState D G.life sp en ≠ 0) : Calls Tryz.prog 36 #[.pointer (some ⟨t, 0, none⟩)] w fun e w' => e = .returned (.int .i64 (txState D G.life sp en : Nat)) ∧ ∃ m, w' = w.drewN m := by
  have hSt := state_w ht hs h
  generalize txState D G.life sp en = s at *
  have hne : ¬ (s : Int) = 0 := by omega
  replace ht := hid ht; replace hs := hid hs; replace h := hid h; replace hSt := hid hSt; replace hst := hid hst
  go_enter Tryz.func36, Tryz.ntmps36
  go_wp2_with (go_at_call 18; refine hSt.out.mono ?_; rintro e w1 ⟨rfl, m, rfl⟩)
  go_ret
  exact ⟨rfl, m, rfl⟩
end
section
variable {w w' w0 : World} {C : TxC} {r p q m sp : Nat} {D : DM} {T : TS} {R R' : RP} {Z X F X0 : Nat → Prop} {J : TS → Prop} {old : Nat → List UInt8} {L : LM} {wr : Nat}
theorem REnd.doc (h : REnd w C r p q m D sp old L wr R Z X) (s : RStep w w' m R' Z) : REnd w' C r p q m D sp old L wr R' (Zn w w' Z) (Zn w w' X) :=
  { rep := ((h.rep.client (Y := fun i => X i ∨ w.heap.size ≤ i) (fun i hi => hi)).quiet s.k (fun i f => .inl (h.zX i f).1)).client (fun i hi => .inl (hi.elim .inl (fun x => .inr x.1)))
    op := h.op
    live := h.live
    o := h.o
    lt := fun i hi => hi.elim (fun x => Nat.lt_of_lt_of_le (h.lt i x) s.k.size) (·.2)
    geo := h.geo
    hr := s.k.blk h.hr (fun f => (h.zX r f).2.1 rfl)
    hp := s.k.blk h.hp (fun f => (h.zX p f).2.2.1 rfl)
    hq := s.k.blk h.hq (fun f => (h.zX q f).2.2.2 rfl)
    ref := s.rep
    xr := .inl h.xr, xp := .inl h.xp, xq := .inl h.xq
    zX := fun i hi => by
      have h1 := h.hr.lt
      have h2 := h.hp.lt
      have h3 := h.hq.lt
      rcases hi with hi | hi
      · exact ⟨.inl (h.zX i hi).1, (h.zX i hi).2⟩
      · exact ⟨.inr hi, by omega, by omega, by omega⟩
    dk := h.dk
    hl := s.k.blk h.hl (fun f => h.xl _ (h.zX _ f).1 rfl)
    lF := h.lF
    xl := fun i hi e => hi.elim (fun x => h.xl i x e) (fun x => by have := h.hl.lt; omega)
    lok := h.lok
    ovk := h.ovk }
theorem Same.olds {G : Geom} (h : Same R T G) : Olds R.commit.oldB R.commit.oldN R.commit.oldRaw T.raw G := ⟨h.nb, h.nn, h.raw, h.rl⟩
set_option maxRecDepth 100000 in
set_option maxHeartbeats 4000000 in
theorem ends8_w (h : RX w C r p q m T R Z X) (hs : Same R T C.G) (h0 : T.st = 0) (hh : T.lm.head + 100 ≤ 1073741824) (hw : T.wr + 40000 < 1099511627776) (hJ : ∀ L' wr', L'.head ≤ T.lm.head + 17 → wr' ≤ T.wr + 2100 → J ⟨T.raw, [], 0, T.raw, L', wr', false, T.tk⟩) (u : Nat) (hu : Blk w u (poolO C.t)) (xu : X u) (hzu : ¬ Z u) : Calls Tryz.prog 132 #[.pointer (some ⟨r, 0, none⟩), .pointer (some ⟨u, 0, none⟩), .int .i64 8] w (SidePost J w r (Foot C r p q Z) X) := by
  have hA : Calls Tryz.prog 36 #[.pointer (some ⟨C.t, 0, none⟩)] w fun e w1 => e = .returned (.int .i64 0) ∧ w1.cell? ⟨r, 4, none⟩ = some (.pointer (some ⟨m, 0, none⟩)) ∧
      Calls Tryz.prog 168 #[.pointer (some ⟨m, 0, none⟩)] w1 fun e w2 => e = .returned (.int .i64 0) ∧ ∃ EI : World → Prop, EI w2 ∧ EndK J w r C.t u (Foot C r p q Z) X EI := by
    refine (h.commit h0 hh hw).mono ?_
    rintro e w1 ⟨rfl, C', D, L', wr', ht, y1, hG, b1, b2, y2, hft0⟩
    refine ⟨rfl, by have := y1.hr.cell 4; simpa using this, ?_⟩
    refine (rcommit_w y1.ref (fun i hi => y1.lt i (y1.zX i hi).1) (by rw [hs.state]; exact h0)).mono ?_
    rintro e w2 ⟨rfl, hst⟩
    have z1 := y1.doc hst
    have z2 := hst.k
    have s1 := y2.size
    have s2 := z2.size
    have hft1 := hft0 p q Z
    have hXn : ∀ i, X i → ¬ (KF C i ∨ i = C.sb ∨ i = C.l ∨ i = C.mo) := fun i hi f => by
      obtain ⟨M, ⟨own, xc, t1, _⟩, _⟩ := h.pl.rep
      obtain ⟨a1, a2, a3, a4, a5⟩ := t1.xX i hi
      rcases f with f | f | f | f
      · exact h.pl.notF hi f
      · exact a2 f
      · exact h.xl i hi f
      · exact a4 (by simp [mapFoot, f])
    have hu1 : Blk w1 u (poolO C.t) := y2.blk hu (hXn u xu)
    have hu2 : Blk w2 u (poolO C.t) := z2.blk hu1 hzu
    have k1 : Keeps (Foot C r p q Z) w w1 := y2.mono fun i _ f => by
      rcases f with f | f | f | f
      · exact .inl f
      · exact .inr (.inr (.inr (.inr (.inr (.inl f)))))
      · exact .inr (.inr (.inr (.inr (.inr (.inr (.inl f))))))
      · exact .inr (.inr (.inr (.inr (.inr (.inr (.inr f))))))
    have k2 : Keeps (Foot C r p q Z) w1 w2 := z2.mono fun i _ f => .inr (.inl f)
    have hft : ∀ i, Foot C' r p q (Zn w1 w2 Z) i → Zn w w2 (Foot C r p q Z) i := by
      intro i hi
      have hup : Zn w w1 (Foot C r p q Z) i → Zn w w2 (Foot C r p q Z) i := fun x => x.elim .inl (fun y => .inr ⟨y.1, by omega⟩)
      rcases hi with hi | (hi | hi) | hi
      · exact hup (hft1 i (.inl hi))
      · exact .inl (.inr (.inl hi))
      · exact .inr ⟨by omega, hi.2⟩
      · exact hup (hft1 i (.inr (.inr hi)))
    refine ⟨rfl, EndIn w C' r p q m D 0 T.raw L' wr' R.commit (Zn w1 w2 Z) (Zn w1 w2 X) (Foot C r p q Z) X u, ⟨z1, by rw [ht]; exact hu2, .inl xu, k1.step k2, hft, fun i hi => .inl hi⟩, ?_⟩
    have hK := EndIn.K (C := C') (r := r) (p := p) (q := q) (m := m) (D := D) (sp := 0) (old := T.raw) (L := L') (wr := wr') (R := R.commit) (Z := Zn w1 w2 Z) (X := Zn w1 w2 X) (F := Foot C r p q Z) (X0 := X) (w0 := w) (u := u) (J := J) (hJ _ _ b1 b2) (by rw [hG]; exact hs.olds) (by rw [hG]; exact ⟨hs.data, hs.blocks, hs.nodes, hs.dead.trans (TS.st_zero h0).1⟩)
    rw [ht] at hK
    exact hK
  have cu := hu.cell 0
  simp at cu
  have hB3 : ∀ EI, EndK J w r C.t u (Foot C r p q Z) X EI → ∀ W, EI W → Calls Tryz.prog 43 #[.pointer (some ⟨r, 0, none⟩)] W fun e w' => e = .returned (.tuple #[]) ∧ w'.cell? ⟨r, 5, none⟩ = some (.bool true) ∧ SidePost J w r (Foot C r p q Z) X (.returned (.bool true)) w' := fun EI x => x.bg
  generalize hPost : SidePost J w r (Foot C r p q Z) X = Post at hB3 ⊢
  clear hJ hh hw
  replace h := hid h; replace hs := hid hs; replace h0 := hid h0; replace hu := hid hu; replace xu := hid xu; replace hzu := hid hzu; replace hA := hid hA; replace hB3 := hid hB3; replace hPost := hid hPost
  go_enter Tryz.func132, Tryz.ntmps132
  go_wp2_with (first
    | (go_at_call 36; refine hA.out.mono ?_; rintro e w1 ⟨rfl, d4, hB⟩; replace hB := hid hB)
    | (go_at_call 168; refine hB.out.mono ?_; rintro e w2 ⟨rfl, EI, hE, hK⟩; have d0 := hK.c _ hE; have hBg := hB3.out _ hK; replace hE := hid hE; replace hK := hid hK; replace hBg := hid hBg)
    | (go_at_call 18; refine (hK.out.st _ hE.out).mono ?_; rintro e w3 ⟨rfl, hE3⟩; replace hE3 := hid hE3)
    | (go_at_call 49; refine (hK.out.tb _ hE3.out).mono ?_; rintro e w4 ⟨rfl, hE4⟩; replace hE4 := hid hE4)
    | (go_at_call 60; refine (hK.out.db _ hE4.out).mono ?_; rintro e w5 ⟨rfl, hE5⟩; replace hE5 := hid hE5)
    | (go_at_call 59; refine (hK.out.dn _ hE5.out).mono ?_; rintro e w6 ⟨rfl, hE6⟩; replace hE6 := hid hE6)
    | (go_at_call 48; refine (hK.out.tn _ hE6.out).mono ?_; rintro e w7 ⟨rfl, hE7⟩; replace hE7 := hid hE7)
    | (go_at_call 47; refine (hK.out.cl _ hE7.out).mono ?_; rintro e w8 ⟨rfl, hE8⟩; replace hE8 := hid hE8)
    | (go_at_call 20; refine (hK.out.lf _ hE8.out).mono ?_; rintro e w9 ⟨rfl, hE9⟩; replace hE9 := hid hE9)
    | (go_at_call 43; refine (hBg.out _ hE9.out).mono ?_; rintro e w10 ⟨rfl, d5, hF⟩; replace hF := hid hF)
    | (go_at_call 19; refine (num_w _ _).mono ?_; rintro e w' ⟨rfl, rfl⟩))
  exact hF.out
set_option maxRecDepth 100000 in
set_option maxHeartbeats 4000000 in
theorem ends8_bad (h : RX w C r p q m T R Z X) (hs : Same R T C.G) (h0 : T.st ≠ 0) (hJ : J T) (u : Nat) (hu : Blk w u (poolO C.t)) (xu : X u) : Calls Tryz.prog 132 #[.pointer (some ⟨r, 0, none⟩), .pointer (some ⟨u, 0, none⟩), .int .i64 8] w (SidePost J w r (Foot C r p q Z) X) := by
  have hA : ∀ n, Calls Tryz.prog 36 #[.pointer (some ⟨C.t, 0, none⟩)] (w.drewN n) fun e w1 => e = .returned (.int .i64 (T.st : Nat)) ∧ ∃ k, w1 = w.drewN k := fun n => by
    obtain ⟨M, ⟨own, xc, y1, y2, y3⟩, hM⟩ := (h.pl.quiet ((Keeps.refl (fun _ => False) w).drewN n)).rep
    have hst := hM.stsp
    refine (tcommit_bad y1.ht y1.hs y1.hd (by rw [hst]; exact h0)).mono ?_
    rintro e w1 ⟨rfl, k, rfl⟩
    exact ⟨by rw [hst], n + k, by rw [World.drewN_drewN]⟩
  have hB : ∀ n, Calls Tryz.prog 168 #[.pointer (some ⟨m, 0, none⟩)] (w.drewN n) fun e w2 => e = .returned (.int .i64 (T.st : Nat)) ∧ w.drewN n = w2 := fun n => by
    have hS := hs.state
    have := rcommit_bad (h.ref.keeps ((Keeps.refl (fun _ => False) w).drewN n) (fun _ _ f => f)) (by rw [hS]; exact h0)
    rw [hS] at this
    exact this
  have hF : ∀ n, SidePost J w r (Foot C r p q Z) X (.returned (.bool true)) (w.drewN n) := fun n => by
    have k : Keeps (fun _ => False) w (w.drewN n) := (Keeps.refl _ w).drewN n
    exact ⟨rfl, _, _, ⟨C, p, q, m, T, R, Z, h.other k (fun _ _ f => f.elim), hs, hJ, rfl⟩, k.mono fun _ _ f => f.elim, fun i hi => .inl hi, fun i hi => .inl hi⟩
  have cu := hu.cell 0
  have r4 := h.hr.cell 4
  have r5 := h.hr.cell 5
  simp at cu r4 r5
  generalize T.st = s at *
  have hne : ¬ (s : Int) = 0 := by omega
  generalize hPost : SidePost J w r (Foot C r p q Z) X = Post at *
  clear hJ
  replace h := hid h; replace hs := hid hs; replace h0 := hid h0; replace hu := hid hu; replace xu := hid xu; replace hA := hid hA; replace hB := hid hB; replace hF := hid hF; replace hPost := hid hPost
  go_enter Tryz.func132, Tryz.ntmps132
  go_wp2_with (first
    | (go_at_call 36; refine (hA.out 0).mono ?_; rintro e w1 ⟨rfl, k, rfl⟩)
    | (go_at_call 168; refine (hB.out _).mono ?_; rintro e w2 ⟨rfl, rfl⟩)
    | (go_at_call 19; refine (num_w _ _).mono ?_; rintro e w' ⟨rfl, rfl⟩))
  exact hF.out _
end
end Go.Vk

namespace Go.Vk
open Go.RowKit Go.Proofs

theorem JC.of {i : Nat} {old raw : Nat → List UInt8} {put : List Nat} {sp wr : Nat} {L : LM} {dd : Bool} {tk : Nat} (h3 : tk ≤ i + 1) (h1 : L.head ≤ 17 * i + 17) (h2 : wr ≤ 10000 + 2100 * i + 2100) : JC (i + 1) ⟨raw, put, sp, old, L, wr, dd, tk⟩ := by
  unfold JC
  exact ⟨by rw [Nat.mul_add]; exact h1, by rw [Nat.mul_add, ← Nat.add_assoc]; exact h2, h3⟩
theorem sOk8 {w : World} {r i : Nat} {F X : Nat → Prop} (s : StepR) (h : Side (JC i) w r F X) (hi : i < 3000) (hk : s.k = 8) (hd : ByteSl w s.d s.l) : Calls Tryz.prog 79 #[.pointer (some ⟨r, 0, none⟩), s.v] w (SidePost (JC (i + 1)) w r F X) := by
  obtain ⟨C, p, q, m, T, R, Z, rfl, hJ, hs, r2, r3, hR⟩ := h.at
  obtain ⟨k, n, who, two, d, l⟩ := s
  replace hd : ByteSl w d l := hd
  obtain ⟨ad, cd, rfl, _⟩ := hd
  obtain rfl : k = 8 := hk
  have hJ' := JC.ok.2 i T hJ
  obtain ⟨j1, j2, j3⟩ := hJ
  refine stepE_w r2 r3 8 n (.inl rfl) who two ad l.length cd (fun e w' x => x.val) (fun w1 kA => ?_)
  obtain ⟨hR1, hu⟩ := hR w1 kA
  by_cases h0 : T.st = 0
  · exact (ends8_w hR1 hs h0 (by omega) (by omega) (fun L' wr' a b => JC.of (by omega) (by omega) (by omega)) _ (hu who).1 (hu who).2 (fun z => by
      have := hR1.zX _ z
      cases who
      · exact this.2.2.1 rfl
      · exact this.2.2.2 rfl)).mono fun e w' x => x.mv kA
  · exact (ends8_bad hR1 hs h0 hJ' _ (hu who).1 (hu who).2).mono fun e w' x => x.mv kA
theorem stepOk_drops (hJ : JOk JC) : StepOk JC [1, 2, 3, 4, 5, 7, 8] := fun i w r F X hi h s hs hn hd hl => by
  have hL := hJ.1 i
  simp only [List.mem_cons, List.not_mem_nil, or_false] at hs
  rcases hs with hs | hs | hs | hs | hs | hs | hs
  · exact (sOk1 s h hL hs hd).mono fun e w' x => x.weak (hJ.2 i)
  · exact (sOk2 s h hL hs hd).mono fun e w' x => x.weak (hJ.2 i)
  · exact (sOk3 s h hL hs hn hd).mono fun e w' x => x.weak (hJ.2 i)
  · exact (sOk4 s h hL hs hd).mono fun e w' x => x.weak (hJ.2 i)
  · exact (sOk5 s h hL hs hn hd).mono fun e w' x => x.weak (hJ.2 i)
  · exact (sOk7 s h hs hd).mono fun e w' x => x.weak (hJ.2 i)
  · exact sOk8 s h hi hs hd
end Go.Vk
