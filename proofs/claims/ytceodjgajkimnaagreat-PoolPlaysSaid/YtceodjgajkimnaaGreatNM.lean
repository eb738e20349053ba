/- Checkpoint of a rig's store, and its disk taken. -/
import Derived.Test.YtceodjgajkimnaaGreatNK
import Derived.Test.YtceodjgajkimnaaGreatND
set_option linter.unusedVariables false

namespace Go.Vk
open Go.RowKit Go.Proofs

section
variable {w : World} {sb d l mo : Nat} {D : DM} {F : List Nat} {G : Geom} {op : Bool}
theorem checkpoint_bad (hs : Blk w sb (storeO d l mo G.s G.lg G.n G.life op)) (h : DiskRep w d D F) (hg : goneB D G.life = true) : Calls Tryz.prog 71 #[.pointer (some ⟨sb, 0, none⟩)] w fun e w' => e = .returned (.int .i64 3) ∧ ∃ m, w' = w.drewN m := by
  have hgo := gone_w hs h
  rw [hg] at hgo
  replace hs := hid hs; replace h := hid h; replace hgo := hid hgo; replace hg := hid hg
  go_enter Tryz.func71, Tryz.ntmps71
  go_wp2_with (go_at_call 50; refine hgo.out.mono ?_; rintro e w' ⟨rfl, m, rfl⟩)
  go_ret
  exact ⟨rfl, m, rfl⟩
end
section
variable {w w' w0 : World} {C : TxC} {r p q m : Nat} {T : TS} {R : RP} {Z X F : Nat → Prop} {J : TS → Prop}
theorem RX.outs (h : RX w C r p q m T R Z X) : ∀ i, X i → ¬ (i ∈ C.F ∨ i = C.l ∨ i = C.mo) := fun i hi f => by
  obtain ⟨M, ⟨own, xc, t1, _⟩, _⟩ := h.pl.rep
  obtain ⟨a1, a2, a3, a4, a5⟩ := t1.xX i hi
  rcases f with f | f | f
  · exact a3 f
  · exact h.xl i hi f
  · exact a4 (by simp [mapFoot, f])
/-- A checkpoint of a store that lives. -/
theorem RX.ckpt (h : RX w C r p q m T R Z X) (hs : Same R T C.G) (hdd : T.dd = false) (hh : T.lm.head + 40 ≤ 1073741824) (hw : T.wr + 30000 < 1099511627776) : Calls Tryz.prog 71 #[.pointer (some ⟨C.sb, 0, none⟩)] w fun e w' => e = .returned (.int .i64 0) ∧
    ∃ C', RX w' C' r p q m { T with lm := trimL T.lm, wr := T.wr + 2049 } R Z X ∧ Same R { T with lm := trimL T.lm, wr := T.wr + 2049 } C'.G ∧ Keeps (Foot C r p q Z) w w' ∧ ∀ i, Foot C' r p q Z i → Zn w w' (Foot C r p q Z) i := by
  obtain ⟨M, hrep, hM⟩ := h.pl.rep
  obtain ⟨own, xc, N, g, hB, y2, y3, hWr⟩ := h.bothM hrep hM hdd hh (by omega)
  have hol : C.ov.length ≤ 2048 := hB.st.ol
  refine (checkpoint_ok hB.st (by omega)).mono ?_
  rintro e w' ⟨rfl, F2, D2, g2, S, h2, h3, h4, h5⟩
  have hn : D2.n = M.D.n := by rw [S.is.n, hB.st.is.n]
  have hB2 := hB.moved h.pl.lt h3 (fun i f => f) h2 (ov' := []) (oc' := C.oc) (fun k hk => by
    have : k = C.mo := by simpa [mapFoot] using hk
    simp [mapFoot, this]) hn S
  have kX : Keeps (fun i => ¬ X i) w w' := h3.mono fun i _ f hi => h.outs i hi f
  have hth : (trimL T.lm).head = T.lm.head := by unfold trimL; split <;> rfl
  have hcm : ∀ b, b < C.G.blocks → cmtB D2 (ovOf []) C.G.home b = cmtB M.D (ovOf C.ov) C.G.home b := fun b hb => by
    have hgb : C.G.home + C.G.blocks ≤ N := hB.st.gb
    have e1 : D2.now (C.G.home + b) = g2 (C.G.home + b) := S.is.now _ (by omega)
    have e2 : M.D.now (C.G.home + b) = g (C.G.home + b) := hB.st.is.now _ (by omega)
    have e3 := h5 (C.G.home + b) (by omega) (by omega)
    unfold cmtB
    rw [show ovOf [] b = none from rfl, Option.getD_none, e1, e3, e2]
    unfold homeG
    rw [Nat.add_sub_cancel_left]
    by_cases hk : b ∈ C.ov.map (·.key)
    · rw [if_pos ⟨by omega, hk⟩]
    · rw [if_neg (fun x => hk x.2)]
      have : ovOf C.ov b = none := by
        cases hq : ovOf C.ov b with
        | none => rfl
        | some x => exact absurd ((ovOf_keys b).2 ⟨x, hq⟩) hk
      rw [this]; rfl
  have hPX : PX { C with F := F2, ov := [], oc := C.oc } { M with D := D2 } { T with lm := trimL T.lm, wr := T.wr + 2049 } :=
    { g := fun b hb => by
        rw [← hM.g b hb]
        unfold TxM.get getB
        show (M.own b).getD (cmtB D2 (ovOf []) C.G.home b) = _
        rw [hcm b hb]
      own := hM.own, cnt := hM.cnt, nd := hM.nd, le := hM.le
      live := hB2.live.trans hdd.symm
      sp := hM.sp
      o := fun b hb => (hcm b hb).trans (hM.o b hb)
      dk := ⟨fun _ => ⟨⟨N, g2, S.is, S.an, S.gb, S.N2⟩, by show D2.writes ≤ T.wr + 2049; omega⟩, fun e => by rw [show ({ T with lm := trimL T.lm, wr := T.wr + 2049 } : TS).dd = T.dd from rfl, hdd] at e; cases e⟩ }
  refine ⟨rfl, { C with F := F2, ov := [], oc := C.oc }, ?_, ?_, h3.mono fun i _ f => ?_, fun i hi => ?_⟩
  · exact
      { pl := ⟨⟨{ M with D := D2 }, ⟨own, xc, by rw [show ({ M with D := D2 } : TxM).sp = T.sp from hM.sp]; exact hB2.tx, y2, y3⟩, hPX⟩, fun i hi => Nat.lt_of_lt_of_le (h.pl.lt i hi) h3.size, h.pl.geo⟩
        hr := kX.blk h.hr (fun f => f h.xr)
        hp := kX.blk h.hp (fun f => f h.xp)
        hq := kX.blk h.hq (fun f => f h.xq)
        ref := h.ref.keeps kX (fun i hi f => f (h.zX i hi).1)
        xr := h.xr, xp := h.xp, xq := h.xq, zX := h.zX, le := h.le
        hl := S.hl, lF := S.lF, xl := h.xl
        lok := ⟨S.li, S.st, S.Lf, S.Ln, S.lg, S.th, S.ep⟩
        ovk := fun e he => by cases he }
  · exact ⟨hs.nb, hs.nn, hs.raw, hs.rl, hs.put, hs.sp, hs.op, hs.dead, hs.data, hs.blocks, hs.nodes, hs.od⟩
  · rcases f with f | f | f
    · exact .inl (.inl f)
    · exact .inr (.inr (.inr (.inr (.inr (.inr (.inl f))))))
    · exact .inr (.inr (.inr (.inr (.inr (.inr (.inr f))))))
  · rcases hi with (hi | hi) | hi
    · exact (h2 i hi).elim (fun x => .inl (.inl (.inl x))) (fun x => .inr ⟨x, S.hd.lt i hi⟩)
    · exact .inl (.inl (.inr hi))
    · exact .inl (.inr hi)
/-- The disk taken: from then on dead. -/
theorem RX.taken (h : RX w C r p q m T R Z X) (htk : T.tk ≤ 10000) : Calls Tryz.prog 108 #[.pointer (some ⟨C.d, 0, none⟩)] w fun e w' => (∃ v, e = .returned (.int .i64 v)) ∧ RX w' C r p q m { T with dd := true, tk := T.tk + 1 } R Z X ∧ Keeps (KF C) w w' := by
  obtain ⟨M, hrep, hM⟩ := h.pl.rep
  obtain ⟨own, xc, y1, y2, y3⟩ := hrep
  refine (take_w y1.hd).mono ?_
  rintro e w' ⟨rfl, hD, hk⟩
  have kK : Keeps (KF C) w w' := hk.mono fun i _ f => .inl f
  have hlife : ∃ k : Nat, 1 ≤ k ∧ k ≤ T.tk + 1 ∧ M.D.took.life = wrap64 (C.G.life + k) := by
    cases hdd : T.dd with
    | false =>
      obtain ⟨⟨N, g, d1, _⟩, _⟩ := hM.dk.1 hdd
      refine ⟨1, Nat.le_refl _, by omega, ?_⟩
      show wrap64 (M.D.life + 1) = _
      rw [d1.lf]; rfl
    | true =>
      obtain ⟨k, k1, k2, k3⟩ := hM.dk.2 hdd
      refine ⟨k + 1, by omega, by omega, ?_⟩
      show wrap64 (M.D.life + 1) = _
      rw [k3]
      unfold wrap64
      omega
  have hg : goneB M.D.took C.G.life = true := by
    obtain ⟨k, k1, k2, k3⟩ := hlife
    have : M.D.took.life ≠ C.G.life := by
      rw [k3]
      unfold wrap64
      omega
    unfold goneB
    simp [this]
  have hcm : ∀ b, cmtB M.D.took (ovOf C.ov) C.G.home b = cmtB M.D (ovOf C.ov) C.G.home b := fun b => rfl
  have hPX : PX C { M with D := M.D.took } { T with dd := true, tk := T.tk + 1 } := by
    refine { g := fun b hb => hM.g b hb, own := hM.own, cnt := hM.cnt, nd := hM.nd, le := hM.le, live := hg, sp := hM.sp, o := fun b hb => hM.o b hb, dk := ⟨fun e => ?_, fun _ => hlife⟩ }
    cases (show true = false from e)
  have y1' : TxAt w' C M.D.took own xc M.sp false X := y1.keep hk (fun i f => .inl f) hD rfl
  exact ⟨⟨_, rfl⟩, h.pool kK ⟨⟨{ M with D := M.D.took }, ⟨own, xc, y1', y2, y3⟩, hPX⟩, fun i hi => Nat.lt_of_lt_of_le (h.pl.lt i hi) hk.size, h.pl.geo⟩ h.le rfl, kK⟩
theorem dead_step (h : RefRep w m R Z) : w.cell? ⟨m, 12, none⟩ = some (.bool R.dead) ∧ w.frozen? ⟨m, 12, none⟩ = false ∧ RStep w (w.setCell ⟨m, 12, none⟩ (.bool true)) m { R with dead := true } Z := by
  obtain ⟨V, hV⟩ := h
  have hm := hV.hm
  unfold refO at hm
  have c12 := hm.cell 12
  simp at c12
  have hk : Keeps (· = m) w (w.setCell ⟨m, 12, none⟩ (.bool true)) := (Keeps.refl (· = m) w).setCell (p := ⟨m, 12, none⟩) (.inl rfl) _
  have h2 := hV.flag hk R.sp R.op true (fun e => e) (by
    have := hm.setCell 12 (.bool true)
    simpa [refO] using this)
  exact ⟨c12, hm.frz 12, ⟨V, h2.up fun i hi => .inl hi⟩, hk.mono fun i _ e => by rw [e]; exact hV.zm⟩
theorem Same.die {G : Geom} (h : Same R T G) : Same { R with dead := true } { T with dd := true, tk := T.tk + 1 } G :=
  ⟨h.nb, h.nn, h.raw, h.rl, h.put, h.sp, h.op, rfl, h.data, h.blocks, h.nodes, h.od⟩
end
section
variable {Post : Ending → World → Prop} {w : World} {r m d sb p q : Nat}
set_option maxRecDepth 100000 in
set_option maxHeartbeats 2000000 in
theorem stepK_w (n : Int) (who two : Bool) (ad : Option Addr) (ld cd : Nat) (dd : Bool)
    (hp : ∀ W, Keeps (fun _ => False) w W → W.cell? ⟨r, 1, none⟩ = some (.pointer (some ⟨sb, 0, none⟩)) ∧ W.cell? ⟨r, 2, none⟩ = some (.pointer (some ⟨p, 0, none⟩)) ∧ W.cell? ⟨r, 3, none⟩ = some (.pointer (some ⟨q, 0, none⟩)))
    (hC : ∀ W, Keeps (fun _ => False) w W → Calls Tryz.prog 71 #[.pointer (some ⟨sb, 0, none⟩)] W fun e w' => e = .returned (.int .i64 (if dd then 3 else 0)) ∧ w'.cell? ⟨r, 4, none⟩ = some (.pointer (some ⟨m, 0, none⟩)) ∧ w'.cell? ⟨m, 12, none⟩ = some (.bool dd) ∧ Post (.returned (.bool true)) w') :
    Calls Tryz.prog 79 #[.pointer (some ⟨r, 0, none⟩), stepV 14 n who two (.slice ad ld cd)] w Post := by
  have kA : Keeps (fun _ => False) w (w.alloc (.cells #[.int .i64 14, .int .i64 n, .bool who, .bool two, .slice ad ld cd] 138 (0, 0))) := (Keeps.refl _ w).alloc _
  obtain ⟨e1, e2, e3⟩ := hp _ kA
  have hC1 := hC _ kA
  clear hC hp
  unfold stepV at *
  cases dd
  all_goals
    simp only [if_true, Bool.false_eq_true, if_false] at hC1
    cases who
  all_goals
    replace hC1 := hid hC1; replace kA := hid kA
    go_enter Tryz.func79, Tryz.ntmps79
    go_wp2_with (first
      | (go_at_call 71; refine hC1.out.mono ?_; rintro e w2 ⟨rfl, d4, d12, hF⟩; replace hF := hid hF)
      | (go_at_call 19; refine (num_w _ _).mono ?_; rintro e w' ⟨rfl, rfl⟩))
    exact hF.out
set_option maxRecDepth 100000 in
set_option maxHeartbeats 2000000 in
theorem stepT_w (n : Int) (who two : Bool) (ad : Option Addr) (ld cd : Nat) (dd : Bool)
    (hp : ∀ W, Keeps (fun _ => False) w W → W.cell? ⟨r, 0, none⟩ = some (.pointer (some ⟨d, 0, none⟩)) ∧ W.cell? ⟨r, 2, none⟩ = some (.pointer (some ⟨p, 0, none⟩)) ∧ W.cell? ⟨r, 3, none⟩ = some (.pointer (some ⟨q, 0, none⟩)))
    (hC : ∀ W, Keeps (fun _ => False) w W → Calls Tryz.prog 108 #[.pointer (some ⟨d, 0, none⟩)] W fun e w' => (∃ v, e = .returned (.int .i64 v)) ∧ w'.cell? ⟨r, 4, none⟩ = some (.pointer (some ⟨m, 0, none⟩)) ∧ w'.cell? ⟨m, 12, none⟩ = some (.bool dd) ∧ w'.frozen? ⟨m, 12, none⟩ = false ∧ Post (.returned (.bool true)) (w'.setCell ⟨m, 12, none⟩ (.bool true))) :
    Calls Tryz.prog 79 #[.pointer (some ⟨r, 0, none⟩), stepV 15 n who two (.slice ad ld cd)] w Post := by
  have kA : Keeps (fun _ => False) w (w.alloc (.cells #[.int .i64 15, .int .i64 n, .bool who, .bool two, .slice ad ld cd] 138 (0, 0))) := (Keeps.refl _ w).alloc _
  obtain ⟨e1, e2, e3⟩ := hp _ kA
  have hC1 := hC _ kA
  clear hC hp
  unfold stepV at *
  cases who
  all_goals
    replace hC1 := hid hC1; replace kA := hid kA
    go_enter Tryz.func79, Tryz.ntmps79
    go_wp2_with (go_at_call 108; refine hC1.out.mono ?_; rintro e w2 ⟨⟨v, rfl⟩, d4, d12, df, hF⟩; replace hF := hid hF)
    exact hF.out
end
section
variable {w : World} {r i : Nat} {F X : Nat → Prop} (s : StepR)
theorem sOk14 (h : Side (JC i) w r F X) (hi : i < 3000) (hk : s.k = 14) (hd : ByteSl w s.d s.l) : Calls Tryz.prog 79 #[.pointer (some ⟨r, 0, none⟩), s.v] w (SidePost (JC (i + 1)) w r F X) := by
  obtain ⟨C, p, q, m, T, R, Z, rfl, hJ, hs, r2, r3, hR⟩ := h.at
  obtain ⟨k, n, who, two, d, l⟩ := s
  replace hd : ByteSl w d l := hd
  obtain ⟨ad, cd, rfl, _⟩ := hd
  obtain rfl : k = 14 := hk
  have hJ' := JC.ok.2 i T hJ
  obtain ⟨j1, j2, j3⟩ := hJ
  refine stepK_w (sb := C.sb) (m := m) (p := p) (q := q) n who two ad l.length cd T.dd (fun W k => ?_) (fun W k => ?_)
  · obtain ⟨hR1, hu⟩ := hR W k
    exact ⟨by have := hR1.hr.cell 1; simpa using this, by have := hR1.hr.cell 2; simpa using this, by have := hR1.hr.cell 3; simpa using this⟩
  · obtain ⟨hR1, hu⟩ := hR W k
    cases hdd : T.dd with
    | false =>
      refine (hR1.ckpt hs hdd (by omega) (by omega)).mono ?_
      rintro e w' ⟨rfl, C', y1, y2, y3, y4⟩
      obtain ⟨c12, _, _⟩ := dead_step y1.ref
      rw [hs.dead, hdd] at c12
      have hth : (trimL T.lm).head = T.lm.head := by unfold trimL; split <;> rfl
      refine ⟨rfl, by have := y1.hr.cell 4; simpa using this, c12, SidePost.mv k ⟨rfl, _, _, ⟨C', p, q, m, _, R, Z, y1, y2, JC.of (by omega) (by rw [hth]; omega) (by omega), rfl⟩, y3, y4, fun i hi => hi⟩⟩
    | true =>
      obtain ⟨M, ⟨own, xc, y1, _⟩, hM⟩ := hR1.pl.rep
      refine (checkpoint_bad y1.hs y1.hd (hM.live.trans hdd)).mono ?_
      rintro e w' ⟨rfl, n', rfl⟩
      obtain ⟨hR2, _⟩ := hR _ (k.step ((Keeps.refl (fun _ => False) W).drewN n'))
      obtain ⟨c12, _, _⟩ := dead_step hR2.ref
      rw [hs.dead, hdd] at c12
      refine ⟨rfl, by have := hR2.hr.cell 4; simpa using this, c12, rfl, _, _, ⟨C, p, q, m, T, R, Z, hR2, hs, hJ', rfl⟩, (k.step ((Keeps.refl (fun _ => False) W).drewN n')).mono fun _ _ f => f.elim, fun i hi => .inl hi, fun i hi => .inl hi⟩
theorem sOk15 (h : Side (JC i) w r F X) (hi : i < 3000) (hk : s.k = 15) (hd : ByteSl w s.d s.l) : Calls Tryz.prog 79 #[.pointer (some ⟨r, 0, none⟩), s.v] w (SidePost (JC (i + 1)) w r F X) := by
  obtain ⟨C, p, q, m, T, R, Z, rfl, hJ, hs, r2, r3, hR⟩ := h.at
  obtain ⟨k, n, who, two, d, l⟩ := s
  replace hd : ByteSl w d l := hd
  obtain ⟨ad, cd, rfl, _⟩ := hd
  obtain rfl : k = 15 := hk
  obtain ⟨j1, j2, j3⟩ := hJ
  refine stepT_w (d := C.d) (m := m) (p := p) (q := q) n who two ad l.length cd R.dead (fun W k => ?_) (fun W k => ?_)
  · obtain ⟨hR1, hu⟩ := hR W k
    exact ⟨by have := hR1.hr.cell 0; simpa using this, by have := hR1.hr.cell 2; simpa using this, by have := hR1.hr.cell 3; simpa using this⟩
  · obtain ⟨hR1, hu⟩ := hR W k
    refine (hR1.taken (by omega)).mono ?_
    rintro e w' ⟨⟨v, rfl⟩, y1, y2⟩
    obtain ⟨c12, cf, hst⟩ := dead_step y1.ref
    have hR3 := y1.doc hst
    have s1 := y2.size
    have s2 := hst.k.size
    refine ⟨⟨v, rfl⟩, by have := y1.hr.cell 4; simpa using this, c12, cf, SidePost.mv k ⟨rfl, _, _, ⟨C, p, q, m, _, _, _, hR3, hs.die, JC.of (by omega) (by show T.lm.head ≤ _; omega) (by show T.wr ≤ _; omega), rfl⟩, (y2.mono fun _ _ f => .inl f).step (hst.k.mono fun _ _ f => .inr (.inl f)), fun i hi => ?_, fun i hi => .inl hi⟩⟩
    rcases hi with hi | (hi | hi) | hi
    · exact .inl (.inl hi)
    · exact .inl (.inr (.inl hi))
    · exact .inr ⟨by omega, hi.2⟩
    · exact .inl (.inr (.inr hi))
end
theorem stepOk_plays (hJ : JOk JC) : StepOk JC [1, 2, 3, 4, 5, 6, 7, 8, 9, 10, 11, 12, 13, 14, 15] := fun i w r F X hi h s hs hn hd hl => by
  have hL := hJ.1 i
  simp only [List.mem_cons, List.not_mem_nil, or_false] at hs
  rcases hs with hs | hs | hs | hs | hs | hs | hs | hs | hs | hs | hs | hs | hs | hs | hs
  · exact (sOk1 s h hL hs hd).mono fun e w' x => x.weak (hJ.2 i)
  · exact (sOk2 s h hL hs hd).mono fun e w' x => x.weak (hJ.2 i)
  · exact (sOk3 s h hL hs hn hd).mono fun e w' x => x.weak (hJ.2 i)
  · exact (sOk4 s h hL hs hd).mono fun e w' x => x.weak (hJ.2 i)
  · exact (sOk5 s h hL hs hn hd).mono fun e w' x => x.weak (hJ.2 i)
  · exact (sOk6 s h hL hs hd).mono fun e w' x => x.weak (hJ.2 i)
  · exact (sOk7 s h hs hd).mono fun e w' x => x.weak (hJ.2 i)
  · exact sOk8 s h hi hs hd
  · exact (sOk9 s h hL hs hd).mono fun e w' x => x.weak (hJ.2 i)
  · exact (sOk10 s h hL hs hd hl).mono fun e w' x => x.weak (hJ.2 i)
  · exact (sOk11 s h hL hs hd hl).mono fun e w' x => x.weak (hJ.2 i)
  · exact (sOk12 s h hs hd).mono fun e w' x => x.weak (hJ.2 i)
  · exact (sOk13 s h hL hs hd).mono fun e w' x => x.weak (hJ.2 i)
  · exact sOk14 s h hi hs hd
  · exact sOk15 s h hi hs hd
end Go.Vk
