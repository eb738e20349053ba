/- Every kind of step that puts only bitmaps goes well. Two rigs made one behind the other, and the law's opening: Clear, and a look by the second pool. The walk of plays of the law, over whatever kinds of steps go well. -/
import Derived.Test.YtceodjgajkimnaaGreatMW
set_option linter.unusedVariables false

namespace Go.Vk
open Go.RowKit Go.Proofs

section
variable {J : TS → Prop} {w0 w w' w1 : World} {r : Nat} {F X : Nat → Prop} {e : Ending}
/-- A side taken apart, for a step. -/
theorem Side.at (h : Side J w r F X) : ∃ (C : TxC) (p q m : Nat) (T : TS) (R : RP) (Z : Nat → Prop), F = Foot C r p q Z ∧ J T ∧ Same R T C.G ∧ w.cell? ⟨r, 2, none⟩ = some (.pointer (some ⟨p, 0, none⟩)) ∧ w.cell? ⟨r, 3, none⟩ = some (.pointer (some ⟨q, 0, none⟩)) ∧
    ∀ w1, Keeps (fun _ => False) w w1 → RX w1 C r p q m T R Z (Zn w w1 X) ∧ ∀ who : Bool, Blk w1 (if who then q else p) (poolO C.t) ∧ Zn w w1 X (if who then q else p) := by
  obtain ⟨C, p, q, m, T, R, Z, h1, h2, h3, rfl⟩ := h
  refine ⟨C, p, q, m, T, R, Z, rfl, h3, h2, by have := h1.hr.cell 2; simpa using this, by have := h1.hr.cell 3; simpa using this, fun w1 kA => ?_⟩
  have hR1 := h1.refl.mv (Nat.le_refl _) kA
  exact ⟨hR1, fun who => match who with | false => ⟨hR1.hp, hR1.xp⟩ | true => ⟨hR1.hq, hR1.xq⟩⟩
theorem SidePost.val (h : SidePost J w r F X e w') : ∃ b, e = .returned (.bool b) := ⟨true, h.1⟩
variable (s : StepR)
theorem sOk1 (h : Side J w r F X) (hL : ∀ T T', T.Like T' → J T → J T') (hk : s.k = 1) (hd : ByteSl w s.d s.l) : Calls Tryz.prog 79 #[.pointer (some ⟨r, 0, none⟩), s.v] w (SidePost J w r F X) := by
  obtain ⟨C, p, q, m, T, R, Z, rfl, hJ, hs, r2, r3, hR⟩ := h.at
  obtain ⟨k, n, who, two, d, l⟩ := s
  replace hd : ByteSl w d l := hd
  obtain ⟨ad, cd, rfl, _⟩ := hd
  obtain rfl : k = 1 := hk
  refine stepC_w r2 r3 1 n (.inl rfl) who two ad l.length cd (fun e w' x => x.val) (fun w1 kA => ?_)
  obtain ⟨hR1, hu⟩ := hR w1 kA
  exact (calls1_w hR1 hs _ (hu who).1 (hu who).2 J (hL _ _ (TS.clear_like _ _) hJ) n who two ad _ cd).mono fun e w' x => (MovePost.step x).mv kA
theorem sOk2 (h : Side J w r F X) (hL : ∀ T T', T.Like T' → J T → J T') (hk : s.k = 2) (hd : ByteSl w s.d s.l) : Calls Tryz.prog 79 #[.pointer (some ⟨r, 0, none⟩), s.v] w (SidePost J w r F X) := by
  obtain ⟨C, p, q, m, T, R, Z, rfl, hJ, hs, r2, r3, hR⟩ := h.at
  obtain ⟨k, n, who, two, d, l⟩ := s
  replace hd : ByteSl w d l := hd
  obtain ⟨ad, cd, rfl, _⟩ := hd
  obtain rfl : k = 2 := hk
  refine stepC_w r2 r3 2 n (by simp) who two ad l.length cd (fun e w' x => x.val) (fun w1 kA => ?_)
  obtain ⟨hR1, hu⟩ := hR w1 kA
  exact (calls2_w hR1 hs _ (hu who).1 (hu who).2 J n (hL _ _ (TS.take_like _ _ _) hJ) who two ad _ cd).mono fun e w' x => (MovePost.step x).mv kA
theorem sOk3 (h : Side J w r F X) (hL : ∀ T T', T.Like T' → J T → J T') (hk : s.k = 3) (hn : IntKind.i64.wrap s.n = s.n) (hd : ByteSl w s.d s.l) : Calls Tryz.prog 79 #[.pointer (some ⟨r, 0, none⟩), s.v] w (SidePost J w r F X) := by
  obtain ⟨C, p, q, m, T, R, Z, rfl, hJ, hs, r2, r3, hR⟩ := h.at
  obtain ⟨k, n, who, two, d, l⟩ := s
  replace hd : ByteSl w d l := hd
  obtain ⟨ad, cd, rfl, _⟩ := hd
  obtain rfl : k = 3 := hk
  refine stepC_w r2 r3 3 n (by simp) who two ad l.length cd (fun e w' x => x.val) (fun w1 kA => ?_)
  obtain ⟨hR1, hu⟩ := hR w1 kA
  exact (calls3_w hR1 hs _ (hu who).1 (hu who).2 J n hn (hL _ _ (TS.drop_like _ _ _ _) hJ) who two ad _ cd).mono fun e w' x => (MovePost.step x).mv kA
theorem sOk4 (h : Side J w r F X) (hL : ∀ T T', T.Like T' → J T → J T') (hk : s.k = 4) (hd : ByteSl w s.d s.l) : Calls Tryz.prog 79 #[.pointer (some ⟨r, 0, none⟩), s.v] w (SidePost J w r F X) := by
  obtain ⟨C, p, q, m, T, R, Z, rfl, hJ, hs, r2, r3, hR⟩ := h.at
  obtain ⟨k, n, who, two, d, l⟩ := s
  replace hd : ByteSl w d l := hd
  obtain ⟨ad, cd, rfl, _⟩ := hd
  obtain rfl : k = 4 := hk
  refine stepC_w r2 r3 4 n (by simp) who two ad l.length cd (fun e w' x => x.val) (fun w1 kA => ?_)
  obtain ⟨hR1, hu⟩ := hR w1 kA
  exact (calls4_w hR1 hs _ (hu who).1 (hu who).2 J n (hL _ _ (TS.take_like _ _ _) hJ) who two ad _ cd).mono fun e w' x => (MovePost.step x).mv kA
theorem sOk5 (h : Side J w r F X) (hL : ∀ T T', T.Like T' → J T → J T') (hk : s.k = 5) (hn : IntKind.i64.wrap s.n = s.n) (hd : ByteSl w s.d s.l) : Calls Tryz.prog 79 #[.pointer (some ⟨r, 0, none⟩), s.v] w (SidePost J w r F X) := by
  obtain ⟨C, p, q, m, T, R, Z, rfl, hJ, hs, r2, r3, hR⟩ := h.at
  obtain ⟨k, n, who, two, d, l⟩ := s
  replace hd : ByteSl w d l := hd
  obtain ⟨ad, cd, rfl, _⟩ := hd
  obtain rfl : k = 5 := hk
  refine stepC_w r2 r3 5 n (by simp) who two ad l.length cd (fun e w' x => x.val) (fun w1 kA => ?_)
  obtain ⟨hR1, hu⟩ := hR w1 kA
  exact (calls5_w hR1 hs _ (hu who).1 (hu who).2 J n hn (hL _ _ (TS.drop_like _ _ _ _) hJ) who two ad _ cd).mono fun e w' x => (MovePost.step x).mv kA
theorem sOk6 (h : Side J w r F X) (hL : ∀ T T', T.Like T' → J T → J T') (hk : s.k = 6) (hd : ByteSl w s.d s.l) : Calls Tryz.prog 79 #[.pointer (some ⟨r, 0, none⟩), s.v] w (SidePost J w r F X) := by
  obtain ⟨C, p, q, m, T, R, Z, rfl, hJ, hs, r2, r3, hR⟩ := h.at
  obtain ⟨k, n, who, two, d, l⟩ := s
  replace hd : ByteSl w d l := hd
  obtain ⟨ad, cd, rfl, _⟩ := hd
  obtain rfl : k = 6 := hk
  refine stepC_w r2 r3 6 n (by simp) who two ad l.length cd (fun e w' x => x.val) (fun w1 kA => ?_)
  obtain ⟨hR1, hu⟩ := hR w1 kA
  exact (calls6_w hR1 hs _ (hu who).1 (hu who).2 J n hJ who two ad _ cd).mono fun e w' x => (MovePost.step x).mv kA
theorem RX.looked {C : TxC} {p q m : Nat} {T : TS} {R : RP} {Z : Nat → Prop} (h : RX w C r p q m T R Z X) (hs : Same R T C.G) (hJ : J T) (u : Nat) (hu : Blk w u (poolO C.t)) (xu : X u) : Calls Tryz.prog 78 #[.pointer (some ⟨r, 0, none⟩), .pointer (some ⟨u, 0, none⟩)] w (SidePost J w r (Foot C r p q Z) X) := by
  refine (looks_w h hs u hu xu).mono ?_
  rintro e w' ⟨rfl, y1, y2⟩
  exact ⟨rfl, _, _, ⟨C, p, q, m, T, R, Z, y1, hs, hJ, rfl⟩, y2.mono fun _ _ f => .inl f, fun i hi => .inl hi, fun i hi => .inl hi⟩
theorem sOk7 (h : Side J w r F X) (hk : s.k = 7) (hd : ByteSl w s.d s.l) : Calls Tryz.prog 79 #[.pointer (some ⟨r, 0, none⟩), s.v] w (SidePost J w r F X) := by
  obtain ⟨C, p, q, m, T, R, Z, rfl, hJ, hs, r2, r3, hR⟩ := h.at
  obtain ⟨k, n, who, two, d, l⟩ := s
  replace hd : ByteSl w d l := hd
  obtain ⟨ad, cd, rfl, _⟩ := hd
  obtain rfl : k = 7 := hk
  refine stepL_w r2 r3 n who two ad l.length cd (fun e w' x => x.val) (fun w1 kA => ?_)
  obtain ⟨hR1, hu⟩ := hR w1 kA
  exact (hR1.looked hs hJ _ (hu who).1 (hu who).2).mono fun e w' x => x.mv kA
theorem sOk11 (h : Side J w r F X) (hL : ∀ T T', T.Like T' → J T → J T') (hk : s.k = 11) (hd : ByteSl w s.d s.l) (hl : s.l ≠ [] → ∀ g, s.d.ownBlock = some g → ¬ F g) : Calls Tryz.prog 79 #[.pointer (some ⟨r, 0, none⟩), s.v] w (SidePost J w r F X) := by
  obtain ⟨C, p, q, m, T, R, Z, rfl, hJ, hs, r2, r3, hR⟩ := h.at
  obtain ⟨k, n, who, two, d, l⟩ := s
  replace hd : ByteSl w d l := hd
  obtain ⟨ad, cd, rfl, hx⟩ := id hd
  obtain rfl : k = 11 := hk
  refine stepR_w r2 r3 11 n (.inr rfl) who two ad l.length cd (fun e w' x => x.val) (fun w1 kA => ?_)
  obtain ⟨hR1, hu⟩ := hR w1 kA
  exact (raw11_w hR1 hs _ (hu who).1 (hu who).2 J (fun _ _ => hL _ _ (TS.putB_like _ _ _) hJ) n who two _ l (hd.keeps kA (fun _ _ f => f)) (fun hne g hg f => hl hne g hg (.inl f))).mono fun e w' x => (MovePost.step x).mv kA
end
/-- The counters: each step moves the log's head by seventeen at most, and writes no more than 2100 sectors. -/
def JC (n : Nat) (T : TS) : Prop := T.lm.head ≤ 17 * n ∧ T.wr ≤ 10000 + 2100 * n ∧ T.tk ≤ n
theorem JC.ok : JOk JC := ⟨fun n T T' h k => by
  unfold JC at *
  rw [h.1, h.2.1, h.2.2.2.2]; exact k, fun n T h => by unfold JC at *; omega⟩
theorem JC.zero (lg : Nat) (life : Int) : JC 0 (TS.new (newL lg life) 10000) := ⟨Nat.le_refl _, Nat.le_refl _, Nat.le_refl _⟩
section
variable {J : Nat → TS → Prop}
theorem stepOk_clears (hJ : JOk J) : StepOk J [1, 7, 11] := fun i w r F X _ h s hs hn hd hl => by
  have hL := hJ.1 i
  simp only [List.mem_cons, List.not_mem_nil, or_false] at hs
  rcases hs with hs | hs | hs
  · exact (sOk1 s h hL hs hd).mono fun e w' x => x.weak (hJ.2 i)
  · exact (sOk7 s h hs hd).mono fun e w' x => x.weak (hJ.2 i)
  · exact (sOk11 s h hL hs hd hl).mono fun e w' x => x.weak (hJ.2 i)
theorem stepOk_lefts (hJ : JOk J) : StepOk J [2, 3, 4, 5, 6, 11] := fun i w r F X _ h s hs hn hd hl => by
  have hL := hJ.1 i
  simp only [List.mem_cons, List.not_mem_nil, or_false] at hs
  rcases hs with hs | hs | hs | hs | hs | hs
  · exact (sOk2 s h hL hs hd).mono fun e w' x => x.weak (hJ.2 i)
  · exact (sOk3 s h hL hs hn hd).mono fun e w' x => x.weak (hJ.2 i)
  · exact (sOk4 s h hL hs hd).mono fun e w' x => x.weak (hJ.2 i)
  · exact (sOk5 s h hL hs hn hd).mono fun e w' x => x.weak (hJ.2 i)
  · exact (sOk6 s h hL hs hd).mono fun e w' x => x.weak (hJ.2 i)
  · exact (sOk11 s h hL hs hd hl).mono fun e w' x => x.weak (hJ.2 i)
end
end Go.Vk

namespace Go.Vk
open Go.RowKit Go.Proofs

section
variable {J : TS → Prop} {w0 w w' w1 w2 w3 w5 w6 : World} {C : TxC} {r p q m : Nat} {R : RP} {Z F F' X X' : Nat → Prop} {e : Ending}
theorem SidePost.after (k : Keeps F w w5) (hF : ∀ i, F' i → Zn w w5 F i) (hX : ∀ i, X i → X' i) (h : SidePost J w5 r F' X' e w6) : SidePost J w r F X e w6 := by
  obtain ⟨h1, F2, X2, h2, h3, h4, h5⟩ := h
  have z1 := k.size
  have z2 := h3.size
  refine ⟨h1, F2, X2, h2, k.trans h3 (fun i hi f => (hF i f).elim id (fun x => by omega)), fun i hi => ?_, fun i hi => h5 i (hX i hi)⟩
  rcases h4 i hi with x | x
  · exact (hF i x).elim .inl (fun y => .inr ⟨y.1, by omega⟩)
  · exact .inr ⟨by omega, x.2⟩
theorem opening_w {T : TS} (h : RX w C r p q m T R Z X) (hs : Same R T C.G) (hJ : J (T.clear C.G).2) : ∃ v : Nat, Calls Tryz.prog 47 #[.pointer (some ⟨p, 0, none⟩)] w fun e w3 => e = .returned (.int .i64 v) ∧ w3.cell? ⟨r, 4, none⟩ = some (.pointer (some ⟨m, 0, none⟩)) ∧
    Calls Tryz.prog 77 #[.pointer (some ⟨m, 0, none⟩)] w3 fun e w5 => e = .returned (.int .i64 v) ∧ w5.cell? ⟨r, 3, none⟩ = some (.pointer (some ⟨q, 0, none⟩)) ∧
      Calls Tryz.prog 78 #[.pointer (some ⟨r, 0, none⟩), .pointer (some ⟨q, 0, none⟩)] w5 (SidePost J w r (Foot C r p q Z) X) := by
  have g1 := h.pl.geo.b1
  have g2 := h.pl.geo.b2
  obtain ⟨hE, hS'⟩ := hs.clear (h.pl.len 0 (by omega)) (h.pl.len 1 (by omega))
  refine ⟨(T.clear C.G).1, (h.pl.clearA h.hp h.xp).mono ?_⟩
  rintro e w3 ⟨rfl, y2, y3⟩
  have hR3 := h.pool y3 y2 (clear_le h.le _) (TS.clear_like _ _).1
  refine ⟨rfl, by have := hR3.hr.cell 4; simpa using this, ?_⟩
  refine (rclear_w hR3.ref (fun i hi => hR3.pl.lt i (hR3.zX i hi).1) (by rw [hs.put]; exact h.le) (by rw [hs.data]; unfold Geom.data; omega)).mono ?_
  rintro e w5 ⟨rfl, hst⟩
  have hR5 := hR3.doc hst
  have z3 := y3.size
  have z5 := hst.k.size
  refine ⟨by rw [hE], by have := hR5.hr.cell 3; simpa using this, (hR5.looked hS' hJ q hR5.hq hR5.xq).mono fun e w6 x => ?_⟩
  refine x.after ((y3.mono fun _ _ f => .inl f).step (hst.k.mono fun _ _ f => .inr (.inl f))) (fun i hi => ?_) (fun i hi => .inl hi)
  rcases hi with hi | (hi | hi) | hi
  · exact .inl (.inl hi)
  · exact .inl (.inr (.inl hi))
  · exact .inr ⟨by omega, hi.2⟩
  · exact .inl (.inr (.inr hi))
/-- A rig that was just made, behind w0. -/
def Start (w0 w : World) (r : Nat) : Prop :=
  ∃ (C : TxC) (p q m : Nat) (R : RP) (Z X : Nat → Prop), RX w C r p q m (TS.new (newL C.G.lg C.G.life) 10000) R Z X ∧ Same R (TS.new (newL C.G.lg C.G.life) 10000) C.G ∧ (∀ i, Foot C r p q Z i → w0.heap.size ≤ i) ∧ (∀ i, i < w0.heap.size → X i) ∧ Keeps (fun _ => False) w0 w
theorem rstart_w (w : World) (a b c : Int) : Calls Tryz.prog 46 #[.agg #[.int .i64 (gSecs a b c : Nat), .int .i64 (gLog b : Nat), .int .i64 (gNodes c : Nat)]] w fun e w' => ∃ r, e = .returned (.pointer (some ⟨r, 0, none⟩)) ∧ Start w w' r := by
  have hp := plan_super a b c
  have h2 := (gSecs_b a b c).2
  have h3 := gNodes_b c
  have h4 := gLog_b b
  refine (rig_w w (gSecs a b c) (gLog b) (gNodes c) hp h2).mono fun e w' x => ?_
  obtain ⟨C, r, p, q, m, R, Z, X, rfl, x1, x2, x3, x4, x5, x6, x7, x8⟩ := RX.start hp h2 (fun G e1 e2 e3 => by
    have h5 := gSecs_b a b c
    unfold gLeast at h5
    refine ⟨?_, ?_, ?_, ?_⟩
    · unfold Geom.blocks; rw [e1, e2, e3]; omega
    · unfold Geom.blocks; rw [e1, e2]; omega
    · rw [e3]; omega
    · rw [e3]; omega) x
  exact ⟨r, rfl, C, p, q, m, R, Z, X, x4, x5, x6, x7, x8⟩
theorem Duo.post {a b : Nat} {Fa Xa Fb Xb : Nat → Prop} (h1 : Side J w b Fb Xb) (h3 : ∀ i, Fa i → Xb i ∧ ¬ Fb i) (h4 : ∀ i, Fb i → Xa i) (h5 : ∀ i, Fa i ∨ Fb i → w0.heap.size ≤ i) (h6 : Keeps (fun _ => False) w0 w) (h : SidePost J w a Fa Xa e w') : e = .returned (.bool true) ∧ Duo J w0 w' a b := by
  obtain ⟨rfl, F', X', y1, y2, y3, y4⟩ := h
  have z0 := h6.size
  have z1 := y2.size
  refine ⟨rfl, F', X', Fb, Zn w w' Xb, y1, h1.other y2 (fun i _ f => h3 i f), fun i hi => ?_, fun i hi => y4 i (h4 i hi), fun i hi => ?_, h6.trans y2 (fun i hi f => by have := h5 i (.inl f); omega)⟩
  · rcases y3 i hi with x | x
    · exact ⟨.inl (h3 i x).1, (h3 i x).2⟩
    · exact ⟨.inr x, fun f => by have := h1.lt f; omega⟩
  · rcases hi with hi | hi
    · rcases y3 i hi with x | x
      · exact h5 i (.inl x)
      · omega
    · exact h5 i (.inr hi)
theorem both_w {a b : Nat} (k0 : Keeps (fun _ => False) w0 w1) (ha : Start w1 w2 a) (k2 : Keeps (fun _ => False) w2 w) (hb : Start w w3 b) (hJ0 : ∀ lg life, J (TS.new (newL lg life) 10000)) (hL : ∀ T T', T.Like T' → J T → J T') : ∃ (v p q m : Nat), w3.cell? ⟨a, 5, none⟩ = some (.bool true) ∧ w3.cell? ⟨b, 5, none⟩ = some (.bool true) ∧ w3.cell? ⟨a, 2, none⟩ = some (.pointer (some ⟨p, 0, none⟩)) ∧
    Calls Tryz.prog 47 #[.pointer (some ⟨p, 0, none⟩)] w3 fun e w4 => e = .returned (.int .i64 v) ∧ w4.cell? ⟨a, 4, none⟩ = some (.pointer (some ⟨m, 0, none⟩)) ∧
      Calls Tryz.prog 77 #[.pointer (some ⟨m, 0, none⟩)] w4 fun e w5 => e = .returned (.int .i64 v) ∧ w5.cell? ⟨a, 3, none⟩ = some (.pointer (some ⟨q, 0, none⟩)) ∧
        Calls Tryz.prog 78 #[.pointer (some ⟨a, 0, none⟩), .pointer (some ⟨q, 0, none⟩)] w5 fun e w6 => e = .returned (.bool true) ∧ Duo J w0 w6 a b := by
  obtain ⟨C, p, q, m, R, Z, X, a1, a2, a3, a4, a5⟩ := ha
  obtain ⟨D, p', q', m', R', Z', X', b1, b2, b3, b4, b5⟩ := hb
  have z0 := k0.size
  have z1 := a5.size
  have z2 := k2.size
  have z3 := b5.size
  have kk := k2.step b5
  have a1' := a1.other kk (fun _ _ f => f.elim)
  obtain ⟨v, hO⟩ := opening_w a1' a2 (hL _ _ (TS.clear_like _ _) (hJ0 C.G.lg C.G.life))
  have hSb : Side J w3 b (Foot D b p' q' Z') X' := ⟨D, p', q', m', _, R', Z', b1, b2, hJ0 _ _, rfl⟩
  have hSa : Side J w2 a (Foot C a p q Z) X := ⟨C, p, q, m, _, R, Z, a1, a2, hJ0 _ _, rfl⟩
  have hpost := fun e w6 => Duo.post (J := J) (w0 := w0) (w := w3) (w' := w6) (e := e) (a := a) (b := b) (Fa := Foot C a p q Z) (Xa := Zn w2 w3 X) (Fb := Foot D b p' q' Z') (Xb := X') hSb
    (fun i hi => ⟨b4 i (by have := hSa.lt hi; omega), fun f => by have := b3 i f; have := hSa.lt hi; omega⟩)
    (fun i hi => .inr ⟨by have := b3 i hi; omega, hSb.lt hi⟩)
    (fun i hi => by
      rcases hi with hi | hi
      · have := a3 i hi; omega
      · have := b3 i hi; omega)
    (k0.step (a5.step kk))
  refine ⟨v, p, q, m, by have := a1'.hr.cell 5; simpa using this, by have := b1.hr.cell 5; simpa using this, by have := a1'.hr.cell 2; simpa using this, hO.mono ?_⟩
  rintro e w4 ⟨rfl, c1, c2⟩
  refine ⟨rfl, c1, c2.mono ?_⟩
  rintro e w5 ⟨rfl, d1, d2⟩
  exact ⟨rfl, d1, d2.mono fun e w6 x => hpost e w6 x⟩
end
end Go.Vk

namespace Go.Vk
open Go.RowKit Go.Proofs

theorem Start.k {w w' : World} {r : Nat} (h : Start w w' r) : Keeps (fun _ => False) w w' := by
  obtain ⟨C, p, q, m, R, Z, X, _, _, _, _, k⟩ := h; exact k
theorem Duo.k {J : TS → Prop} {w0 w : World} {a b : Nat} (h : Duo J w0 w a b) : Keeps (fun _ => False) w0 w := by
  obtain ⟨_, _, _, _, _, _, _, _, _, k⟩ := h; exact k
theorem ByteSl.own_lt {w : World} {v : Value} {l : List UInt8} (h : ByteSl w v l) (hl : l ≠ []) (g : Nat) (hg : v.ownBlock = some g) : g < w.heap.size := by
  obtain ⟨a, cap, rfl, hx⟩ := h
  rcases hx with hx | ⟨g', o, rfl, hx⟩
  · exact absurd hx hl
  · have h0 := hx 0 (List.length_pos_iff.2 hl)
    have : g' = g := by simpa [Value.ownBlock] using hg
    subst this
    exact World.block_lt_of_cell? w _ h0
def PlaysPost (w : World) (e : Ending) (w' : World) : Prop := e = .returned (.bool true) ∧ Keeps (fun _ => False) w w'
set_option maxRecDepth 100000 in
set_option maxHeartbeats 16000000 in
theorem plays_w {J : Nat → TS → Prop} {K : List Int} (hK : StepOk J K) (hJ0 : ∀ lg life, J 0 (TS.new (newL lg life) 10000)) (hJ : JOk J) (w : World) (a1 b1 c1 a2 b2 c2 : Int) (va : Value) (ss : List StepR) (hva : ArgSteps w va ss) (kg kc : Nat)
    (hkv : ∀ i (h : i < K.length), w.cell? ⟨kg, i, none⟩ = some (.int .i64 K[i])) (hkl : K.length ≤ 100) :
    Calls Tryz.prog 41 #[.agg #[.int .i64 a1, .int .i64 b1, .int .i64 c1], .agg #[.int .i64 a2, .int .i64 b2, .int .i64 c2], va, .slice (some ⟨kg, 0, none⟩) K.length kc] w (PlaysPost w) := by
  have hS1 := fun w => lsuper_w w a1 b1 c1
  have hS2 := fun w => lsuper_w w a2 b2 c2
  have hR1 := fun w => rstart_w w a1 b1 c1
  have hR2 := fun w => rstart_w w a2 b2 c2
  have kA : Keeps (fun _ => False) w ((w.alloc (.cells #[.int .i64 a1, .int .i64 b1, .int .i64 c1] 23 (0, 0))).alloc (.cells #[.int .i64 a2, .int .i64 b2, .int .i64 c2] 23 (0, 0))) := ((Keeps.refl _ w).alloc _).alloc _
  have bB := Blk.new (w.alloc (.cells #[.int .i64 a1, .int .i64 b1, .int .i64 c1] 23 (0, 0))) (.cells #[.int .i64 a2, .int .i64 b2, .int .i64 c2] 23 (0, 0))
  rw [World.size_alloc] at bB
  obtain ⟨aA, cA, rfl, hcA⟩ := hva
  obtain ⟨n, hn⟩ : ∃ n, ss.length = n := ⟨_, rfl⟩
  obtain ⟨kn, hkn'⟩ : ∃ n, K.length = n := ⟨_, rfl⟩
  rw [hn, hkn']
  rw [hkn'] at hkl
  have hret : ∀ w', Keeps (fun _ => False) w w' → PlaysPost w (.returned (.bool true)) w' := fun w' k => ⟨rfl, k⟩
  generalize hPost : PlaysPost w = Post at *
  replace hS1 := hid hS1; replace hS2 := hid hS2; replace hR1 := hid hR1; replace hR2 := hid hR2; replace kA := hid kA; replace bB := hid bB; replace hcA := hid hcA; replace hn := hid hn; replace hkn' := hid hkn'; replace hK := hid hK; replace hJ0 := hid hJ0; replace hJ := hid hJ; replace hret := hid hret; replace hkv := hid hkv; replace hPost := hid hPost
  go_enter Tryz.func41, Tryz.ntmps41
  go_upto_region 3 with (first
    | (go_at_call 16; first
        | (refine (hS1.out _).mono ?_; rintro e w1 ⟨rfl, k1⟩; have gb1 := k1.blk bB.out (fun f => f); replace gb1 := hid gb1; replace k1 := hid (kA.out.step k1); clear hS1)
        | (refine (hS2.out _).mono ?_; rintro e w3 ⟨rfl, k3⟩; replace k3 := hid k3))
    | (go_at_call 46; first
        | (refine (hR1.out _).mono ?_; rintro e w2 ⟨ra, rfl, hA⟩; have gb2 := hA.k.blk gb1.out (fun f => f); have f0 := gb2.cell 0; have f1 := gb2.cell 1; have f2 := gb2.cell 2; simp at f0 f1 f2; clear gb2; replace hA := hid hA; clear hR1)
        | (refine (hR2.out _).mono ?_; rintro e w4 ⟨rb, rfl, hB⟩; replace hB := hid hB)))
  obtain ⟨v, p, q, m, g5a, g5b, g2, hCl⟩ := both_w (J := J 0) k1.out hA.out k3.out hB.out hJ0.out (hJ.out.1 0)
  clear f0 f1 f2 gb1 hS2 hR2 k1 hA k3 hB kA bB hJ0
  replace hCl := hid hCl
  go_upto_region 9 with (first
    | (go_at_call 47; refine hCl.out.mono ?_; rintro e w5 ⟨rfl, d4, hC2⟩; replace hC2 := hid hC2)
    | (go_at_call 77; refine hC2.out.mono ?_; rintro e w6 ⟨rfl, d3, hL⟩; replace hL := hid hL)
    | (go_at_call 78; refine hL.out.mono ?_; rintro e w7 ⟨rfl, hD⟩; replace hD := hid hD)
    | (go_at_call 19; refine (num_w _ _).mono ?_; rintro e w' ⟨rfl, rfl⟩))
  go_wp2
  clear hC2 hL g5a g5b g2 d4 d3 hCl
  go_loopw [13] (fun i wr => ∃ k : Nat, k ≤ n ∧ i = .int .i64 k ∧ Duo (J k) w wr ra rb) (fun i _ => n - (intOf i).toNat)
  case atStart => exact ⟨0, by omega, rfl, hD.out⟩
  case round =>
    obtain ⟨k, hk1, rfl, hDu⟩ := hrel
    clear hD
    replace hDu := hid hDu
    by_cases hkn : k < n
    · by_cases hM : k < 3000
      · have hki : (k : Int) < n := by omega
        have hkM : (k : Int) < 3000 := by omega
        rcases hcA.out with hx | ⟨g, o, rfl, hcs⟩
        · exfalso
          have hn' := hn.out
          rw [hx] at hn'
          simp at hn'
          omega
        have hkl' : k < ss.length := by rw [hn.out]; exact hkn
        obtain ⟨q0, q1, q2, q3, q4, q5, q6⟩ := hcs k hkl'
        clear hcs hcA
        generalize ss[k] = s at *
        have hStA := fun (hm : s.k ∈ K) W (hW : Duo (J k) w W ra rb) => hW.step hJ.out hK.out hM s hm q5 q6 (fun hne g hg => q6.own_lt hne g hg)
        have hStB := fun (hm : s.k ∈ K) W (hW : Duo (J k) w W ra rb) => (hW.swap.step hJ.out hK.out hM s hm q5 q6 (fun hne g hg => q6.own_lt hne g hg)).mono fun e w' (x : e = .returned (.bool true) ∧ Duo (J (k + 1)) w w' rb ra) => (⟨x.1, x.2.swap⟩ : e = .returned (.bool true) ∧ Duo (J (k + 1)) w w' ra rb)
        obtain ⟨sk, sn, swho, stwo, sd, sl⟩ := s
        simp only [StepR.v, stepV, Nat.add_zero] at q0 q1 q2 q3 q4 hStA hStB
        have hc5 := fun W (hW : Duo (J k) w W ra rb) => (⟨hW.k.cellF q0 (fun f => f), hW.k.cellF q1 (fun f => f), hW.k.cellF q2 (fun f => f), hW.k.cellF q3 (fun f => f), hW.k.cellF q4 (fun f => f)⟩ : W.cell? ⟨g, o + k * 5, none⟩ = some (.int .i64 sk) ∧ W.cell? ⟨g, o + k * 5 + 1, none⟩ = some (.int .i64 sn) ∧ W.cell? ⟨g, o + k * 5 + 2, none⟩ = some (.bool swho) ∧ W.cell? ⟨g, o + k * 5 + 3, none⟩ = some (.bool stwo) ∧ W.cell? ⟨g, o + k * 5 + 4, none⟩ = some sd)
        have hck := fun W (hW : Duo (J k) w W ra rb) i (hi : i < kn) => hW.k.cellF (hkv.out i (by rw [hkn'.out]; exact hi)) (fun f => f)
        clear q0 q1 q2 q3 q4 q5 q6
        replace hStA := hid hStA; replace hStB := hid hStB; replace hc5 := hid hc5; replace hck := hid hck
        go_wp2
        go_loopw [14, 15] (fun b j wq => ∃ i : Nat, i ≤ kn ∧ j = .int .i64 i ∧ b = .bool (decide (sk ∈ K.take i)) ∧ Duo (J k) w wq ra rb) (fun _ j _ => kn - (intOf j).toNat)
        case atStart => exact ⟨0, by omega, rfl, by simp, hDu.out⟩
        case round =>
          obtain ⟨i, hi1, rfl, rfl, hDq⟩ := hrel
          clear hDu
          by_cases hik : i < kn
          · have hii : (i : Int) < kn := by omega
            obtain ⟨c0, _, _, _, _⟩ := hc5.out _ hDq
            have ck := hck.out _ hDq i hik
            have hkl3 : i < K.length := by rw [hkn'.out]; exact hik
            have htk : K.take (i + 1) = K.take i ++ [K[i]] := by
              rw [List.take_add_one, List.getElem?_eq_getElem hkl3]; rfl
            by_cases hin : sk ∈ K.take i
            · have hb : decide (sk ∈ K.take i) = true := decide_eq_true hin
              have hb2 : decide (sk ∈ K.take (i + 1)) = true := decide_eq_true (by rw [htk]; exact List.mem_append_left _ hin)
              generalize K[i] = ki at *
              rw [hb]
              have hfin : ∀ m, ∃ i' : Nat, i' ≤ kn ∧ Value.int .i64 ((i : Int) + 1) = .int .i64 i' ∧ Value.bool true = .bool (decide (sk ∈ K.take i')) ∧ Duo (J k) w (wr.drewN m) ra rb := fun m => ⟨i + 1, by omega, by go_num, by rw [hb2], hDq.calm ((Keeps.refl _ _).drewN m)⟩
              clear htk hb hb2 hin
              replace hDq := hid hDq; replace hfin := hid hfin
              go_upto_region 16 with fail
              go_quiet (fail)
              go_wp2
              exact ⟨hfin.out _, by simp [intOf]; omega⟩
            · have hb : decide (sk ∈ K.take i) = false := decide_eq_false hin
              have hb2 : decide (sk ∈ K.take (i + 1)) = decide (K[i] = sk) := by
                rw [htk]
                refine decide_eq_decide.2 ⟨fun h => (List.mem_append.1 h).elim (fun x => absurd x hin) (fun x => (List.mem_singleton.1 x).symm), fun h => List.mem_append_right _ (List.mem_singleton.2 h.symm)⟩
              generalize K[i] = ki at *
              rw [hb]
              have hfin : ∀ m, ∃ i' : Nat, i' ≤ kn ∧ Value.int .i64 ((i : Int) + 1) = .int .i64 i' ∧ Value.bool (decide (ki = sk)) = .bool (decide (sk ∈ K.take i')) ∧ Duo (J k) w (wr.drewN m) ra rb := fun m => ⟨i + 1, by omega, by go_num, by rw [hb2], hDq.calm ((Keeps.refl _ _).drewN m)⟩
              clear htk hb hb2 hin
              have hii3 : 0 ≤ (i : Int) ∧ (i : Int) < kn := by omega
              have hkk3 : 0 ≤ (k : Int) ∧ (k : Int) < n := by omega
              replace hDq := hid hDq; replace hfin := hid hfin
              go_upto_region 16 with fail
              go_quiet (fail)
              go_wp2
              exact ⟨hfin.out _, by simp [intOf]; omega⟩
          · have hii : ¬ (i : Int) < kn := by omega
            have hie : i = kn := by omega
            subst hie
            have htk : K.take i = K := List.take_of_length_le (by rw [hkn'.out]; exact Nat.le_refl _)
            rw [htk]
            obtain ⟨c0, c1, c2, c3, c4⟩ := hc5.out _ hDq
            have hfin : ∀ W, Duo (J (k + 1)) w W ra rb → ∃ k' : Nat, k' ≤ n ∧ Value.int .i64 ((k : Int) + 1) = .int .i64 k' ∧ Duo (J k') w W ra rb := fun W h => ⟨k + 1, by omega, by go_num, h⟩
            have hkk3 : 0 ≤ (k : Int) ∧ (k : Int) < n := by omega
            by_cases hin : sk ∈ K
            · have hb : decide (sk ∈ K) = true := decide_eq_true hin
              rw [hb]
              have hA1 := hStA.out hin _ hDq
              have hB1 := hStB.out hin _ hDq
              clear htk hb hin
              cases stwo
              · clear hB1 hStA hStB
                replace hDq := hid hDq; replace hfin := hid hfin; replace hA1 := hid hA1
                go_wp2_with (go_at_call 79; refine hA1.out.mono ?_; rintro e w8 ⟨rfl, hD8⟩; replace hD8 := hid hD8)
                exact ⟨hfin.out _ hD8.out, by simp [intOf]; omega⟩
              · clear hA1 hStA hStB
                replace hDq := hid hDq; replace hfin := hid hfin; replace hB1 := hid hB1
                go_wp2_with (go_at_call 79; refine hB1.out.mono ?_; rintro e w8 ⟨rfl, hD8⟩; replace hD8 := hid hD8)
                exact ⟨hfin.out _ hD8.out, by simp [intOf]; omega⟩
            · have hb : decide (sk ∈ K) = false := decide_eq_false hin
              rw [hb]
              clear htk hb hin
              replace hDq := hid hDq; replace hfin := hid hfin
              go_wp2
              exact ⟨hfin.out _ (hDq.out.weak (hJ.out.2 k)), by simp [intOf]; omega⟩
      · have hki : (k : Int) < n := by omega
        have hkM : ¬ (k : Int) < 3000 := by omega
        go_wp2
        exact hret.out _ hDu.out.k
    · have hki : ¬ (k : Int) < n := by omega
      go_wp2
      exact hret.out _ hDu.out.k
end Go.Vk
