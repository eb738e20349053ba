/- The walks of TakeBlock, TakeNode of package pool. The walks of DropBlock, DropNode of package pool. The walks of left of a bitmap, Left of package pool. The walk of Left of package pool. The walk of Clear of package pool. -/
import Derived.Test.YtceodjgajkimnaaGreatMI
import Derived.Lib.Tables
set_option linter.unusedVariables false

namespace Go.Vk
open Go.RowKit Go.Proofs

section
variable {w : World} {C : TxC} {M : TxM} {X : Nat → Prop} {en : Bool}
theorem TxRep.get_len (h : TxRep w C M en X) (b : Nat) (hb : b < C.G.blocks) : (M.get C b).length = 512 := by
  obtain ⟨own, xc, h1, h2, h3⟩ := h
  have hov : ovOf own = M.own := funext h2
  unfold TxM.get getB cmtB
  rw [← hov]
  unfold ovOf
  cases hf : own.find? (·.key == b) with
  | some e => exact (h1.hx.ok e (List.mem_of_find?_eq_some hf)).len
  | none =>
    cases hf' : C.ov.find? (·.key == b) with
    | some e => exact (h1.ho.ok e (List.mem_of_find?_eq_some hf')).len
    | none => exact h1.hd.now_length _ (by have := h1.gn; omega)
theorem txState_read (C : TxC) (M : TxM) (b : Nat) (en : Bool) : txState (M.read C b).D C.G.life (M.read C b).sp en = txState M.D C.G.life M.sp en := by
  unfold txState goneB TxM.read
  dsimp only
  rw [getD'_burnt, getD'_life]
theorem state_m (h : TxRep w C M en X) : Calls Tryz.prog 18 #[.pointer (some ⟨C.t, 0, none⟩)] w fun e w' => e = .returned (.int .i64 (txState M.D C.G.life M.sp en : Nat)) ∧ ∃ m, w' = w.drewN m := by
  obtain ⟨own, xc, h1, h2, h3⟩ := h
  exact state_w h1.ht h1.hs h1.hd
theorem TxRep.notF (h : TxRep w C M en X) {i : Nat} (hi : X i) : i ∉ C.F ∧ i ≠ C.t ∧ i ≠ C.mx := by
  obtain ⟨own, xc, h1, _⟩ := h
  obtain ⟨a1, _, a3, _, a5⟩ := h1.xX i hi
  exact ⟨a3, a1, fun e => a5 (by simp [mapFoot, e])⟩
end

/-- A take of a pool: the number, the error. -/
def TxM.take (C : TxC) (M : TxM) (blk lo top first no : Nat) : (Nat × Nat) × TxM := (M.read C blk).takeR C (M.get C blk) blk lo top first no
/-- What a call of a pool leaves. -/
def PoolM (w : World) (C : TxC) (M : TxM) (en : Bool) (X : Nat → Prop) (v : Value) (e : Ending) (w' : World) : Prop :=
  e = .returned v ∧ TxRep w' C M en X ∧ Keeps (fun i => i ∈ C.F ∨ i = C.t ∨ i = C.mx) w w'
section
variable {w : World} {C : TxC} {M : TxM} {X : Nat → Prop} {p : Nat}

set_option maxRecDepth 20000 in
theorem takeB_ok (hp : Blk w p (poolO C.t)) (hpX : X p) (hT : TxRep w C M false X) (h0 : txState M.D C.G.life M.sp false = 0) (hX : ∀ i, X i → i < w.heap.size) (hb : 0 < C.G.blocks) (h1 : (2 + C.G.n / 4) ≤ C.G.blocks) (h3 : C.G.blocks ≤ 4096) :
    Calls Tryz.prog 49 #[.pointer (some ⟨p, 0, none⟩)] w (PoolM w C (M.take C 0 (2 + C.G.n / 4) C.G.blocks 0 60).2 false X (.tuple #[.int .i64 (M.take C 0 (2 + C.G.n / 4) C.G.blocks 0 60).1.1, .int .i64 (M.take C 0 (2 + C.G.n / 4) C.G.blocks 0 60).1.2])) := by
  have hmf : ∀ (fn : Fn) (first cap : Array Value) (w : World), (Instr.makeFunc fn first cap).run Tryz.prog w = .ok (.func fn first cap) w := fun _ _ _ _ => rfl
  have hlen := (hT.get_len 0 hb)
  have hpl := hp.lt
  have hs1 : (w.alloc (errO 0)).heap.size = w.heap.size + 1 := World.size_alloc ..
  have hkA : Keeps (fun _ => False) w (w.alloc (errO 0)) := (Keeps.refl _ w).alloc _
  have hp1 := hkA.blk hp (fun f => f)
  have he1 := Blk.new w (errO 0)
  have hT1 : TxRep (w.alloc (errO 0)) C M false (fresh X w.heap.size) := hT.fresh.quiet hkA (fun _ f => f.elim)
  have p0 := hp1.cell 0
  simp at p0
  have hS := state_m hT1
  rw [h0] at hS
  have hR := fun n => blocks_m (w := (w.alloc (errO 0)).drewN n) (X := fresh X w.heap.size) (hp1.drewN n) (.inl hpX) (hT1.drewN n) h0 hb
  have hPost : ∀ r, M.take C 0 (2 + C.G.n / 4) C.G.blocks 0 60 = r → ∀ W, TxRep W C r.2 false X → Keeps (fun i => i ∈ C.F ∨ i = C.t ∨ i = C.mx) w W →
      PoolM w C (M.take C 0 (2 + C.G.n / 4) C.G.blocks 0 60).2 false X (.tuple #[.int .i64 (M.take C 0 (2 + C.G.n / 4) C.G.blocks 0 60).1.1, .int .i64 (M.take C 0 (2 + C.G.n / 4) C.G.blocks 0 60).1.2]) (.returned (.tuple #[.int .i64 r.1.1, .int .i64 r.1.2])) W := by
    rintro r rfl W x y
    exact ⟨rfl, x, y⟩
  obtain ⟨r, hr⟩ : ∃ r, M.take C 0 (2 + C.G.n / 4) C.G.blocks 0 60 = r := ⟨_, rfl⟩
  replace hPost := hPost r hr
  unfold errO at *
  replace hp := hid hp; replace hpX := hid hpX; replace hT := hid hT; replace hX := hid hX; replace hb := hid hb; replace h1 := hid h1; replace h3 := hid h3; replace hlen := hid hlen; replace hs1 := hid hs1; replace hkA := hid hkA; replace hp1 := hid hp1; replace he1 := hid he1; replace hT1 := hid hT1; replace hS := hid hS; replace hR := hid hR; replace hPost := hid hPost; replace hr := hid hr; replace h0 := hid h0
  go_enter_defers Tryz.func49, Tryz.ntmps49
  go_wp2_with (first
    | (go_at_call 18; refine hS.out.mono ?_; rintro e w' ⟨rfl, n, rfl⟩)
    | (go_at_call 53; refine (pdemand_ok _).mono ?_; rintro e w3 ⟨rfl, rfl⟩))
  refine (hR.out n).mono ?_
  rintro e w2 ⟨m, g, k, rfl, h4, h5, h6, h7, h8, h9, h10, h11⟩
  have hwz : ((w.alloc (.cells #[.int .i64 0] 34 (0, 0))).drewN n).heap.size = w.heap.size + 1 := hs1.out
  have hgl := h9.lt
  have hml := h8.lt
  have hk2 : Keeps (· ∈ C.F) w w2 := ((hkA.out.mono (fun _ _ f => f.elim)).drewN n).step h11
  have hebF : w.heap.size ∉ C.F := (hT1.out.notF (.inr (Nat.le_refl _))).1
  have hp2 := h11.blk (hp1.out.drewN n) (hT.out.notF hpX.out).1
  have he2 := h11.blk (he1.out.drewN n) hebF
  have hT2 : TxRep w2 C (M.read C 0) false (fun i => X i ∨ i = w.heap.size ∨ i = m ∨ i = g) := h10.client (fun i hi => by
    rcases hi with x | x | x | x
    · exact .inl (.inl (.inl x))
    · exact .inl (.inl (.inr (by omega)))
    · exact .inl (.inl (.inr (by omega)))
    · exact .inl (.inl (.inr (by omega))))
  have hX2 : ∀ i, (X i ∨ i = w.heap.size ∨ i = m ∨ i = g) → i < w2.heap.size := by
    rintro i (x | x | x | x)
    · have := hX.out i x; have := hk2.size; omega
    · have := he2.lt; omega
    · omega
    · omega
  have hTk := take_m h8 hp2 h9 hlen.out 60 (by decide) hT2 (by rw [txState_read]; exact h0.out) hX2 hb.out (.inr (.inr (.inl rfl))) (.inl hpX.out) (.inr (.inr (.inr rfl))) h6 (by omega) (by omega) h1.out h3.out
  have hr' : (M.read C 0).takeR C (M.get C 0) 0 (2 + C.G.n / 4) C.G.blocks 0 60 = r := hr.out
  rw [hr'] at hTk
  have hFin : ∀ (e : Ending) (W : World), TakeR w2 C r (fun i => X i ∨ i = w.heap.size ∨ i = m ∨ i = g) g e W → e = (if r.1.2 = 0 then .returned (.int .i64 r.1.1) else .panicked [{ v := refV r.1.2, recovered := false }]) ∧ Blk W w.heap.size (.cells #[.int .i64 0] 34 (0, 0)) ∧ TxRep W C r.2 false (fun i => X i ∨ i = w.heap.size) ∧
      Keeps (fun i => i ∈ C.F ∨ i = C.t ∨ i = C.mx) w W ∧ (r.1.2 ≠ 0 → r.1.1 = 0) := by
    rintro e W ⟨x1, x2, x3, x4⟩
    have hno := hT2.notF (i := w.heap.size) (.inr (.inl rfl))
    refine ⟨x1, x3.blk he2 ?_, x2.client ?_, ?_, x4⟩
    · rintro (x | x | x | x)
      · exact hno.1 x
      · exact hno.2.1 x
      · exact hno.2.2 x
      · omega
    · rintro i (x | x)
      · exact .inl (.inl x)
      · exact .inl (.inr (.inl x))
    · exact (hk2.mono (fun i _ hi => .inl hi)).trans x3 (fun i hi hq => by
        rcases hq with x | x | x | x
        · exact .inl x
        · exact .inr (.inl x)
        · exact .inr (.inr x)
        · omega)
  clear h6 h7 h8 h9 h10 h11 hgl hml hp2 he2 hT2 hX2 hr' hk2
  by_cases hz : r.1.2 = 0
  · simp only [if_pos hz] at hFin
    rw [hz] at hPost
    replace hFin := hid hFin; replace hTk := hid hTk; replace hz := hid hz; replace hebF := hid hebF; replace hwz := hid hwz
    go_wp2_with (go_at_call 92; refine hTk.out.mono ?_; intro e w3 ht; obtain ⟨rfl, t1, t2, t3, t4⟩ := hFin.out _ _ ht; clear ht; have tc := t1.cell 0; have tf := t1.frz 0; simp at tc; replace t1 := hid t1; replace t2 := hid t2; replace t3 := hid t3; replace t4 := hid t4)
    have te := t1.out.setCell 0 (.int .i64 0)
    have tT := t2.out.quiet ((Keeps.refl (· = w.heap.size) w3).setCell (p := ⟨w.heap.size, 0, none⟩) (.inl rfl) (.int .i64 0)) (fun i e => .inr e)
    have tK := t3.out.setCell (p := ⟨w.heap.size, 0, none⟩) (.inr (Nat.le_refl _)) (.int .i64 0)
    have tc4 := te.cell 0
    simp at tc4
    refine leaves_cons (f := 93) (args := #[.pointer (some ⟨w.heap.size, 0, none⟩)]) (by simp) (by simp [go_sem]) ?_
    refine (takeB_idle ⟨w.heap.size, 0, none⟩ _).mono ?_
    rintro e u' w'' ⟨rfl, rfl, rfl⟩
    have hQ := hPost.out _ (tT.client (fun i hi => .inl (.inl hi))) tK
    simp [Leaves, settle, results, Tryz.results49, go_sem, tc4]
    exact hQ
  · simp only [if_neg hz] at hFin
    replace hFin := hid hFin; replace hTk := hid hTk; replace hz := hid hz; replace hebF := hid hebF; replace hwz := hid hwz
    go_wp2_with (go_at_call 92; refine hTk.out.mono ?_; intro e w3 ht; obtain ⟨rfl, t1, t2, t3, t4⟩ := hFin.out _ _ ht; clear ht; replace t1 := hid t1; replace t2 := hid t2; replace t3 := hid t3; replace t4 := hid t4)
    refine leaves_cons (f := 93) (args := #[.pointer (some ⟨w.heap.size, 0, none⟩)]) (by simp) (by simp [go_sem]) ?_
    refine (takeB_ref w.heap.size 0 r.1.2 _ t1.out).mono ?_
    rintro e u' w4 ⟨rfl, rfl, t5, t6⟩
    have tT := t2.out.quiet t6 (fun i e => .inr e)
    have tK := t3.out.trans t6 (fun i hi e => by omega)
    have tc4 := t5.cell 0
    simp at tc4
    have hQ := hPost.out _ (tT.client (fun i hi => .inl (.inl hi))) tK
    rw [t4.out hz.out] at hQ
    simp [Leaves, settle, results, Tryz.results49, go_sem, tc4]
    exact hQ

set_option maxRecDepth 20000 in
theorem takeN_ok (hp : Blk w p (poolO C.t)) (hpX : X p) (hT : TxRep w C M false X) (h0 : txState M.D C.G.life M.sp false = 0) (hX : ∀ i, X i → i < w.heap.size) (hb : 1 < C.G.blocks) (h1 : 0 ≤ C.G.n) (h3 : C.G.n ≤ 4096) :
    Calls Tryz.prog 48 #[.pointer (some ⟨p, 0, none⟩)] w (PoolM w C (M.take C 1 0 C.G.n 1 61).2 false X (.tuple #[.int .i64 (M.take C 1 0 C.G.n 1 61).1.1, .int .i64 (M.take C 1 0 C.G.n 1 61).1.2])) := by
  have hmf : ∀ (fn : Fn) (first cap : Array Value) (w : World), (Instr.makeFunc fn first cap).run Tryz.prog w = .ok (.func fn first cap) w := fun _ _ _ _ => rfl
  have hlen := (hT.get_len 1 hb)
  have hpl := hp.lt
  have hs1 : (w.alloc (errO 0)).heap.size = w.heap.size + 1 := World.size_alloc ..
  have hkA : Keeps (fun _ => False) w (w.alloc (errO 0)) := (Keeps.refl _ w).alloc _
  have hp1 := hkA.blk hp (fun f => f)
  have he1 := Blk.new w (errO 0)
  have hT1 : TxRep (w.alloc (errO 0)) C M false (fresh X w.heap.size) := hT.fresh.quiet hkA (fun _ f => f.elim)
  have p0 := hp1.cell 0
  simp at p0
  have hS := state_m hT1
  rw [h0] at hS
  have hR := fun n => nodes_m (w := (w.alloc (errO 0)).drewN n) (X := fresh X w.heap.size) (hp1.drewN n) (.inl hpX) (hT1.drewN n) h0 hb
  have hPost : ∀ r, M.take C 1 0 C.G.n 1 61 = r → ∀ W, TxRep W C r.2 false X → Keeps (fun i => i ∈ C.F ∨ i = C.t ∨ i = C.mx) w W →
      PoolM w C (M.take C 1 0 C.G.n 1 61).2 false X (.tuple #[.int .i64 (M.take C 1 0 C.G.n 1 61).1.1, .int .i64 (M.take C 1 0 C.G.n 1 61).1.2]) (.returned (.tuple #[.int .i64 r.1.1, .int .i64 r.1.2])) W := by
    rintro r rfl W x y
    exact ⟨rfl, x, y⟩
  obtain ⟨r, hr⟩ : ∃ r, M.take C 1 0 C.G.n 1 61 = r := ⟨_, rfl⟩
  replace hPost := hPost r hr
  unfold errO at *
  replace hp := hid hp; replace hpX := hid hpX; replace hT := hid hT; replace hX := hid hX; replace hb := hid hb; replace h1 := hid h1; replace h3 := hid h3; replace hlen := hid hlen; replace hs1 := hid hs1; replace hkA := hid hkA; replace hp1 := hid hp1; replace he1 := hid he1; replace hT1 := hid hT1; replace hS := hid hS; replace hR := hid hR; replace hPost := hid hPost; replace hr := hid hr; replace h0 := hid h0
  go_enter_defers Tryz.func48, Tryz.ntmps48
  go_wp2_with (first
    | (go_at_call 18; refine hS.out.mono ?_; rintro e w' ⟨rfl, n, rfl⟩)
    | (go_at_call 53; refine (pdemand_ok _).mono ?_; rintro e w3 ⟨rfl, rfl⟩))
  refine (hR.out n).mono ?_
  rintro e w2 ⟨m, g, k, rfl, h4, h5, h6, h7, h8, h9, h10, h11⟩
  have hwz : ((w.alloc (.cells #[.int .i64 0] 34 (0, 0))).drewN n).heap.size = w.heap.size + 1 := hs1.out
  have hgl := h9.lt
  have hml := h8.lt
  have hk2 : Keeps (· ∈ C.F) w w2 := ((hkA.out.mono (fun _ _ f => f.elim)).drewN n).step h11
  have hebF : w.heap.size ∉ C.F := (hT1.out.notF (.inr (Nat.le_refl _))).1
  have hp2 := h11.blk (hp1.out.drewN n) (hT.out.notF hpX.out).1
  have he2 := h11.blk (he1.out.drewN n) hebF
  have hT2 : TxRep w2 C (M.read C 1) false (fun i => X i ∨ i = w.heap.size ∨ i = m ∨ i = g) := h10.client (fun i hi => by
    rcases hi with x | x | x | x
    · exact .inl (.inl (.inl x))
    · exact .inl (.inl (.inr (by omega)))
    · exact .inl (.inl (.inr (by omega)))
    · exact .inl (.inl (.inr (by omega))))
  have hX2 : ∀ i, (X i ∨ i = w.heap.size ∨ i = m ∨ i = g) → i < w2.heap.size := by
    rintro i (x | x | x | x)
    · have := hX.out i x; have := hk2.size; omega
    · have := he2.lt; omega
    · omega
    · omega
  have hTk := take_m h8 hp2 h9 hlen.out 61 (by decide) hT2 (by rw [txState_read]; exact h0.out) hX2 hb.out (.inr (.inr (.inl rfl))) (.inl hpX.out) (.inr (.inr (.inr rfl))) h6 (by omega) (by omega) h1.out h3.out
  have hr' : (M.read C 1).takeR C (M.get C 1) 1 0 C.G.n 1 61 = r := hr.out
  rw [hr'] at hTk
  have hFin : ∀ (e : Ending) (W : World), TakeR w2 C r (fun i => X i ∨ i = w.heap.size ∨ i = m ∨ i = g) g e W → e = (if r.1.2 = 0 then .returned (.int .i64 r.1.1) else .panicked [{ v := refV r.1.2, recovered := false }]) ∧ Blk W w.heap.size (.cells #[.int .i64 0] 34 (0, 0)) ∧ TxRep W C r.2 false (fun i => X i ∨ i = w.heap.size) ∧
      Keeps (fun i => i ∈ C.F ∨ i = C.t ∨ i = C.mx) w W ∧ (r.1.2 ≠ 0 → r.1.1 = 0) := by
    rintro e W ⟨x1, x2, x3, x4⟩
    have hno := hT2.notF (i := w.heap.size) (.inr (.inl rfl))
    refine ⟨x1, x3.blk he2 ?_, x2.client ?_, ?_, x4⟩
    · rintro (x | x | x | x)
      · exact hno.1 x
      · exact hno.2.1 x
      · exact hno.2.2 x
      · omega
    · rintro i (x | x)
      · exact .inl (.inl x)
      · exact .inl (.inr (.inl x))
    · exact (hk2.mono (fun i _ hi => .inl hi)).trans x3 (fun i hi hq => by
        rcases hq with x | x | x | x
        · exact .inl x
        · exact .inr (.inl x)
        · exact .inr (.inr x)
        · omega)
  clear h6 h7 h8 h9 h10 h11 hgl hml hp2 he2 hT2 hX2 hr' hk2
  by_cases hz : r.1.2 = 0
  · simp only [if_pos hz] at hFin
    rw [hz] at hPost
    replace hFin := hid hFin; replace hTk := hid hTk; replace hz := hid hz; replace hebF := hid hebF; replace hwz := hid hwz
    go_wp2_with (go_at_call 92; refine hTk.out.mono ?_; intro e w3 ht; obtain ⟨rfl, t1, t2, t3, t4⟩ := hFin.out _ _ ht; clear ht; have tc := t1.cell 0; have tf := t1.frz 0; simp at tc; replace t1 := hid t1; replace t2 := hid t2; replace t3 := hid t3; replace t4 := hid t4)
    have te := t1.out.setCell 0 (.int .i64 0)
    have tT := t2.out.quiet ((Keeps.refl (· = w.heap.size) w3).setCell (p := ⟨w.heap.size, 0, none⟩) (.inl rfl) (.int .i64 0)) (fun i e => .inr e)
    have tK := t3.out.setCell (p := ⟨w.heap.size, 0, none⟩) (.inr (Nat.le_refl _)) (.int .i64 0)
    have tc4 := te.cell 0
    simp at tc4
    refine leaves_cons (f := 91) (args := #[.pointer (some ⟨w.heap.size, 0, none⟩)]) (by simp) (by simp [go_sem]) ?_
    refine (takeN_idle ⟨w.heap.size, 0, none⟩ _).mono ?_
    rintro e u' w'' ⟨rfl, rfl, rfl⟩
    have hQ := hPost.out _ (tT.client (fun i hi => .inl (.inl hi))) tK
    simp [Leaves, settle, results, Tryz.results48, go_sem, tc4]
    exact hQ
  · simp only [if_neg hz] at hFin
    replace hFin := hid hFin; replace hTk := hid hTk; replace hz := hid hz; replace hebF := hid hebF; replace hwz := hid hwz
    go_wp2_with (go_at_call 92; refine hTk.out.mono ?_; intro e w3 ht; obtain ⟨rfl, t1, t2, t3, t4⟩ := hFin.out _ _ ht; clear ht; replace t1 := hid t1; replace t2 := hid t2; replace t3 := hid t3; replace t4 := hid t4)
    refine leaves_cons (f := 91) (args := #[.pointer (some ⟨w.heap.size, 0, none⟩)]) (by simp) (by simp [go_sem]) ?_
    refine (takeN_ref w.heap.size 0 r.1.2 _ t1.out).mono ?_
    rintro e u' w4 ⟨rfl, rfl, t5, t6⟩
    have tT := t2.out.quiet t6 (fun i e => .inr e)
    have tK := t3.out.trans t6 (fun i hi e => by omega)
    have tc4 := t5.cell 0
    simp at tc4
    have hQ := hPost.out _ (tT.client (fun i hi => .inl (.inl hi))) tK
    rw [t4.out hz.out] at hQ
    simp [Leaves, settle, results, Tryz.results48, go_sem, tc4]
    exact hQ
variable {en : Bool}

set_option maxRecDepth 20000 in
theorem takeB_bad (hp : Blk w p (poolO C.t)) (hT : TxRep w C M en X) (hne : txState M.D C.G.life M.sp en ≠ 0) :
    Calls Tryz.prog 49 #[.pointer (some ⟨p, 0, none⟩)] w (PoolM w C M en X (.tuple #[.int .i64 0, .int .i64 (txState M.D C.G.life M.sp en : Nat)])) := by
  have hmf : ∀ (fn : Fn) (first cap : Array Value) (w : World), (Instr.makeFunc fn first cap).run Tryz.prog w = .ok (.func fn first cap) w := fun _ _ _ _ => rfl
  have hpl := hp.lt
  have hkA : Keeps (fun _ => False) w (w.alloc (errO 0)) := (Keeps.refl _ w).alloc _
  have hp1 := hkA.blk hp (fun f => f)
  have he1 := Blk.new w (errO 0)
  have hT1 : TxRep (w.alloc (errO 0)) C M en (fresh X w.heap.size) := (hT.client (Y := fresh X w.heap.size) (fun _ hi => hi)).quiet hkA (fun _ f => f.elim)
  have p0 := hp1.cell 0
  simp at p0
  have hS := state_m hT1
  generalize hst : txState M.D C.G.life M.sp en = st at hS hne
  have hPost : ∀ W, TxRep W C M en X → Keeps (fun i => i ∈ C.F ∨ i = C.t ∨ i = C.mx) w W → PoolM w C M en X (.tuple #[.int .i64 0, .int .i64 st]) (.returned (.tuple #[.int .i64 0, .int .i64 st])) W := fun W x y => ⟨rfl, x, y⟩
  generalize PoolM w C M en X (.tuple #[.int .i64 0, .int .i64 st]) = Post at hPost ⊢
  unfold errO at *
  replace hp := hid hp; replace hT := hid hT; replace hkA := hid hkA; replace hp1 := hid hp1; replace he1 := hid he1; replace hT1 := hid hT1; replace hS := hid hS; replace hPost := hid hPost; replace hne := hid hne; replace hst := hid hst
  go_enter_defers Tryz.func49, Tryz.ntmps49
  go_wp2_with (first
    | (go_at_call 18; refine hS.out.mono ?_; rintro e w' ⟨rfl, n, rfl⟩)
    | (go_at_call 53; refine (pdemand_bad _ st hne.out).mono ?_; rintro e w3 ⟨rfl, rfl⟩))
  refine leaves_cons (f := 93) (args := #[.pointer (some ⟨w.heap.size, 0, none⟩)]) (by simp) (by simp [go_sem]) ?_
  refine (takeB_ref w.heap.size 0 st _ (he1.out.drewN n)).mono ?_
  rintro e u' w4 ⟨rfl, rfl, t5, t6⟩
  have tT := (hT1.out.drewN n).quiet t6 (fun i e => .inr (by omega))
  have tK : Keeps (fun i => i ∈ C.F ∨ i = C.t ∨ i = C.mx) w w4 := ((hkA.out.mono (fun _ _ f => f.elim)).drewN n).trans t6 (fun i hi e => by omega)
  have tc4 := t5.cell 0
  simp at tc4
  have hQ := hPost.out _ (tT.client (fun i hi => .inl (.inl hi))) tK
  simp [Leaves, settle, results, Tryz.results49, go_sem, tc4]
  exact hQ

set_option maxRecDepth 20000 in
theorem takeN_bad (hp : Blk w p (poolO C.t)) (hT : TxRep w C M en X) (hne : txState M.D C.G.life M.sp en ≠ 0) :
    Calls Tryz.prog 48 #[.pointer (some ⟨p, 0, none⟩)] w (PoolM w C M en X (.tuple #[.int .i64 0, .int .i64 (txState M.D C.G.life M.sp en : Nat)])) := by
  have hmf : ∀ (fn : Fn) (first cap : Array Value) (w : World), (Instr.makeFunc fn first cap).run Tryz.prog w = .ok (.func fn first cap) w := fun _ _ _ _ => rfl
  have hpl := hp.lt
  have hkA : Keeps (fun _ => False) w (w.alloc (errO 0)) := (Keeps.refl _ w).alloc _
  have hp1 := hkA.blk hp (fun f => f)
  have he1 := Blk.new w (errO 0)
  have hT1 : TxRep (w.alloc (errO 0)) C M en (fresh X w.heap.size) := (hT.client (Y := fresh X w.heap.size) (fun _ hi => hi)).quiet hkA (fun _ f => f.elim)
  have p0 := hp1.cell 0
  simp at p0
  have hS := state_m hT1
  generalize hst : txState M.D C.G.life M.sp en = st at hS hne
  have hPost : ∀ W, TxRep W C M en X → Keeps (fun i => i ∈ C.F ∨ i = C.t ∨ i = C.mx) w W → PoolM w C M en X (.tuple #[.int .i64 0, .int .i64 st]) (.returned (.tuple #[.int .i64 0, .int .i64 st])) W := fun W x y => ⟨rfl, x, y⟩
  generalize PoolM w C M en X (.tuple #[.int .i64 0, .int .i64 st]) = Post at hPost ⊢
  unfold errO at *
  replace hp := hid hp; replace hT := hid hT; replace hkA := hid hkA; replace hp1 := hid hp1; replace he1 := hid he1; replace hT1 := hid hT1; replace hS := hid hS; replace hPost := hid hPost; replace hne := hid hne; replace hst := hid hst
  go_enter_defers Tryz.func48, Tryz.ntmps48
  go_wp2_with (first
    | (go_at_call 18; refine hS.out.mono ?_; rintro e w' ⟨rfl, n, rfl⟩)
    | (go_at_call 53; refine (pdemand_bad _ st hne.out).mono ?_; rintro e w3 ⟨rfl, rfl⟩))
  refine leaves_cons (f := 91) (args := #[.pointer (some ⟨w.heap.size, 0, none⟩)]) (by simp) (by simp [go_sem]) ?_
  refine (takeN_ref w.heap.size 0 st _ (he1.out.drewN n)).mono ?_
  rintro e u' w4 ⟨rfl, rfl, t5, t6⟩
  have tT := (hT1.out.drewN n).quiet t6 (fun i e => .inr (by omega))
  have tK : Keeps (fun i => i ∈ C.F ∨ i = C.t ∨ i = C.mx) w w4 := ((hkA.out.mono (fun _ _ f => f.elim)).drewN n).trans t6 (fun i hi e => by omega)
  have tc4 := t5.cell 0
  simp at tc4
  have hQ := hPost.out _ (tT.client (fun i hi => .inl (.inl hi))) tK
  simp [Leaves, settle, results, Tryz.results48, go_sem, tc4]
  exact hQ

set_option maxRecDepth 20000 in
theorem dropB_bad (hp : Blk w p (poolO C.t)) (hT : TxRep w C M en X) (hne : txState M.D C.G.life M.sp en ≠ 0) (b : Int) :
    Calls Tryz.prog 60 #[.pointer (some ⟨p, 0, none⟩), .int .i64 b] w (PoolM w C M en X (.int .i64 (txState M.D C.G.life M.sp en : Nat))) := by
  have hmf : ∀ (fn : Fn) (first cap : Array Value) (w : World), (Instr.makeFunc fn first cap).run Tryz.prog w = .ok (.func fn first cap) w := fun _ _ _ _ => rfl
  have hpl := hp.lt
  have hkA : Keeps (fun _ => False) w (w.alloc (errO 0)) := (Keeps.refl _ w).alloc _
  have hp1 := hkA.blk hp (fun f => f)
  have he1 := Blk.new w (errO 0)
  have hT1 : TxRep (w.alloc (errO 0)) C M en (fresh X w.heap.size) := (hT.client (Y := fresh X w.heap.size) (fun _ hi => hi)).quiet hkA (fun _ f => f.elim)
  have p0 := hp1.cell 0
  simp at p0
  have hS := state_m hT1
  generalize hst : txState M.D C.G.life M.sp en = st at hS hne
  have hPost : ∀ W, TxRep W C M en X → Keeps (fun i => i ∈ C.F ∨ i = C.t ∨ i = C.mx) w W → PoolM w C M en X (.int .i64 st) (.returned (.int .i64 st)) W := fun W x y => ⟨rfl, x, y⟩
  generalize PoolM w C M en X (.int .i64 st) = Post at hPost ⊢
  unfold errO at *
  replace hp := hid hp; replace hT := hid hT; replace hkA := hid hkA; replace hp1 := hid hp1; replace he1 := hid he1; replace hT1 := hid hT1; replace hS := hid hS; replace hPost := hid hPost; replace hne := hid hne; replace hst := hid hst
  go_enter_defers Tryz.func60, Tryz.ntmps60
  go_wp2_with (first
    | (go_at_call 18; refine hS.out.mono ?_; rintro e w' ⟨rfl, n, rfl⟩)
    | (go_at_call 53; refine (pdemand_bad _ st hne.out).mono ?_; rintro e w3 ⟨rfl, rfl⟩))
  refine leaves_cons (f := 105) (args := #[.pointer (some ⟨w.heap.size, 0, none⟩)]) (by simp) (by simp [go_sem]) ?_
  refine (dropB_ref w.heap.size 0 st _ (he1.out.drewN n)).mono ?_
  rintro e u' w4 ⟨rfl, rfl, t5, t6⟩
  have tT := (hT1.out.drewN n).quiet t6 (fun i e => .inr (by omega))
  have tK : Keeps (fun i => i ∈ C.F ∨ i = C.t ∨ i = C.mx) w w4 := ((hkA.out.mono (fun _ _ f => f.elim)).drewN n).trans t6 (fun i hi e => by omega)
  have tc4 := t5.cell 0
  simp at tc4
  have hQ := hPost.out _ (tT.client (fun i hi => .inl (.inl hi))) tK
  simp [Leaves, settle, results, Tryz.results60, go_sem, tc4]
  exact hQ

set_option maxRecDepth 20000 in
theorem dropN_bad (hp : Blk w p (poolO C.t)) (hT : TxRep w C M en X) (hne : txState M.D C.G.life M.sp en ≠ 0) (b : Int) :
    Calls Tryz.prog 59 #[.pointer (some ⟨p, 0, none⟩), .int .i64 b] w (PoolM w C M en X (.int .i64 (txState M.D C.G.life M.sp en : Nat))) := by
  have hmf : ∀ (fn : Fn) (first cap : Array Value) (w : World), (Instr.makeFunc fn first cap).run Tryz.prog w = .ok (.func fn first cap) w := fun _ _ _ _ => rfl
  have hpl := hp.lt
  have hkA : Keeps (fun _ => False) w (w.alloc (errO 0)) := (Keeps.refl _ w).alloc _
  have hp1 := hkA.blk hp (fun f => f)
  have he1 := Blk.new w (errO 0)
  have hT1 : TxRep (w.alloc (errO 0)) C M en (fresh X w.heap.size) := (hT.client (Y := fresh X w.heap.size) (fun _ hi => hi)).quiet hkA (fun _ f => f.elim)
  have p0 := hp1.cell 0
  simp at p0
  have hS := state_m hT1
  generalize hst : txState M.D C.G.life M.sp en = st at hS hne
  have hPost : ∀ W, TxRep W C M en X → Keeps (fun i => i ∈ C.F ∨ i = C.t ∨ i = C.mx) w W → PoolM w C M en X (.int .i64 st) (.returned (.int .i64 st)) W := fun W x y => ⟨rfl, x, y⟩
  generalize PoolM w C M en X (.int .i64 st) = Post at hPost ⊢
  unfold errO at *
  replace hp := hid hp; replace hT := hid hT; replace hkA := hid hkA; replace hp1 := hid hp1; replace he1 := hid he1; replace hT1 := hid hT1; replace hS := hid hS; replace hPost := hid hPost; replace hne := hid hne; replace hst := hid hst
  go_enter_defers Tryz.func59, Tryz.ntmps59
  go_wp2_with (first
    | (go_at_call 18; refine hS.out.mono ?_; rintro e w' ⟨rfl, n, rfl⟩)
    | (go_at_call 53; refine (pdemand_bad _ st hne.out).mono ?_; rintro e w3 ⟨rfl, rfl⟩))
  refine leaves_cons (f := 103) (args := #[.pointer (some ⟨w.heap.size, 0, none⟩)]) (by simp) (by simp [go_sem]) ?_
  refine (dropN_ref w.heap.size 0 st _ (he1.out.drewN n)).mono ?_
  rintro e u' w4 ⟨rfl, rfl, t5, t6⟩
  have tT := (hT1.out.drewN n).quiet t6 (fun i e => .inr (by omega))
  have tK : Keeps (fun i => i ∈ C.F ∨ i = C.t ∨ i = C.mx) w w4 := ((hkA.out.mono (fun _ _ f => f.elim)).drewN n).trans t6 (fun i hi e => by omega)
  have tc4 := t5.cell 0
  simp at tc4
  have hQ := hPost.out _ (tT.client (fun i hi => .inl (.inl hi))) tK
  simp [Leaves, settle, results, Tryz.results59, go_sem, tc4]
  exact hQ

set_option maxRecDepth 20000 in
theorem left_bad (hp : Blk w p (poolO C.t)) (hT : TxRep w C M en X) (hne : txState M.D C.G.life M.sp en ≠ 0) :
    Calls Tryz.prog 20 #[.pointer (some ⟨p, 0, none⟩)] w (PoolM w C M en X (.tuple #[.int .i64 0, .int .i64 0, .int .i64 (txState M.D C.G.life M.sp en : Nat)])) := by
  have hmf : ∀ (fn : Fn) (first cap : Array Value) (w : World), (Instr.makeFunc fn first cap).run Tryz.prog w = .ok (.func fn first cap) w := fun _ _ _ _ => rfl
  have hpl := hp.lt
  have hkA : Keeps (fun _ => False) w (w.alloc (errO 0)) := (Keeps.refl _ w).alloc _
  have hp1 := hkA.blk hp (fun f => f)
  have he1 := Blk.new w (errO 0)
  have hT1 : TxRep (w.alloc (errO 0)) C M en (fresh X w.heap.size) := (hT.client (Y := fresh X w.heap.size) (fun _ hi => hi)).quiet hkA (fun _ f => f.elim)
  have p0 := hp1.cell 0
  simp at p0
  have hS := state_m hT1
  generalize hst : txState M.D C.G.life M.sp en = st at hS hne
  have hPost : ∀ W, TxRep W C M en X → Keeps (fun i => i ∈ C.F ∨ i = C.t ∨ i = C.mx) w W → PoolM w C M en X (.tuple #[.int .i64 0, .int .i64 0, .int .i64 st]) (.returned (.tuple #[.int .i64 0, .int .i64 0, .int .i64 st])) W := fun W x y => ⟨rfl, x, y⟩
  generalize PoolM w C M en X (.tuple #[.int .i64 0, .int .i64 0, .int .i64 st]) = Post at hPost ⊢
  unfold errO at *
  replace hp := hid hp; replace hT := hid hT; replace hkA := hid hkA; replace hp1 := hid hp1; replace he1 := hid he1; replace hT1 := hid hT1; replace hS := hid hS; replace hPost := hid hPost; replace hne := hid hne; replace hst := hid hst
  go_enter_defers Tryz.func20, Tryz.ntmps20
  go_wp2_with (first
    | (go_at_call 18; refine hS.out.mono ?_; rintro e w' ⟨rfl, n, rfl⟩)
    | (go_at_call 53; refine (pdemand_bad _ st hne.out).mono ?_; rintro e w3 ⟨rfl, rfl⟩))
  refine leaves_cons (f := 51) (args := #[.pointer (some ⟨w.heap.size, 0, none⟩)]) (by simp) (by simp [go_sem]) ?_
  refine (left_ref w.heap.size 0 st _ (he1.out.drewN n)).mono ?_
  rintro e u' w4 ⟨rfl, rfl, t5, t6⟩
  have tT := (hT1.out.drewN n).quiet t6 (fun i e => .inr (by omega))
  have tK : Keeps (fun i => i ∈ C.F ∨ i = C.t ∨ i = C.mx) w w4 := ((hkA.out.mono (fun _ _ f => f.elim)).drewN n).trans t6 (fun i hi e => by omega)
  have tc4 := t5.cell 0
  simp at tc4
  have hQ := hPost.out _ (tT.client (fun i hi => .inl (.inl hi))) tK
  simp [Leaves, settle, results, Tryz.results20, go_sem, tc4]
  exact hQ

set_option maxRecDepth 20000 in
theorem clear_bad (hp : Blk w p (poolO C.t)) (hT : TxRep w C M en X) (hne : txState M.D C.G.life M.sp en ≠ 0) :
    Calls Tryz.prog 47 #[.pointer (some ⟨p, 0, none⟩)] w (PoolM w C M en X (.int .i64 (txState M.D C.G.life M.sp en : Nat))) := by
  have hmf : ∀ (fn : Fn) (first cap : Array Value) (w : World), (Instr.makeFunc fn first cap).run Tryz.prog w = .ok (.func fn first cap) w := fun _ _ _ _ => rfl
  have hpl := hp.lt
  have hkA : Keeps (fun _ => False) w (w.alloc (errO 0)) := (Keeps.refl _ w).alloc _
  have hp1 := hkA.blk hp (fun f => f)
  have he1 := Blk.new w (errO 0)
  have hT1 : TxRep (w.alloc (errO 0)) C M en (fresh X w.heap.size) := (hT.client (Y := fresh X w.heap.size) (fun _ hi => hi)).quiet hkA (fun _ f => f.elim)
  have p0 := hp1.cell 0
  simp at p0
  have hS := state_m hT1
  generalize hst : txState M.D C.G.life M.sp en = st at hS hne
  have hPost : ∀ W, TxRep W C M en X → Keeps (fun i => i ∈ C.F ∨ i = C.t ∨ i = C.mx) w W → PoolM w C M en X (.int .i64 st) (.returned (.int .i64 st)) W := fun W x y => ⟨rfl, x, y⟩
  generalize PoolM w C M en X (.int .i64 st) = Post at hPost ⊢
  unfold errO at *
  replace hp := hid hp; replace hT := hid hT; replace hkA := hid hkA; replace hp1 := hid hp1; replace he1 := hid he1; replace hT1 := hid hT1; replace hS := hid hS; replace hPost := hid hPost; replace hne := hid hne; replace hst := hid hst
  go_enter_defers Tryz.func47, Tryz.ntmps47
  go_wp2_with (first
    | (go_at_call 18; refine hS.out.mono ?_; rintro e w' ⟨rfl, n, rfl⟩)
    | (go_at_call 53; refine (pdemand_bad _ st hne.out).mono ?_; rintro e w3 ⟨rfl, rfl⟩))
  refine leaves_cons (f := 89) (args := #[.pointer (some ⟨w.heap.size, 0, none⟩)]) (by simp) (by simp [go_sem]) ?_
  refine (clear_ref w.heap.size 0 st _ (he1.out.drewN n)).mono ?_
  rintro e u' w4 ⟨rfl, rfl, t5, t6⟩
  have tT := (hT1.out.drewN n).quiet t6 (fun i e => .inr (by omega))
  have tK : Keeps (fun i => i ∈ C.F ∨ i = C.t ∨ i = C.mx) w w4 := ((hkA.out.mono (fun _ _ f => f.elim)).drewN n).trans t6 (fun i hi e => by omega)
  have tc4 := t5.cell 0
  simp at tc4
  have hQ := hPost.out _ (tT.client (fun i hi => .inl (.inl hi))) tK
  simp [Leaves, settle, results, Tryz.results47, go_sem, tc4]
  exact hQ
end
end Go.Vk

namespace Go.Vk
open Go.RowKit Go.Proofs

def TxM.dropR (C : TxC) (M : TxM) (bs : List UInt8) (blk i : Nat) : Nat × TxM := if bitOf bs i = true then M.put C blk (flipB bs i) else (62, M)
def TxM.drop (C : TxC) (M : TxM) (blk i : Nat) : Nat × TxM := (M.read C blk).dropR C (M.get C blk) blk i
def DropR (w : World) (C : TxC) (r : Nat × TxM) (X : Nat → Prop) (g : Nat) (e : Ending) (w' : World) : Prop :=
  (e = if r.1 = 0 then .returned (.tuple #[]) else .panicked [{ v := refV r.1, recovered := false }]) ∧ TxRep w' C r.2 false X ∧ Keeps (fun i => i ∈ C.F ∨ i = C.t ∨ i = C.mx ∨ i = g) w w'
section
variable {w : World} {m p blk lo top first g k : Nat} {bs : List UInt8} {C : TxC} {M : TxM} {X : Nat → Prop}
theorem drop_m (hm : Blk w m (bmO p blk lo top first g (512 + k))) (hp : Blk w p (poolO C.t)) (hg : Blk w g (bytesO (bs ++ zeros k))) (hl : bs.length = 512)
    (hT : TxRep w C M false X) (h0 : txState M.D C.G.life M.sp false = 0) (hX : ∀ i, X i → i < w.heap.size) (hb : blk < C.G.blocks) (hXm : X m) (hXp : X p) (hXg : X g) (hmg : m ≠ g) (hpg : p ≠ g)
    (i : Nat) (h3 : i < 4096) (hf : first ≤ 4096) :
    Calls Tryz.prog 104 #[.pointer (some ⟨m, 0, none⟩), .int .i64 (i + first : Nat)] w (DropR w C (M.dropR C bs blk i) X g) := by
  unfold TxM.dropR
  by_cases hb2 : bitOf bs i = true
  · rw [if_pos hb2]
    refine (drop_set hm hp hg hl hT h0 hX hb hXm hXp hXg hmg hpg i h3 hf hb2).mono ?_
    rintro e w' ⟨x1, x2, x3, x4⟩
    exact ⟨x1, x2, x4⟩
  · rw [if_neg hb2]
    refine (drop_free hm hg hl i h3 hf (by simpa using hb2)).mono ?_
    rintro e w' ⟨rfl, n, rfl⟩
    exact ⟨by rw [if_neg (show ¬ ((62 : Nat) = 0) by decide)], hT.drewN n, (Keeps.refl _ w).drewN n⟩
end
section
variable {w : World} {C : TxC} {M : TxM} {X : Nat → Prop} {p : Nat}
theorem layout_m (h : TxRep w C M false X) : Calls Tryz.prog 90 #[.pointer (some ⟨C.t, 0, none⟩)] w fun e w' => e = .returned (.agg #[.int .i64 C.G.lg, .int .i64 (3 + C.G.lg : Nat), .int .i64 C.G.blocks, .int .i64 C.G.n, .int .i64 (2 + C.G.n / 4 : Nat)]) ∧ Keeps (fun _ => False) w w' := by
  obtain ⟨own, xc, h1, _⟩ := h
  exact layout_w h1.ht h1.hs

set_option maxRecDepth 20000 in
theorem dropB_out (hp : Blk w p (poolO C.t)) (hT : TxRep w C M false X) (h0 : txState M.D C.G.life M.sp false = 0) (b : Int) (hb : b < (2 + C.G.n / 4 : Nat) ∨ (C.G.blocks : Int) ≤ b) :
    Calls Tryz.prog 60 #[.pointer (some ⟨p, 0, none⟩), .int .i64 b] w (PoolM w C M false X (.int .i64 11)) := by
  have hmf : ∀ (fn : Fn) (first cap : Array Value) (w : World), (Instr.makeFunc fn first cap).run Tryz.prog w = .ok (.func fn first cap) w := fun _ _ _ _ => rfl
  have hfd : ∀ (a b c d e : Value) (w : World), (Instr.field 124 (.agg #[a, b, c, d, e]) 3).run Tryz.prog w = .ok d w := fun a b c d e w => by kernel_rfl
  have hpl := hp.lt
  have hs1 : (w.alloc (errO 0)).heap.size = w.heap.size + 1 := World.size_alloc ..
  have hkA : Keeps (fun _ => False) w (w.alloc (errO 0)) := (Keeps.refl _ w).alloc _
  have hp1 := hkA.blk hp (fun f => f)
  have he1 := Blk.new w (errO 0)
  have hT1 : TxRep (w.alloc (errO 0)) C M false (fresh X w.heap.size) := hT.fresh.quiet hkA (fun _ f => f.elim)
  have p0 := hp1.cell 0
  simp at p0
  have hS := state_m hT1
  rw [h0] at hS
  have hL := fun n => layout_m (hT1.drewN n)
  unfold errO at *
  have hPost : ∀ W, TxRep W C M false X → Keeps (fun i => i ∈ C.F ∨ i = C.t ∨ i = C.mx) w W → PoolM w C M false X (.int .i64 11) (.returned (.int .i64 11)) W := fun W x y => ⟨rfl, x, y⟩
  generalize PoolM w C M false X (.int .i64 11) = Post at hPost ⊢
  have hkP : ∀ W, Keeps (fun _ => False) (w.alloc (.cells #[.int .i64 0] 34 (0, 0))) W → W.cell? ⟨w.heap.size, 0, none⟩ = some (.int .i64 0) ∧ (∀ i, W.frozen? ⟨w.heap.size, i, none⟩ = false) ∧ w.heap.size < W.heap.size ∧
      ∀ W', Keeps (fun _ => False) (W.setCell ⟨w.heap.size, 0, none⟩ (.int .i64 11)) W' → Post (.returned (.int .i64 11)) W' ∧ W'.cell? ⟨w.heap.size, 0, none⟩ = some (.int .i64 11) := fun W x => by
    have h1 := x.blk he1 (fun f => f)
    refine ⟨by have := h1.cell 0; simpa using this, h1.frz, h1.lt, fun W' y => ?_⟩
    have h2 := y.blk (h1.setCell 0 (.int .i64 11)) (fun f => f)
    refine ⟨hPost _ ?_ ?_, by have := h2.cell 0; simpa using this⟩
    · exact ((((hT1.quiet x (fun _ f => f.elim)).quiet ((Keeps.refl (· = w.heap.size) W).setCell (p := ⟨w.heap.size, 0, none⟩) (.inl rfl) _) (fun i e => .inr (by omega)))).quiet y (fun _ f => f.elim)).client (fun i hi => .inl (.inl hi))
    · exact (((hkA.step x).mono (fun _ _ f => f.elim)).setCell (p := ⟨w.heap.size, 0, none⟩) (.inr (Nat.le_refl _)) _).step (y.mono fun _ _ f => f.elim)
  generalize 2 + C.G.n / 4 = dt at hL hb
  generalize 3 + C.G.lg = v1 at hL
  replace hp := hid hp; replace hT := hid hT; replace hkA := hid hkA; replace hp1 := hid hp1; replace he1 := hid he1; replace hT1 := hid hT1; replace hS := hid hS; replace hPost := hid hPost; replace hs1 := hid hs1; replace hL := hid hL; replace hkP := hid hkP; replace h0 := hid h0
  go_enter_defers Tryz.func60, Tryz.ntmps60
  go_wp2_with (first
    | (go_at_call 18; refine hS.out.mono ?_; rintro e w' ⟨rfl, n, rfl⟩; obtain ⟨j1, j2, j3, j4⟩ := hkP.out _ ((Keeps.refl (fun _ => False) _).drewN n); replace j4 := hid j4)
    | (go_at_call 53; refine (pdemand_ok _).mono ?_; rintro e w3 ⟨rfl, rfl⟩)
    | (go_at_call 90; refine (hL.out _).mono ?_; rintro e w3 ⟨rfl, hk3⟩; have hk5 := (((Keeps.refl (fun _ => False) _).drewN n).step hk3); obtain ⟨k1, k2, k3, k4⟩ := hkP.out w3 hk5; clear hk3; replace k4 := hid k4; replace hk5 := hid hk5))
  all_goals
    refine leaves_cons (f := 105) (args := #[.pointer (some ⟨w.heap.size, 0, none⟩)]) (by simp) (by simp [go_sem]) ?_
    refine (dropB_idle ⟨w.heap.size, 0, none⟩ _).mono ?_
    rintro e u' w'' ⟨rfl, rfl, rfl⟩
    obtain ⟨hQ, hc⟩ := k4.out _ ((Keeps.refl _ _).alloc (.cells #[.int .i64 C.G.lg, .int .i64 v1, .int .i64 C.G.blocks, .int .i64 C.G.n, .int .i64 dt] 124 (0, 0)))
    simp [Leaves, settle, results, Tryz.results60, go_sem, hc]
    exact hQ

set_option maxRecDepth 20000 in
theorem dropN_out (hp : Blk w p (poolO C.t)) (hT : TxRep w C M false X) (h0 : txState M.D C.G.life M.sp false = 0) (b : Int) (hb : b < 1 ∨ (C.G.n : Int) < b) :
    Calls Tryz.prog 59 #[.pointer (some ⟨p, 0, none⟩), .int .i64 b] w (PoolM w C M false X (.int .i64 11)) := by
  have hmf : ∀ (fn : Fn) (first cap : Array Value) (w : World), (Instr.makeFunc fn first cap).run Tryz.prog w = .ok (.func fn first cap) w := fun _ _ _ _ => rfl
  have hfd : ∀ (a b c d e : Value) (w : World), (Instr.field 124 (.agg #[a, b, c, d, e]) 3).run Tryz.prog w = .ok d w := fun a b c d e w => by kernel_rfl
  have hpl := hp.lt
  have hs1 : (w.alloc (errO 0)).heap.size = w.heap.size + 1 := World.size_alloc ..
  have hkA : Keeps (fun _ => False) w (w.alloc (errO 0)) := (Keeps.refl _ w).alloc _
  have hp1 := hkA.blk hp (fun f => f)
  have he1 := Blk.new w (errO 0)
  have hT1 : TxRep (w.alloc (errO 0)) C M false (fresh X w.heap.size) := hT.fresh.quiet hkA (fun _ f => f.elim)
  have p0 := hp1.cell 0
  simp at p0
  have hS := state_m hT1
  rw [h0] at hS
  have hL := fun n => layout_m (hT1.drewN n)
  unfold errO at *
  have hPost : ∀ W, TxRep W C M false X → Keeps (fun i => i ∈ C.F ∨ i = C.t ∨ i = C.mx) w W → PoolM w C M false X (.int .i64 11) (.returned (.int .i64 11)) W := fun W x y => ⟨rfl, x, y⟩
  generalize PoolM w C M false X (.int .i64 11) = Post at hPost ⊢
  have hkP : ∀ W, Keeps (fun _ => False) (w.alloc (.cells #[.int .i64 0] 34 (0, 0))) W → W.cell? ⟨w.heap.size, 0, none⟩ = some (.int .i64 0) ∧ (∀ i, W.frozen? ⟨w.heap.size, i, none⟩ = false) ∧ w.heap.size < W.heap.size ∧
      ∀ W', Keeps (fun _ => False) (W.setCell ⟨w.heap.size, 0, none⟩ (.int .i64 11)) W' → Post (.returned (.int .i64 11)) W' ∧ W'.cell? ⟨w.heap.size, 0, none⟩ = some (.int .i64 11) := fun W x => by
    have h1 := x.blk he1 (fun f => f)
    refine ⟨by have := h1.cell 0; simpa using this, h1.frz, h1.lt, fun W' y => ?_⟩
    have h2 := y.blk (h1.setCell 0 (.int .i64 11)) (fun f => f)
    refine ⟨hPost _ ?_ ?_, by have := h2.cell 0; simpa using this⟩
    · exact ((((hT1.quiet x (fun _ f => f.elim)).quiet ((Keeps.refl (· = w.heap.size) W).setCell (p := ⟨w.heap.size, 0, none⟩) (.inl rfl) _) (fun i e => .inr (by omega)))).quiet y (fun _ f => f.elim)).client (fun i hi => .inl (.inl hi))
    · exact (((hkA.step x).mono (fun _ _ f => f.elim)).setCell (p := ⟨w.heap.size, 0, none⟩) (.inr (Nat.le_refl _)) _).step (y.mono fun _ _ f => f.elim)
  generalize 2 + C.G.n / 4 = dt at hL
  generalize 3 + C.G.lg = v1 at hL
  replace hp := hid hp; replace hT := hid hT; replace hkA := hid hkA; replace hp1 := hid hp1; replace he1 := hid he1; replace hT1 := hid hT1; replace hS := hid hS; replace hPost := hid hPost; replace hs1 := hid hs1; replace hL := hid hL; replace hkP := hid hkP; replace h0 := hid h0
  go_enter_defers Tryz.func59, Tryz.ntmps59
  by_cases hb1 : b < 1
  ·
    go_wp2_with (first
      | (go_at_call 18; refine hS.out.mono ?_; rintro e w' ⟨rfl, n, rfl⟩; obtain ⟨j1, j2, j3, j4⟩ := hkP.out _ ((Keeps.refl (fun _ => False) _).drewN n); replace j4 := hid j4)
      | (go_at_call 53; refine (pdemand_ok _).mono ?_; rintro e w3 ⟨rfl, rfl⟩)
      | (go_at_call 90; refine (hL.out _).mono ?_; rintro e w3 ⟨rfl, hk3⟩; have hk5 := (((Keeps.refl (fun _ => False) _).drewN n).step hk3); obtain ⟨k1, k2, k3, k4⟩ := hkP.out w3 hk5; clear hk3; replace k4 := hid k4; replace hk5 := hid hk5))
    refine leaves_cons (f := 103) (args := #[.pointer (some ⟨w.heap.size, 0, none⟩)]) (by simp) (by simp [go_sem]) ?_
    refine (dropN_idle ⟨w.heap.size, 0, none⟩ _).mono ?_
    rintro e u' w'' ⟨rfl, rfl, rfl⟩
    obtain ⟨hQ, hc⟩ := j4.out _ (Keeps.refl _ _)
    simp [Leaves, settle, results, Tryz.results59, go_sem, hc]
    exact hQ
  ·
    have hb2 : (C.G.n : Int) < b := by omega
    go_wp2_with (first
      | (go_at_call 18; refine hS.out.mono ?_; rintro e w' ⟨rfl, n, rfl⟩; obtain ⟨j1, j2, j3, j4⟩ := hkP.out _ ((Keeps.refl (fun _ => False) _).drewN n); replace j4 := hid j4)
      | (go_at_call 53; refine (pdemand_ok _).mono ?_; rintro e w3 ⟨rfl, rfl⟩)
      | (go_at_call 90; refine (hL.out _).mono ?_; rintro e w3 ⟨rfl, hk3⟩; have hk5 := (((Keeps.refl (fun _ => False) _).drewN n).step hk3); obtain ⟨k1, k2, k3, k4⟩ := hkP.out w3 hk5; clear hk3; replace k4 := hid k4; replace hk5 := hid hk5))
    refine leaves_cons (f := 103) (args := #[.pointer (some ⟨w.heap.size, 0, none⟩)]) (by simp) (by simp [go_sem]) ?_
    refine (dropN_idle ⟨w.heap.size, 0, none⟩ _).mono ?_
    rintro e u' w'' ⟨rfl, rfl, rfl⟩
    obtain ⟨hQ, hc⟩ := k4.out _ (Keeps.refl _ _)
    simp [Leaves, settle, results, Tryz.results59, go_sem, hc]
    exact hQ

set_option maxRecDepth 20000 in
theorem dropB_ok (hp : Blk w p (poolO C.t)) (hpX : X p) (hT : TxRep w C M false X) (h0 : txState M.D C.G.life M.sp false = 0) (hX : ∀ i, X i → i < w.heap.size) (hb : 0 < C.G.blocks) (h3 : C.G.blocks ≤ 4096) (i : Nat) (hi : 2 + C.G.n / 4 ≤ i ∧ i < C.G.blocks) :
    Calls Tryz.prog 60 #[.pointer (some ⟨p, 0, none⟩), .int .i64 (i : Nat)] w (PoolM w C (M.drop C 0 i).2 false X (.int .i64 (M.drop C 0 i).1)) := by
  have hmf : ∀ (fn : Fn) (first cap : Array Value) (w : World), (Instr.makeFunc fn first cap).run Tryz.prog w = .ok (.func fn first cap) w := fun _ _ _ _ => rfl
  have hfd : ∀ (a b c d e : Value) (w : World), (Instr.field 124 (.agg #[a, b, c, d, e]) 3).run Tryz.prog w = .ok d w := fun a b c d e w => by kernel_rfl
  have hpl := hp.lt
  have hs1 : (w.alloc (errO 0)).heap.size = w.heap.size + 1 := World.size_alloc ..
  have hkA : Keeps (fun _ => False) w (w.alloc (errO 0)) := (Keeps.refl _ w).alloc _
  have hp1 := hkA.blk hp (fun f => f)
  have he1 := Blk.new w (errO 0)
  have hT1 : TxRep (w.alloc (errO 0)) C M false (fresh X w.heap.size) := hT.fresh.quiet hkA (fun _ f => f.elim)
  have p0 := hp1.cell 0
  simp at p0
  have hS := state_m hT1
  rw [h0] at hS
  have hL := fun n => layout_m (hT1.drewN n)
  unfold errO at *
  have hlen := (hT.get_len 0 hb)
  have hR := fun W (x : Keeps (fun _ => False) (w.alloc (.cells #[.int .i64 0] 34 (0, 0))) W) => blocks_m (w := W) (X := fresh X w.heap.size) (x.blk hp1 (fun f => f)) (.inl hpX) (hT1.quiet x (fun _ f => f.elim)) h0 hb
  have hPost : ∀ r, M.drop C 0 i = r → ∀ W, TxRep W C r.2 false X → Keeps (fun i => i ∈ C.F ∨ i = C.t ∨ i = C.mx) w W →
      PoolM w C (M.drop C 0 i).2 false X (.int .i64 (M.drop C 0 i).1) (.returned (.int .i64 r.1)) W := by
    rintro r rfl W x y
    exact ⟨rfl, x, y⟩
  obtain ⟨r, hr⟩ : ∃ r, M.drop C 0 i = r := ⟨_, rfl⟩
  replace hPost := hPost r hr
  have hDrop : ∀ W, Keeps (fun _ => False) (w.alloc (.cells #[.int .i64 0] 34 (0, 0))) W → ∀ e w2, ReadM W C M (fresh X w.heap.size) p 0 (2 + C.G.n / 4) (C.G.blocks) 0 e w2 → ∃ m, e = .returned (.pointer (some ⟨m, 0, none⟩)) ∧
      Calls Tryz.prog 104 #[.pointer (some ⟨m, 0, none⟩), .int .i64 (i + 0 : Nat)] w2 (fun e w3 => e = (if r.1 = 0 then .returned (.tuple #[]) else .panicked [{ v := refV r.1, recovered := false }]) ∧ Blk w3 w.heap.size (.cells #[.int .i64 0] 34 (0, 0)) ∧ TxRep w3 C r.2 false (fun i => X i ∨ i = w.heap.size) ∧
      Keeps (fun i => i ∈ C.F ∨ i = C.t ∨ i = C.mx) w w3) := by
    rintro W hkW e w2 ⟨m, g, k, rfl, h4, h5, h6, h7, h8, h9, h10, h11⟩
    have hwz : w.heap.size + 1 ≤ W.heap.size := by have := hkW.size; omega
    have hgl := h9.lt
    have hml := h8.lt
    have hk2 : Keeps (· ∈ C.F) w w2 := ((hkA.step hkW).mono (fun _ _ f => f.elim)).step h11
    have hebF : w.heap.size ∉ C.F := (hT1.notF (.inr (Nat.le_refl _))).1
    have hp2 := h11.blk (hkW.blk hp1 (fun f => f)) (hT.notF hpX).1
    have he2 := h11.blk (hkW.blk he1 (fun f => f)) hebF
    have hT2 : TxRep w2 C (M.read C 0) false (fun i => X i ∨ i = w.heap.size ∨ i = m ∨ i = g) := h10.client (fun i hi => by
      rcases hi with x | x | x | x
      · exact .inl (.inl (.inl x))
      · exact .inl (.inl (.inr (by omega)))
      · exact .inl (.inl (.inr (by omega)))
      · exact .inl (.inl (.inr (by omega))))
    have hX2 : ∀ i, (X i ∨ i = w.heap.size ∨ i = m ∨ i = g) → i < w2.heap.size := by
      rintro i (x | x | x | x)
      · have := hX i x; have := hk2.size; omega
      · have := he2.lt; omega
      · omega
      · omega
    refine ⟨m, rfl, ?_⟩
    have hTk := drop_m h8 hp2 h9 hlen hT2 (by rw [txState_read]; exact h0) hX2 hb (.inr (.inr (.inl rfl))) (.inl hpX) (.inr (.inr (.inr rfl))) h6 (by omega) i (by omega) (by omega)
    have hr' : (M.read C 0).dropR C (M.get C 0) 0 i = r := hr
    rw [hr'] at hTk
    refine hTk.mono ?_
    rintro e W ⟨x1, x2, x3⟩
    have hno := hT2.notF (i := w.heap.size) (.inr (.inl rfl))
    refine ⟨x1, x3.blk he2 ?_, x2.client ?_, ?_⟩
    · rintro (x | x | x | x)
      · exact hno.1 x
      · exact hno.2.1 x
      · exact hno.2.2 x
      · omega
    · rintro i (x | x)
      · exact .inl (.inl x)
      · exact .inl (.inr (.inl x))
    · exact (hk2.mono (fun i _ hi => .inl hi)).trans x3 (fun i hi hq => by
        rcases hq with x | x | x | x
        · exact .inl x
        · exact .inr (.inl x)
        · exact .inr (.inr x)
        · omega)
  have hi1 : ¬ ((i : Nat) : Int) < ((2 + C.G.n / 4 : Nat) : Int) := by omega
  have hi2 : ¬ (C.G.blocks : Int) ≤ ((i : Nat) : Int) := by omega
  rw [Nat.add_zero] at hDrop
  generalize 2 + C.G.n / 4 = dt at hL hi1 hR hDrop
  generalize 3 + C.G.lg = v1 at hL
  by_cases hz : r.1 = 0
  · simp only [if_pos hz] at hDrop
    rw [hz] at hPost
    replace hp := hid hp; replace hpX := hid hpX; replace hT := hid hT; replace hX := hid hX; replace hb := hid hb; replace h3 := hid h3; replace hlen := hid hlen; replace hs1 := hid hs1; replace hkA := hid hkA; replace hp1 := hid hp1; replace he1 := hid he1; replace hT1 := hid hT1; replace hS := hid hS; replace hR := hid hR; replace hPost := hid hPost; replace hr := hid hr; replace h0 := hid h0; replace hL := hid hL; replace hDrop := hid hDrop; replace hz := hid hz; replace hi := hid hi
    go_enter_defers Tryz.func60, Tryz.ntmps60
    go_wp2_with (first
      | (go_at_call 18; refine hS.out.mono ?_; rintro e w' ⟨rfl, n, rfl⟩)
      | (go_at_call 53; refine (pdemand_ok _).mono ?_; rintro e w3 ⟨rfl, rfl⟩)
      | (go_at_call 90; refine (hL.out _).mono ?_; rintro e w3 ⟨rfl, hk3⟩; have hk5 := (((Keeps.refl (fun _ => False) _).drewN n).step hk3); clear hk3; have p03 := hk5.cellF p0 (fun f => f); replace hk5 := hid hk5))
    refine (hR.out _ (by first | exact hk5.out.alloc _ | exact hk5.out)).mono ?_
    intro e w4 hrr
    obtain ⟨m, rfl, hd⟩ := hDrop.out _ (by first | exact hk5.out.alloc _ | exact hk5.out) _ _ hrr
    clear hrr
    replace hd := hid hd
    go_wp2_with (go_at_call 104; refine hd.out.mono ?_; rintro e w5 ⟨rfl, t1, t2, t3⟩; have tc := t1.cell 0; have tf := t1.frz 0; simp at tc; replace t1 := hid t1; replace t2 := hid t2; replace t3 := hid t3)
    have te := t1.out.setCell 0 (.int .i64 0)
    have tT := t2.out.quiet ((Keeps.refl (· = w.heap.size) w5).setCell (p := ⟨w.heap.size, 0, none⟩) (.inl rfl) (.int .i64 0)) (fun i e => .inr e)
    have tK := t3.out.setCell (p := ⟨w.heap.size, 0, none⟩) (.inr (Nat.le_refl _)) (.int .i64 0)
    have tc4 := te.cell 0
    simp at tc4
    refine leaves_cons (f := 105) (args := #[.pointer (some ⟨w.heap.size, 0, none⟩)]) (by simp) (by simp [go_sem]) ?_
    refine (dropB_idle ⟨w.heap.size, 0, none⟩ _).mono ?_
    rintro e u' w'' ⟨rfl, rfl, rfl⟩
    have hQ := hPost.out _ (tT.client (fun i hi => .inl (.inl hi))) tK
    simp [Leaves, settle, results, Tryz.results60, go_sem, tc4]
    exact hQ
  · simp only [if_neg hz] at hDrop
    replace hp := hid hp; replace hpX := hid hpX; replace hT := hid hT; replace hX := hid hX; replace hb := hid hb; replace h3 := hid h3; replace hlen := hid hlen; replace hs1 := hid hs1; replace hkA := hid hkA; replace hp1 := hid hp1; replace he1 := hid he1; replace hT1 := hid hT1; replace hS := hid hS; replace hR := hid hR; replace hPost := hid hPost; replace hr := hid hr; replace h0 := hid h0; replace hL := hid hL; replace hDrop := hid hDrop; replace hz := hid hz; replace hi := hid hi
    go_enter_defers Tryz.func60, Tryz.ntmps60
    go_wp2_with (first
      | (go_at_call 18; refine hS.out.mono ?_; rintro e w' ⟨rfl, n, rfl⟩)
      | (go_at_call 53; refine (pdemand_ok _).mono ?_; rintro e w3 ⟨rfl, rfl⟩)
      | (go_at_call 90; refine (hL.out _).mono ?_; rintro e w3 ⟨rfl, hk3⟩; have hk5 := (((Keeps.refl (fun _ => False) _).drewN n).step hk3); clear hk3; have p03 := hk5.cellF p0 (fun f => f); replace hk5 := hid hk5))
    refine (hR.out _ (by first | exact hk5.out.alloc _ | exact hk5.out)).mono ?_
    intro e w4 hrr
    obtain ⟨m, rfl, hd⟩ := hDrop.out _ (by first | exact hk5.out.alloc _ | exact hk5.out) _ _ hrr
    clear hrr
    replace hd := hid hd
    go_wp2_with (go_at_call 104; refine hd.out.mono ?_; rintro e w5 ⟨rfl, t1, t2, t3⟩; replace t1 := hid t1; replace t2 := hid t2; replace t3 := hid t3)
    refine leaves_cons (f := 105) (args := #[.pointer (some ⟨w.heap.size, 0, none⟩)]) (by simp) (by simp [go_sem]) ?_
    refine (dropB_ref w.heap.size 0 r.1 _ t1.out).mono ?_
    rintro e u' w6 ⟨rfl, rfl, t5, t6⟩
    have tT := t2.out.quiet t6 (fun i e => .inr e)
    have tK := t3.out.trans t6 (fun i hi e => by omega)
    have tc4 := t5.cell 0
    simp at tc4
    have hQ := hPost.out _ (tT.client (fun i hi => .inl (.inl hi))) tK
    simp [Leaves, settle, results, Tryz.results60, go_sem, tc4]
    exact hQ

set_option maxRecDepth 20000 in
theorem dropN_ok (hp : Blk w p (poolO C.t)) (hpX : X p) (hT : TxRep w C M false X) (h0 : txState M.D C.G.life M.sp false = 0) (hX : ∀ i, X i → i < w.heap.size) (hb : 1 < C.G.blocks) (h3 : C.G.n ≤ 4096) (i : Nat) (hi : i < C.G.n) :
    Calls Tryz.prog 59 #[.pointer (some ⟨p, 0, none⟩), .int .i64 (i + 1 : Nat)] w (PoolM w C (M.drop C 1 i).2 false X (.int .i64 (M.drop C 1 i).1)) := by
  have hmf : ∀ (fn : Fn) (first cap : Array Value) (w : World), (Instr.makeFunc fn first cap).run Tryz.prog w = .ok (.func fn first cap) w := fun _ _ _ _ => rfl
  have hfd : ∀ (a b c d e : Value) (w : World), (Instr.field 124 (.agg #[a, b, c, d, e]) 3).run Tryz.prog w = .ok d w := fun a b c d e w => by kernel_rfl
  have hpl := hp.lt
  have hs1 : (w.alloc (errO 0)).heap.size = w.heap.size + 1 := World.size_alloc ..
  have hkA : Keeps (fun _ => False) w (w.alloc (errO 0)) := (Keeps.refl _ w).alloc _
  have hp1 := hkA.blk hp (fun f => f)
  have he1 := Blk.new w (errO 0)
  have hT1 : TxRep (w.alloc (errO 0)) C M false (fresh X w.heap.size) := hT.fresh.quiet hkA (fun _ f => f.elim)
  have p0 := hp1.cell 0
  simp at p0
  have hS := state_m hT1
  rw [h0] at hS
  have hL := fun n => layout_m (hT1.drewN n)
  unfold errO at *
  have hlen := (hT.get_len 1 hb)
  have hR := fun W (x : Keeps (fun _ => False) (w.alloc (.cells #[.int .i64 0] 34 (0, 0))) W) => nodes_m (w := W) (X := fresh X w.heap.size) (x.blk hp1 (fun f => f)) (.inl hpX) (hT1.quiet x (fun _ f => f.elim)) h0 hb
  have hPost : ∀ r, M.drop C 1 i = r → ∀ W, TxRep W C r.2 false X → Keeps (fun i => i ∈ C.F ∨ i = C.t ∨ i = C.mx) w W →
      PoolM w C (M.drop C 1 i).2 false X (.int .i64 (M.drop C 1 i).1) (.returned (.int .i64 r.1)) W := by
    rintro r rfl W x y
    exact ⟨rfl, x, y⟩
  obtain ⟨r, hr⟩ : ∃ r, M.drop C 1 i = r := ⟨_, rfl⟩
  replace hPost := hPost r hr
  have hDrop : ∀ W, Keeps (fun _ => False) (w.alloc (.cells #[.int .i64 0] 34 (0, 0))) W → ∀ e w2, ReadM W C M (fresh X w.heap.size) p 1 (0) (C.G.n) 1 e w2 → ∃ m, e = .returned (.pointer (some ⟨m, 0, none⟩)) ∧
      Calls Tryz.prog 104 #[.pointer (some ⟨m, 0, none⟩), .int .i64 (i + 1 : Nat)] w2 (fun e w3 => e = (if r.1 = 0 then .returned (.tuple #[]) else .panicked [{ v := refV r.1, recovered := false }]) ∧ Blk w3 w.heap.size (.cells #[.int .i64 0] 34 (0, 0)) ∧ TxRep w3 C r.2 false (fun i => X i ∨ i = w.heap.size) ∧
      Keeps (fun i => i ∈ C.F ∨ i = C.t ∨ i = C.mx) w w3) := by
    rintro W hkW e w2 ⟨m, g, k, rfl, h4, h5, h6, h7, h8, h9, h10, h11⟩
    have hwz : w.heap.size + 1 ≤ W.heap.size := by have := hkW.size; omega
    have hgl := h9.lt
    have hml := h8.lt
    have hk2 : Keeps (· ∈ C.F) w w2 := ((hkA.step hkW).mono (fun _ _ f => f.elim)).step h11
    have hebF : w.heap.size ∉ C.F := (hT1.notF (.inr (Nat.le_refl _))).1
    have hp2 := h11.blk (hkW.blk hp1 (fun f => f)) (hT.notF hpX).1
    have he2 := h11.blk (hkW.blk he1 (fun f => f)) hebF
    have hT2 : TxRep w2 C (M.read C 1) false (fun i => X i ∨ i = w.heap.size ∨ i = m ∨ i = g) := h10.client (fun i hi => by
      rcases hi with x | x | x | x
      · exact .inl (.inl (.inl x))
      · exact .inl (.inl (.inr (by omega)))
      · exact .inl (.inl (.inr (by omega)))
      · exact .inl (.inl (.inr (by omega))))
    have hX2 : ∀ i, (X i ∨ i = w.heap.size ∨ i = m ∨ i = g) → i < w2.heap.size := by
      rintro i (x | x | x | x)
      · have := hX i x; have := hk2.size; omega
      · have := he2.lt; omega
      · omega
      · omega
    refine ⟨m, rfl, ?_⟩
    have hTk := drop_m h8 hp2 h9 hlen hT2 (by rw [txState_read]; exact h0) hX2 hb (.inr (.inr (.inl rfl))) (.inl hpX) (.inr (.inr (.inr rfl))) h6 (by omega) i (by omega) (by omega)
    have hr' : (M.read C 1).dropR C (M.get C 1) 1 i = r := hr
    rw [hr'] at hTk
    refine hTk.mono ?_
    rintro e W ⟨x1, x2, x3⟩
    have hno := hT2.notF (i := w.heap.size) (.inr (.inl rfl))
    refine ⟨x1, x3.blk he2 ?_, x2.client ?_, ?_⟩
    · rintro (x | x | x | x)
      · exact hno.1 x
      · exact hno.2.1 x
      · exact hno.2.2 x
      · omega
    · rintro i (x | x)
      · exact .inl (.inl x)
      · exact .inl (.inr (.inl x))
    · exact (hk2.mono (fun i _ hi => .inl hi)).trans x3 (fun i hi hq => by
        rcases hq with x | x | x | x
        · exact .inl x
        · exact .inr (.inl x)
        · exact .inr (.inr x)
        · omega)
  have hi1 : ¬ ((i + 1 : Nat) : Int) < 1 := by omega
  have hi2 : ¬ (C.G.n : Int) < ((i + 1 : Nat) : Int) := by omega
  generalize 2 + C.G.n / 4 = dt at hL
  generalize 3 + C.G.lg = v1 at hL
  generalize i + 1 = i1 at hi1 hi2 hDrop ⊢
  by_cases hz : r.1 = 0
  · simp only [if_pos hz] at hDrop
    rw [hz] at hPost
    replace hp := hid hp; replace hpX := hid hpX; replace hT := hid hT; replace hX := hid hX; replace hb := hid hb; replace h3 := hid h3; replace hlen := hid hlen; replace hs1 := hid hs1; replace hkA := hid hkA; replace hp1 := hid hp1; replace he1 := hid he1; replace hT1 := hid hT1; replace hS := hid hS; replace hR := hid hR; replace hPost := hid hPost; replace hr := hid hr; replace h0 := hid h0; replace hL := hid hL; replace hDrop := hid hDrop; replace hz := hid hz; replace hi := hid hi
    go_enter_defers Tryz.func59, Tryz.ntmps59
    go_wp2_with (first
      | (go_at_call 18; refine hS.out.mono ?_; rintro e w' ⟨rfl, n, rfl⟩)
      | (go_at_call 53; refine (pdemand_ok _).mono ?_; rintro e w3 ⟨rfl, rfl⟩)
      | (go_at_call 90; refine (hL.out _).mono ?_; rintro e w3 ⟨rfl, hk3⟩; have hk5 := (((Keeps.refl (fun _ => False) _).drewN n).step hk3); clear hk3; have p03 := hk5.cellF p0 (fun f => f); replace hk5 := hid hk5))
    refine (hR.out _ (by first | exact hk5.out.alloc _ | exact hk5.out)).mono ?_
    intro e w4 hrr
    obtain ⟨m, rfl, hd⟩ := hDrop.out _ (by first | exact hk5.out.alloc _ | exact hk5.out) _ _ hrr
    clear hrr
    replace hd := hid hd
    go_wp2_with (go_at_call 104; refine hd.out.mono ?_; rintro e w5 ⟨rfl, t1, t2, t3⟩; have tc := t1.cell 0; have tf := t1.frz 0; simp at tc; replace t1 := hid t1; replace t2 := hid t2; replace t3 := hid t3)
    have te := t1.out.setCell 0 (.int .i64 0)
    have tT := t2.out.quiet ((Keeps.refl (· = w.heap.size) w5).setCell (p := ⟨w.heap.size, 0, none⟩) (.inl rfl) (.int .i64 0)) (fun i e => .inr e)
    have tK := t3.out.setCell (p := ⟨w.heap.size, 0, none⟩) (.inr (Nat.le_refl _)) (.int .i64 0)
    have tc4 := te.cell 0
    simp at tc4
    refine leaves_cons (f := 103) (args := #[.pointer (some ⟨w.heap.size, 0, none⟩)]) (by simp) (by simp [go_sem]) ?_
    refine (dropN_idle ⟨w.heap.size, 0, none⟩ _).mono ?_
    rintro e u' w'' ⟨rfl, rfl, rfl⟩
    have hQ := hPost.out _ (tT.client (fun i hi => .inl (.inl hi))) tK
    simp [Leaves, settle, results, Tryz.results59, go_sem, tc4]
    exact hQ
  · simp only [if_neg hz] at hDrop
    replace hp := hid hp; replace hpX := hid hpX; replace hT := hid hT; replace hX := hid hX; replace hb := hid hb; replace h3 := hid h3; replace hlen := hid hlen; replace hs1 := hid hs1; replace hkA := hid hkA; replace hp1 := hid hp1; replace he1 := hid he1; replace hT1 := hid hT1; replace hS := hid hS; replace hR := hid hR; replace hPost := hid hPost; replace hr := hid hr; replace h0 := hid h0; replace hL := hid hL; replace hDrop := hid hDrop; replace hz := hid hz; replace hi := hid hi
    go_enter_defers Tryz.func59, Tryz.ntmps59
    go_wp2_with (first
      | (go_at_call 18; refine hS.out.mono ?_; rintro e w' ⟨rfl, n, rfl⟩)
      | (go_at_call 53; refine (pdemand_ok _).mono ?_; rintro e w3 ⟨rfl, rfl⟩)
      | (go_at_call 90; refine (hL.out _).mono ?_; rintro e w3 ⟨rfl, hk3⟩; have hk5 := (((Keeps.refl (fun _ => False) _).drewN n).step hk3); clear hk3; have p03 := hk5.cellF p0 (fun f => f); replace hk5 := hid hk5))
    refine (hR.out _ (by first | exact hk5.out.alloc _ | exact hk5.out)).mono ?_
    intro e w4 hrr
    obtain ⟨m, rfl, hd⟩ := hDrop.out _ (by first | exact hk5.out.alloc _ | exact hk5.out) _ _ hrr
    clear hrr
    replace hd := hid hd
    go_wp2_with (go_at_call 104; refine hd.out.mono ?_; rintro e w5 ⟨rfl, t1, t2, t3⟩; replace t1 := hid t1; replace t2 := hid t2; replace t3 := hid t3)
    refine leaves_cons (f := 103) (args := #[.pointer (some ⟨w.heap.size, 0, none⟩)]) (by simp) (by simp [go_sem]) ?_
    refine (dropN_ref w.heap.size 0 r.1 _ t1.out).mono ?_
    rintro e u' w6 ⟨rfl, rfl, t5, t6⟩
    have tT := t2.out.quiet t6 (fun i e => .inr e)
    have tK := t3.out.trans t6 (fun i hi e => by omega)
    have tc4 := t5.cell 0
    simp at tc4
    have hQ := hPost.out _ (tT.client (fun i hi => .inl (.inl hi))) tK
    simp [Leaves, settle, results, Tryz.results59, go_sem, tc4]
    exact hQ
end
end Go.Vk

namespace Go.Vk
open Go.RowKit Go.Proofs

def popc (a : Nat) : Nat := (List.range 8).countP fun j => a.testBit j
theorem pop8_eq : ∀ a : Nat, a < 256 → Lib.pop8 (a : Int) = (popc a : Nat) := by
  have h : (List.range 256).all (fun a : Nat => Lib.pop8 (a : Int) == (popc a : Nat)) = true := by decide +kernel
  intro a ha
  have := List.all_eq_true.1 h a (List.mem_range.2 ha)
  exact eq_of_beq this
theorem ones_w (a : Nat) (ha : a < 256) (w : World) : Calls Tryz.prog 97 #[.int .u8 a] w fun e w' => e = .returned (.int .i64 (popc a)) ∧ w = w' := by
  have hix : 0 ≤ (a : Int) ∧ (a : Int) < 256 := by omega
  have hp := pop8_eq a ha
  have hpl : popc a ≤ 8 := by unfold popc; exact Nat.le_trans List.countP_le_length (by simp)
  have hrun : ∀ w, (Instr.index 9 (.string Lib.pop8tab) (.int .u8 a)).run Tryz.prog w = .ok (.int .u8 (popc a)) w := fun w => by
    rw [← hp]
    exact Lib.run_index_pop8tab (P := Tryz.prog) w _ _ _ (by kernel_rfl) (by omega) (by omega)
  generalize popc a = pc at *
  go_enter Tryz.func97, Tryz.ntmps97
  go_upto_region 1 with fail
  go_step
  refine wpList_exec rfl _ _ (by go_simp; exact ⟨rfl, rfl⟩) ?_
  simp only [Act.put, List.setIfInBounds_toArray, List.set_cons_zero, List.set_cons_succ]
  generalize hc : (ByteArray.mk (List.toArray _)) = c
  obtain rfl : c = Lib.pop8tab := hc.symm.trans (by kernel_rfl)
  clear hc
  refine wpList_exec rfl _ _ (by go_simp; exact ⟨rfl, rfl⟩) ?_
  simp only [Act.put, List.setIfInBounds_toArray, List.set_cons_zero, List.set_cons_succ]
  go_wp2
  go_ret
  exact ⟨rfl, rfl⟩

/-- How many are set from lo on, n of them looked at. -/
def setCnt (bs : List UInt8) (lo n : Nat) : Nat := (List.range' lo n).countP (bitOf bs)
theorem setCnt_le (bs : List UInt8) (lo n : Nat) : setCnt bs lo n ≤ n := by
  unfold setCnt; exact Nat.le_trans List.countP_le_length (by simp)
theorem setCnt_add (bs : List UInt8) (lo n k : Nat) : setCnt bs lo (n + k) = setCnt bs lo n + setCnt bs (lo + n) k := by
  unfold setCnt
  rw [← List.range'_append_1, List.countP_append]
theorem setCnt_one (bs : List UInt8) (i : Nat) : setCnt bs i 1 = if bitOf bs i = true then 1 else 0 := by
  unfold setCnt
  simp [List.range'_one, List.countP_singleton]
theorem setCnt_byte (bs : List UInt8) (i : Nat) (h : i % 8 = 0) : setCnt bs i 8 = popc (byteAt bs (i / 8)) := by
  unfold setCnt popc
  rw [List.range'_eq_map_range, List.countP_map]
  apply List.countP_congr
  intro j hj
  rw [List.mem_range] at hj
  simp only [Function.comp, bitOf]
  rw [show (i + j) / 8 = i / 8 by omega, show (i + j) % 8 = j by omega]
def leftN (bs : List UInt8) (lo top : Nat) : Nat := top - lo - setCnt bs lo (top - lo)

section
variable {w : World} {m p blk lo top first g k : Nat} {bs : List UInt8}
set_option maxHeartbeats 1000000 in
theorem left_w (hm : Blk w m (bmO p blk lo top first g (512 + k))) (hg : Blk w g (bytesO (bs ++ zeros k))) (hl : bs.length = 512) (h1 : lo ≤ top) (h3 : top ≤ 4096) :
    Calls Tryz.prog 55 #[.pointer (some ⟨m, 0, none⟩)] w fun e w' => e = .returned (.int .i64 (leftN bs lo top : Nat)) ∧ ∃ n, w' = w.drewN n := by
  have hH := fun n i hi => has_w (hm.drewN n) (hg.drewN n) hl i hi
  have hCb := fun j hj => byte_cell hg j hj
  have c2 := hm.cell 2
  have c3 := hm.cell 3
  have c5 := hm.cell 5
  simp at c2 c3 c5
  have hw0 : IntKind.i64.wrap ((top : Int) - (lo : Int)) = ((top - lo : Nat) : Int) := by rw [wrap_small (by omega) (by omega)]; omega
  have hres : leftN bs lo top = top - lo - setCnt bs lo (top - lo) := rfl
  generalize leftN bs lo top = res at hres ⊢
  replace hm := hid hm; replace hg := hid hg; replace hH := hid hH; replace hCb := hid hCb; replace hres := hid hres
  go_enter Tryz.func55, Tryz.ntmps55
  go_upto_region 1 with fail
  go_quiet (fail)
  go_wp2
  go_loopw [3, 4] (fun c i wr => ∃ k n : Nat, lo ≤ k ∧ k ≤ top ∧ c = .int .i64 (top - lo - setCnt bs lo (k - lo) : Nat) ∧ i = .int .i64 k ∧ wr = w.drewN n) (fun _ i _ => top - (intOf i).toNat)
  case atStart => exact ⟨lo, nq, by omega, by omega, by simp [setCnt], rfl, rfl⟩
  case round =>
    obtain ⟨k1, n, hk1, hk2, rfl, rfl, rfl⟩ := hrel
    have hle := setCnt_le bs lo (k1 - lo)
    by_cases hlt2 : k1 < top
    · have hki : (k1 : Int) < (top : Int) := by omega
      have hrem : (k1 : Int).tmod 8 = ((k1 % 8 : Nat) : Int) := rfl
      have hadd : setCnt bs lo (k1 + 1 - lo) = setCnt bs lo (k1 - lo) + setCnt bs k1 1 := by rw [show k1 + 1 - lo = (k1 - lo) + 1 by omega, setCnt_add, show lo + (k1 - lo) = k1 by omega]
      have hw1 : IntKind.i64.wrap (((top - lo - setCnt bs lo (k1 - lo) : Nat) : Int) - 1) = ((top - lo - (setCnt bs lo (k1 - lo) + 1) : Nat) : Int) := by rw [wrap_small (by omega) (by omega)]; omega
      by_cases hm8 : k1 % 8 = 0
      · rw [hm8] at hrem
        have hw8 : IntKind.i64.wrap ((k1 : Int) + 8) = (k1 : Int) + 8 := wrap_small (by omega) (by omega)
        by_cases h8 : k1 + 8 ≤ top
        · have h8' : (k1 : Int) + 8 ≤ (top : Int) := by omega
          have hq := tdiv8 k1
          have cb := hCb.out (k1 / 8) (by omega)
          have hix : 0 ≤ ((k1 / 8 : Nat) : Int) ∧ ((k1 / 8 : Nat) : Int) < (512 : Nat) := by omega
          have hby := setCnt_byte bs k1 hm8
          have hOn := ones_w (byteAt bs (k1 / 8)) (byteAt_lt _ _)
          have hadd8 : setCnt bs lo (k1 + 8 - lo) = setCnt bs lo (k1 - lo) + setCnt bs k1 8 := by rw [show k1 + 8 - lo = (k1 - lo) + 8 by omega, setCnt_add, show lo + (k1 - lo) = k1 by omega]
          have hle8 := setCnt_le bs lo (k1 + 8 - lo)
          rw [hadd8, hby] at hle8
          have hwp : IntKind.i64.wrap (((top - lo - setCnt bs lo (k1 - lo) : Nat) : Int) - (popc (byteAt bs (k1 / 8)) : Nat)) = ((top - lo - (setCnt bs lo (k1 - lo) + popc (byteAt bs (k1 / 8))) : Nat) : Int) := by rw [wrap_small (by omega) (by omega)]; omega
          rw [hby] at hadd8
          generalize byteAt bs (k1 / 8) = ba at *
          generalize popc ba = pc at *
          replace hby := hid hby; replace hOn := hid hOn; replace hadd8 := hid hadd8; replace hle8 := hid hle8; replace hadd := hid hadd; replace hw1 := hid hw1; replace hle := hid hle; replace hm8 := hid hm8
          go_wp2_with (go_at_call 97; refine (hOn.out _).mono ?_; rintro e w' ⟨rfl, rfl⟩)
          exact ⟨⟨k1 + 8, n, by omega, by omega, by rw [hadd8.out], by go_num, rfl⟩, by simp [intOf]; omega⟩
        · have h8' : ¬ (k1 : Int) + 8 ≤ (top : Int) := by omega
          have hHk := hH.out n k1 (by omega)
          have hone := setCnt_one bs k1
          cases hbt : bitOf bs k1 with
          | true =>
            rw [hbt] at hHk hone
            rw [if_pos rfl] at hone
            replace hone := hid hone; replace hadd := hid hadd; replace hHk := hid hHk; replace hw1 := hid hw1
            go_wp2_with (go_at_call 98; refine hHk.out.mono ?_; rintro e w' ⟨rfl, n2, rfl⟩)
            refine ⟨⟨k1 + 1, n + n2, by omega, by omega, ?_, by go_num, rfl⟩, by simp [intOf]; omega⟩
            rw [hadd.out, hone.out]; congr 1; omega
          | false =>
            rw [hbt] at hHk hone
            rw [if_neg (by decide)] at hone
            replace hone := hid hone; replace hadd := hid hadd; replace hHk := hid hHk; replace hw1 := hid hw1
            go_wp2_with (go_at_call 98; refine hHk.out.mono ?_; rintro e w' ⟨rfl, n2, rfl⟩)
            refine ⟨⟨k1 + 1, n + n2, by omega, by omega, ?_, by go_num, rfl⟩, by simp [intOf]; omega⟩
            rw [hadd.out, hone.out, Nat.add_zero]
      · have hrem' : ¬ ((k1 % 8 : Nat) : Int) = 0 := by omega
        have hHk := hH.out n k1 (by omega)
        have hone := setCnt_one bs k1
        cases hbt : bitOf bs k1 with
        | true =>
          rw [hbt] at hHk hone
          rw [if_pos rfl] at hone
          replace hone := hid hone; replace hadd := hid hadd; replace hHk := hid hHk; replace hw1 := hid hw1
          go_wp2_with (go_at_call 98; refine hHk.out.mono ?_; rintro e w' ⟨rfl, n2, rfl⟩)
          refine ⟨⟨k1 + 1, n + n2, by omega, by omega, ?_, by go_num, rfl⟩, by simp [intOf]; omega⟩
          rw [hadd.out, hone.out]; congr 1; omega
        | false =>
          rw [hbt] at hHk hone
          rw [if_neg (by decide)] at hone
          replace hone := hid hone; replace hadd := hid hadd; replace hHk := hid hHk; replace hw1 := hid hw1
          go_wp2_with (go_at_call 98; refine hHk.out.mono ?_; rintro e w' ⟨rfl, n2, rfl⟩)
          refine ⟨⟨k1 + 1, n + n2, by omega, by omega, ?_, by go_num, rfl⟩, by simp [intOf]; omega⟩
          rw [hadd.out, hone.out, Nat.add_zero]
    · have hki : ¬ (k1 : Int) < (top : Int) := by omega
      obtain rfl : k1 = top := by omega
      go_wp2
      go_ret
      exact ⟨by rw [hres.out]; rfl, n, rfl⟩
end
end Go.Vk

namespace Go.Vk
open Go.RowKit Go.Proofs

theorem TxM.get_read (C : TxC) (M : TxM) (a b : Nat) : (M.read C a).get C b = M.get C b := by
  unfold TxM.get TxM.read getB cmtB getD' cmtD
  dsimp only
  split
  · rfl
  · split <;> rfl

section
variable {w : World} {C : TxC} {M : TxM} {X : Nat → Prop} {p : Nat}
set_option maxRecDepth 20000 in
theorem left_ok (hp : Blk w p (poolO C.t)) (hpX : X p) (hT : TxRep w C M false X) (h0 : txState M.D C.G.life M.sp false = 0) (hb : 1 < C.G.blocks) (h1 : 2 + C.G.n / 4 ≤ C.G.blocks) (h3 : C.G.blocks ≤ 4096) (h4 : C.G.n ≤ 4096) :
    Calls Tryz.prog 20 #[.pointer (some ⟨p, 0, none⟩)] w (PoolM w C ((M.read C 0).read C 1) false X (.tuple #[.int .i64 (leftN (M.get C 0) (2 + C.G.n / 4) C.G.blocks), .int .i64 (leftN ((M.read C 0).get C 1) 0 C.G.n), .int .i64 0])) := by
  have hmf : ∀ (fn : Fn) (first cap : Array Value) (w : World), (Instr.makeFunc fn first cap).run Tryz.prog w = .ok (.func fn first cap) w := fun _ _ _ _ => rfl
  have hpl := hp.lt
  have hs1 : (w.alloc (errO 0)).heap.size = w.heap.size + 1 := World.size_alloc ..
  have hkA : Keeps (fun _ => False) w (w.alloc (errO 0)) := (Keeps.refl _ w).alloc _
  have hp1 := hkA.blk hp (fun f => f)
  have he1 := Blk.new w (errO 0)
  have hT1 : TxRep (w.alloc (errO 0)) C M false (fresh X w.heap.size) := hT.fresh.quiet hkA (fun _ f => f.elim)
  have p0 := hp1.cell 0
  simp at p0
  have hS := state_m hT1
  rw [h0] at hS
  have hR := fun n => blocks_m (w := (w.alloc (errO 0)).drewN n) (X := fresh X w.heap.size) (hp1.drewN n) (.inl hpX) (hT1.drewN n) h0 (by omega)
  have hpF := (hT.notF hpX).1
  have hebF : w.heap.size ∉ C.F := (hT1.notF (.inr (Nat.le_refl _))).1
  -- what is read of the blocks
  have hA : ∀ n e w2, ReadM ((w.alloc (errO 0)).drewN n) C M (fresh X w.heap.size) p 0 (2 + C.G.n / 4) C.G.blocks 0 e w2 → ∃ m, e = .returned (.pointer (some ⟨m, 0, none⟩)) ∧
      (Calls Tryz.prog 55 #[.pointer (some ⟨m, 0, none⟩)] w2 fun e w' => e = .returned (.int .i64 (leftN (M.get C 0) (2 + C.G.n / 4) C.G.blocks : Nat)) ∧ ∃ n, w' = w2.drewN n) ∧
      (∀ n, Calls Tryz.prog 56 #[.pointer (some ⟨p, 0, none⟩)] (w2.drewN n) (ReadM (w2.drewN n) C (M.read C 0) (fresh X w.heap.size) p 1 0 C.G.n 1)) ∧ Keeps (· ∈ C.F) w w2 ∧ Blk w2 w.heap.size (errO 0) := by
    rintro n e w2 ⟨m, g, k, rfl, a4, a5, a6, a7, a8, a9, a10, a11⟩
    have hk2 : Keeps (· ∈ C.F) w w2 := ((hkA.mono (fun _ _ f => f.elim)).drewN n).step a11
    refine ⟨m, rfl, left_w a8 a9 (hT.get_len 0 (by omega)) h1 h3, fun n2 => ?_, hk2, a11.blk (he1.drewN n) hebF⟩
    have hT2 := a10.client (Y := fresh X w.heap.size) (fun i hi => .inl (.inl hi))
    exact nodes_m ((hk2.blk hp hpF).drewN n2) (.inl hpX) (hT2.drewN n2) (by rw [txState_read]; exact h0) hb
  have hB : ∀ w2 n e w3, Keeps (· ∈ C.F) w w2 → Blk w2 w.heap.size (errO 0) → ReadM (w2.drewN n) C (M.read C 0) (fresh X w.heap.size) p 1 0 C.G.n 1 e w3 → ∃ m, e = .returned (.pointer (some ⟨m, 0, none⟩)) ∧
      (Calls Tryz.prog 55 #[.pointer (some ⟨m, 0, none⟩)] w3 fun e w' => e = .returned (.int .i64 (leftN ((M.read C 0).get C 1) 0 C.G.n : Nat)) ∧ ∃ n, w' = w3.drewN n) ∧
      w3.cell? ⟨w.heap.size, 0, none⟩ = some (.int .i64 0) ∧ (∀ i, w3.frozen? ⟨w.heap.size, i, none⟩ = false) ∧
      (∀ n, ((w3.drewN n).setCell ⟨w.heap.size, 0, none⟩ (.int .i64 0)).cell? ⟨w.heap.size, 0, none⟩ = some (.int .i64 0) ∧ TxRep ((w3.drewN n).setCell ⟨w.heap.size, 0, none⟩ (.int .i64 0)) C ((M.read C 0).read C 1) false X ∧ Keeps (fun i => i ∈ C.F ∨ i = C.t ∨ i = C.mx) w ((w3.drewN n).setCell ⟨w.heap.size, 0, none⟩ (.int .i64 0))) := by
    rintro w2 n e w3 hk2 he2 ⟨m, g, k, rfl, a4, a5, a6, a7, a8, a9, a10, a11⟩
    have hk3 : Keeps (· ∈ C.F) w w3 := (hk2.drewN n).step a11
    have he3 := a11.blk (he2.drewN n) hebF
    have hgl : ((M.read C 0).get C 1).length = 512 := by rw [TxM.get_read]; exact hT.get_len 1 hb
    refine ⟨m, rfl, left_w a8 a9 hgl (Nat.zero_le _) h4, by have := he3.cell 0; simpa using this, he3.frz, fun n2 => ?_⟩
    have he4 := (he3.drewN n2).setCell 0 (.int .i64 0)
    have hT3 := a10.client (Y := fresh X w.heap.size) (fun i hi => .inl (.inl hi))
    refine ⟨by have := he4.cell 0; simpa using this, ?_, ?_⟩
    · exact (((hT3.drewN n2).quiet ((Keeps.refl (· = w.heap.size) _).setCell (p := ⟨w.heap.size, 0, none⟩) (.inl rfl) _) (fun i e => .inr (by omega)))).client (fun i hi => .inl (.inl hi))
    · exact ((hk3.mono (fun _ _ h => .inl h)).drewN n2).setCell (p := ⟨w.heap.size, 0, none⟩) (.inr (Nat.le_refl _)) _
  have hPost : ∀ W, TxRep W C ((M.read C 0).read C 1) false X → Keeps (fun i => i ∈ C.F ∨ i = C.t ∨ i = C.mx) w W →
      PoolM w C ((M.read C 0).read C 1) false X (.tuple #[.int .i64 (leftN (M.get C 0) (2 + C.G.n / 4) C.G.blocks), .int .i64 (leftN ((M.read C 0).get C 1) 0 C.G.n), .int .i64 0]) (.returned (.tuple #[.int .i64 (leftN (M.get C 0) (2 + C.G.n / 4) C.G.blocks), .int .i64 (leftN ((M.read C 0).get C 1) 0 C.G.n), .int .i64 0])) W := fun W x y => ⟨rfl, x, y⟩
  unfold errO at *
  generalize leftN (M.get C 0) (2 + C.G.n / 4) C.G.blocks = l1 at hA hPost ⊢
  generalize leftN ((M.read C 0).get C 1) 0 C.G.n = l2 at hB hPost ⊢
  replace hp := hid hp; replace hpX := hid hpX; replace hT := hid hT; replace hb := hid hb; replace h1 := hid h1; replace h3 := hid h3; replace h4 := hid h4; replace hs1 := hid hs1; replace hkA := hid hkA; replace hp1 := hid hp1; replace he1 := hid he1; replace hT1 := hid hT1; replace hS := hid hS; replace hR := hid hR; replace hPost := hid hPost; replace h0 := hid h0; replace hpF := hid hpF; replace hebF := hid hebF; replace hA := hid hA; replace hB := hid hB
  go_enter_defers Tryz.func20, Tryz.ntmps20
  go_wp2_with (first
    | (go_at_call 18; refine hS.out.mono ?_; rintro e w' ⟨rfl, n, rfl⟩)
    | (go_at_call 53; refine (pdemand_ok _).mono ?_; rintro e w3 ⟨rfl, rfl⟩))
  refine (hR.out n).mono ?_
  intro e w2 hr
  obtain ⟨m, rfl, a1, a2, a3, a4⟩ := hA.out _ _ _ hr
  clear hr
  replace a1 := hid a1; replace a2 := hid a2; replace a3 := hid a3; replace a4 := hid a4
  go_wp2_with (go_at_call 55; refine a1.out.mono ?_; rintro e w' ⟨rfl, n2, rfl⟩)
  refine (a2.out n2).mono ?_
  intro e w3 hr
  obtain ⟨m2, rfl, b1, b2, b3, b4⟩ := hB.out _ _ _ _ a3.out a4.out hr
  clear hr
  replace b1 := hid b1; replace b4 := hid b4
  go_wp2_with (go_at_call 55; refine b1.out.mono ?_; rintro e w' ⟨rfl, n3, rfl⟩)
  obtain ⟨c1, c2, c3⟩ := b4.out n3
  refine leaves_cons (f := 51) (args := #[.pointer (some ⟨w.heap.size, 0, none⟩)]) (by simp) (by simp [go_sem]) ?_
  refine (left_idle ⟨w.heap.size, 0, none⟩ _).mono ?_
  rintro e u' w'' ⟨rfl, rfl, rfl⟩
  have hQ := hPost.out _ c2 c3
  simp [Leaves, settle, results, Tryz.results20, go_sem, c1]
  exact hQ
end
end Go.Vk

namespace Go.Vk
open Go.RowKit Go.Proofs

def orB (bs : List UInt8) (i : Nat) : List UInt8 := bs.set (i / 8) (UInt8.ofNat (byteAt bs (i / 8) ||| 2 ^ (i % 8)))
theorem orB_length (bs : List UInt8) (i : Nat) : (orB bs i).length = bs.length := by unfold orB; simp
theorem or_bit (a r : Nat) (ha : a < 256) (hr : r < 8) : bits .or .u8 (a : Int) (2 ^ min r 8 % 256) = ((a ||| 2 ^ r : Nat) : Int) := by
  rw [pow8 r hr, u8_or_nat a (2 ^ r) ha (pow8_lt r hr)]
theorem bitOf_or (bs : List UInt8) (i j : Nat) (hi : i / 8 < bs.length) : bitOf (orB bs i) j = if j = i then true else bitOf bs j := by
  unfold bitOf orB
  rw [byteAt_set _ _ _ hi]
  have hx : byteAt bs (i / 8) ||| 2 ^ (i % 8) < 256 := Nat.or_lt_two_pow (n := 8) (byteAt_lt _ _) (pow8_lt _ (by omega))
  have hto : (UInt8.ofNat (byteAt bs (i / 8) ||| 2 ^ (i % 8))).toNat = byteAt bs (i / 8) ||| 2 ^ (i % 8) := by
    rw [UInt8.toNat_ofNat']; exact Nat.mod_eq_of_lt hx
  by_cases hq : j / 8 = i / 8
  · rw [if_pos hq, hto, Nat.testBit_or]
    by_cases hji : j = i
    · subst hji
      rw [if_pos rfl, Nat.testBit_two_pow_self]
      simp
    · rw [if_neg hji, Nat.testBit_two_pow_of_ne (by omega), Bool.or_false, hq]
  · rw [if_neg hq, if_neg (fun e => hq (by rw [e]))]
def onesB : Nat → List UInt8
  | 0 => zeros 512
  | k + 1 => orB (onesB k) k
theorem onesB_length : ∀ k, (onesB k).length = 512
  | 0 => List.length_replicate
  | k + 1 => by rw [onesB, orB_length, onesB_length k]
theorem bitOf_zeros (n j : Nat) : bitOf (zeros n) j = false := by
  unfold bitOf byteAt zeros
  rw [List.getD_eq_getElem?_getD, List.getElem?_replicate]
  split <;> simp
theorem bitOf_ones : ∀ k j, k ≤ 4096 → bitOf (onesB k) j = decide (j < k)
  | 0, j, _ => by rw [onesB, bitOf_zeros]; simp
  | k + 1, j, h => by
    rw [onesB, bitOf_or _ _ _ (by rw [onesB_length]; omega), bitOf_ones k j (by omega)]
    by_cases hj : j = k
    · subst hj; simp
    · rw [if_neg hj]; simp only [decide_eq_decide]; omega

def TxM.clear (C : TxC) (M : TxM) : Nat × TxM :=
  if (M.put C 0 (onesB (2 + C.G.n / 4))).1 = 0 then (M.put C 0 (onesB (2 + C.G.n / 4))).2.put C 1 (zeros 512) else M.put C 0 (onesB (2 + C.G.n / 4))
section
variable {w : World} {C : TxC} {M : TxM} {X : Nat → Prop} {p : Nat}
set_option maxRecDepth 100000 in
set_option maxHeartbeats 1600000 in
theorem clear_ok (hp : Blk w p (poolO C.t)) (hpX : X p) (hT : TxRep w C M false X) (h0 : txState M.D C.G.life M.sp false = 0) (hX : ∀ i, X i → i < w.heap.size) (hb : 1 < C.G.blocks) (h4 : 2 + C.G.n / 4 ≤ 4096) (hok : (M.put C 0 (onesB (2 + C.G.n / 4))).1 = 0 → (M.clear C).1 = 0) :
    Calls Tryz.prog 47 #[.pointer (some ⟨p, 0, none⟩)] w (PoolM w C (M.clear C).2 false X (.int .i64 (M.clear C).1)) := by
  have hmf : ∀ (fn : Fn) (first cap : Array Value) (w : World), (Instr.makeFunc fn first cap).run Tryz.prog w = .ok (.func fn first cap) w := fun _ _ _ _ => rfl
  have hfd : ∀ (a b c d e : Value) (w : World), (Instr.field 124 (.agg #[a, b, c, d, e]) 4).run Tryz.prog w = .ok e w := fun a b c d e w => by kernel_rfl
  have hmk := mk512
  have hpl := hp.lt
  have hs1 : (w.alloc (errO 0)).heap.size = w.heap.size + 1 := World.size_alloc ..
  have hkA : Keeps (fun _ => False) w (w.alloc (errO 0)) := (Keeps.refl _ w).alloc _
  have hp1 := hkA.blk hp (fun f => f)
  have he1 := Blk.new w (errO 0)
  have hT1 : TxRep (w.alloc (errO 0)) C M false (fresh X w.heap.size) := hT.fresh.quiet hkA (fun _ f => f.elim)
  have p0 := hp1.cell 0
  simp at p0
  have hS := state_m hT1
  rw [h0] at hS
  have hpF := (hT.notF hpX).1
  have hebF : w.heap.size ∉ C.F := (hT1.notF (.inr (Nat.le_refl _))).1
  unfold errO at *
  have hL : ∀ W, Keeps (fun _ => False) (w.alloc (.cells #[.int .i64 0] 34 (0, 0))) W → Calls Tryz.prog 90 #[.pointer (some ⟨C.t, 0, none⟩)] W fun e w' => e = .returned (.agg #[.int .i64 C.G.lg, .int .i64 (3 + C.G.lg : Nat), .int .i64 C.G.blocks, .int .i64 C.G.n, .int .i64 (2 + C.G.n / 4 : Nat)]) ∧ Keeps (fun _ => False) W w' := fun W x => layout_m (hT1.quiet x (fun _ f => f.elim))
  obtain ⟨r, hr⟩ : ∃ r, M.clear C = r := ⟨_, rfl⟩
  have hr0 := hr
  rw [hr0] at hok
  unfold TxM.clear at hr
  generalize 2 + C.G.n / 4 = dt at hL h4 hr hok
  generalize 3 + C.G.lg = v1 at hL
  replace hp := hid hp; replace hpX := hid hpX; replace hT := hid hT; replace hX := hid hX; replace hb := hid hb; replace hs1 := hid hs1; replace hkA := hid hkA; replace hp1 := hid hp1; replace he1 := hid he1; replace hT1 := hid hT1; replace hS := hid hS; replace h0 := hid h0; replace hpF := hid hpF; replace hebF := hid hebF; replace hL := hid hL; replace hr := hid hr; replace hr0 := hid hr0; replace hok := hid hok
  go_enter_defers Tryz.func47, Tryz.ntmps47
  go_wp2_with (first
    | (go_at_call 18; refine hS.out.mono ?_; rintro e w' ⟨rfl, n, rfl⟩)
    | (go_at_call 53; refine (pdemand_ok _).mono ?_; rintro e w3 ⟨rfl, rfl⟩))
  have hkW : Keeps (fun _ => False) (w.alloc (.cells #[.int .i64 0] 34 (0, 0))) (((w.alloc (.cells #[.int .i64 0] 34 (0, 0))).drewN n).alloc (bytesO (zeros 512))) := ((Keeps.refl (fun _ => False) _).drewN n).alloc _
  have hg2 : Blk (((w.alloc (.cells #[.int .i64 0] 34 (0, 0))).drewN n).alloc (bytesO (zeros 512))) (w.heap.size + 1) (bytesO (onesB 0 ++ zeros 0)) := by
    have := Blk.new ((w.alloc (.cells #[.int .i64 0] 34 (0, 0))).drewN n) (bytesO (zeros 512))
    rw [show ((w.alloc (.cells #[.int .i64 0] 34 (0, 0))).drewN n).heap.size = w.heap.size + 1 from hs1.out] at this
    rw [show onesB 0 ++ zeros 0 = zeros 512 by simp only [onesB]; exact List.append_nil _]
    exact this
  replace hkW := hid hkW; replace hg2 := hid hg2
  refine (hL.out _ hkW.out).mono ?_
  rintro e w3 ⟨rfl, hk3⟩
  have hg3 := hk3.blk hg2.out (fun f => f)
  have hk03 := hkW.out.step hk3
  have hr3 := Keeps.refl (· = w.heap.size + 1) w3
  clear hk3
  replace hg3 := hid hg3; replace hk03 := hid hk03; replace hr3 := hid hr3
  go_wp2
  go_loopw [4, 19] (fun _ c wr => ∃ k, k ≤ dt ∧ c = .int .i64 (k : Nat) ∧ Blk wr (w.heap.size + 1) (bytesO (onesB k ++ zeros 0)) ∧ Keeps (· = w.heap.size + 1) w3 wr) (fun _ c _ => dt - (intOf c).toNat)
  case atStart => exact ⟨0, by omega, rfl, hg3.out, hr3.out⟩
  case round =>
    obtain ⟨k, hk1, rfl, hg4, hk4⟩ := hrel
    by_cases hlt2 : k < dt
    · have hki : (k : Int) < (dt : Int) := by omega
      have hq := tdiv8 k
      have hrm := tmod8 k
      have hll := onesB_length k
      have cb := byte_cell hg4 (k / 8) (by omega)
      have fz := hg4.frz (k / 8)
      have hor := or_bit (byteAt (onesB k) (k / 8)) (k % 8) (byteAt_lt _ _) (by omega)
      have hix : 0 ≤ ((k / 8 : Nat) : Int) ∧ ((k / 8 : Nat) : Int) < (512 : Nat) := by have := h4; omega
      have hB1 : Blk (wr.setCell ⟨w.heap.size + 1, k / 8, none⟩ (.int .u8 (byteAt (onesB k) (k / 8) ||| 2 ^ (k % 8) : Nat))) (w.heap.size + 1) (bytesO (onesB (k + 1) ++ zeros 0)) := byte_set hg4 _ (by have := h4; omega) _ (Nat.or_lt_two_pow (n := 8) (byteAt_lt _ _) (pow8_lt _ (by omega)))
      have hK1 : Keeps (· = w.heap.size + 1) w3 (wr.setCell ⟨w.heap.size + 1, k / 8, none⟩ (.int .u8 (byteAt (onesB k) (k / 8) ||| 2 ^ (k % 8) : Nat))) := hk4.setCell (p := ⟨w.heap.size + 1, k / 8, none⟩) (.inl rfl) _
      generalize byteAt (onesB k) (k / 8) = a at *
      generalize k / 8 = q at *
      generalize k % 8 = rr at *
      replace hg4 := hid hg4; replace hk4 := hid hk4; replace hll := hid hll; replace hB1 := hid hB1; replace hK1 := hid hK1
      go_wp2
      go_region
      go_wp2
      exact ⟨⟨k + 1, by omega, by go_num, hB1.out.drew, hK1.out.drew⟩, by simp [intOf]; omega⟩
    · have hki : ¬ (k : Int) < (dt : Int) := by omega
      obtain rfl : k = dt := by omega
      have hpg : p ≠ w.heap.size + 1 := by omega
      have p03 : wr.cell? ⟨p, 0, none⟩ = some (.pointer (some ⟨C.t, 0, none⟩)) := hk4.cellF (hk03.out.cellF p0 (fun f => f)) hpg
      have hTr : TxRep wr C M false (fun i => X i ∨ i = w.heap.size ∨ i = w.heap.size + 1) := ((hT1.out.quiet hk03.out (fun _ f => f.elim)).quiet hk4 (fun i e => .inr (by omega))).client (fun i hi => by
        rcases hi with x | x | x
        · exact .inl (.inl x)
        · exact .inl (.inr (by omega))
        · exact .inl (.inr (by omega)))
      have her : Blk wr w.heap.size (.cells #[.int .i64 0] 34 (0, 0)) := hk4.blk (hk03.out.blk he1.out (fun f => f)) (by omega)
      have hkr : Keeps (fun i => i ∈ C.F ∨ i = C.t ∨ i = C.mx) w wr := ((hkA.out.step hk03.out).mono (fun _ _ f => f.elim)).trans hk4 (fun i hi e => by omega)
      have hXY : ∀ i, (X i ∨ i = w.heap.size ∨ i = w.heap.size + 1) → i < wr.heap.size := fun i hi => by
        have hx1 := hg4.lt
        rcases hi with x | x | x
        · have := hX.out i x; omega
        · omega
        · omega
      have hll := onesB_length k
      have hPut1 := put_m hTr h0.out hXY 0 (by have := hb.out; omega) (w.heap.size + 1) 0 512 _ (onesB k) hg4 (.inr (.inr rfl)) (by rw [List.length_append, hll]; omega) (by rw [List.drop_zero, List.take_left' hll])
      have hno := fun (i : Nat) (hi : X i ∨ i = w.heap.size ∨ i = w.heap.size + 1) => hTr.notF hi
      have hFe : ∀ W W', Keeps (fun i => i ∈ C.F ∨ i = C.t ∨ i = C.mx) W W' → Blk W w.heap.size (.cells #[.int .i64 0] 34 (0, 0)) → Blk W' w.heap.size (.cells #[.int .i64 0] 34 (0, 0)) := fun W W' x y => x.blk y (by
        obtain ⟨a1, a2, a3⟩ := hno w.heap.size (.inr (.inl rfl))
        rintro (z | z | z)
        · exact a1 z
        · exact a2 z
        · exact a3 z)
      have hFp : ∀ W W', Keeps (fun i => i ∈ C.F ∨ i = C.t ∨ i = C.mx) W W' → W.cell? ⟨p, 0, none⟩ = some (.pointer (some ⟨C.t, 0, none⟩)) → W'.cell? ⟨p, 0, none⟩ = some (.pointer (some ⟨C.t, 0, none⟩)) := fun W W' x y => x.cellF y (by
        obtain ⟨a1, a2, a3⟩ := hno p (.inl hpX.out)
        rintro (z | z | z)
        · exact a1 z
        · exact a2 z
        · exact a3 z)
      have hPut2 : ∀ M2, txState M2.D C.G.life M2.sp false = 0 → ∀ W W', TxRep W C M2 false (fun i => X i ∨ i = w.heap.size ∨ i = w.heap.size + 1) → wr.heap.size ≤ W.heap.size → Keeps (fun _ => False) W W' → ∀ g2, W.heap.size ≤ g2 → Blk W' g2 (bytesO (zeros 512)) →
          Calls Tryz.prog 66 #[.pointer (some ⟨C.t, 0, none⟩), .int .i64 1, .slice (some ⟨g2, 0, none⟩) 512 512] W' (fun e w' => e = .returned (.int .i64 (M2.put C 1 (zeros 512)).1) ∧ TxRep w' C (M2.put C 1 (zeros 512)).2 false (fun i => X i ∨ i = w.heap.size ∨ i = w.heap.size + 1) ∧ Keeps (fun i => i ∈ C.F ∨ i = C.t ∨ i = C.mx) W w') := by
        intro M2 h02 W W' hTW hsz hkk g2 hge hBg
        have hT' : TxRep W' C M2 false (fun i => (X i ∨ i = w.heap.size ∨ i = w.heap.size + 1) ∨ i = g2) := (hTW.client (Y := fun i => (X i ∨ i = w.heap.size ∨ i = w.heap.size + 1) ∨ i = g2) (fun i hi => by
          rcases hi with x | x
          · exact .inl x
          · exact .inr (by omega))).quiet hkk (fun _ f => f.elim)
        have hz : (zeros 512).length = 512 := List.length_replicate
        have := put_m hT' h02 (by
          rintro i (x | x)
          · have := hXY i x; have := hkk.size; omega
          · have := hBg.lt; omega) 1 hb.out g2 0 512 _ (zeros 512) hBg (.inr rfl) (by rw [hz]; omega) (by rw [List.drop_zero]; exact List.take_of_length_le (by rw [hz]; exact Nat.le_refl _))
        refine this.mono ?_
        rintro e w' ⟨x1, x2, x3⟩
        exact ⟨x1, x2.client (fun i hi => .inl (.inl hi)), (hkk.mono (fun _ _ f => f.elim)).step x3⟩
      have hst1 : (M.put C 0 (onesB k)).1 = 0 → txState (M.put C 0 (onesB k)).2.D C.G.life (M.put C 0 (onesB k)).2.sp false = 0 := fun hz => by
        unfold TxM.put at hz ⊢
        split at hz <;> rename_i hc
        · rw [if_pos hc]; exact (txState_read C M 0 false).trans h0.out
        · rw [if_neg hc]
          split at hz <;> rename_i hc2
          · cases hz
          · rw [if_neg hc2]; exact (txState_read C M 0 false).trans h0.out
      have hPost : ∀ W, TxRep W C r.2 false X → Keeps (fun i => i ∈ C.F ∨ i = C.t ∨ i = C.mx) w W → PoolM w C (M.clear C).2 false X (.int .i64 (M.clear C).1) (.returned (.int .i64 r.1)) W := fun W x y => by
        rw [hr0.out]; exact ⟨rfl, x, y⟩
      by_cases hz1 : (M.put C 0 (onesB k)).1 = 0
      · have hc2 := hPut2 _ (hst1 hz1)
        rw [if_pos hz1] at hr
        have hr' := hr.out
        rw [hr'] at hc2
        have hz2 : r.1 = 0 := hok.out hz1
        ·
          rw [hz2] at hc2
          replace hg4 := hid hg4; replace hk4 := hid hk4; replace hTr := hid hTr; replace her := hid her; replace hkr := hid hkr; replace hXY := hid hXY; replace hPut1 := hid hPut1; replace hno := hid hno; replace hFe := hid hFe; replace hFp := hid hFp; replace hPut2 := hid hPut2; replace hst1 := hid hst1; replace hPost := hid hPost; replace hz1 := hid hz1; replace hc2 := hid hc2; replace hz2 := hid hz2; replace hr' := hid hr'
          go_wp2_with (first
            | (go_at_call 66; refine hPut1.out.mono ?_; rintro e w4 ⟨he, t1, t2⟩; rw [hz1.out] at he; subst he; have p4 := hFp.out _ _ t2 p03; replace t1 := hid t1; replace t2 := hid t2)
            | (go_at_call 53; refine (pdemand_ok _).mono ?_; rintro e w3 ⟨rfl, rfl⟩))
          have t1' := t1.out
          have t2' := t2.out
          have hC : ∀ W', Keeps (fun _ => False) w4 W' → ∀ g2, w4.heap.size ≤ g2 → Blk W' g2 (bytesO (zeros 512)) → Calls Tryz.prog 66 #[.pointer (some ⟨C.t, 0, none⟩), .int .i64 1, .slice (some ⟨g2, 0, none⟩) 512 512] W' (fun e w' => e = .returned (.int .i64 (0 : Nat)) ∧
              Blk w' w.heap.size (.cells #[.int .i64 0] 34 (0, 0)) ∧ TxRep w' C r.2 false (fun i => X i ∨ i = w.heap.size ∨ i = w.heap.size + 1) ∧ Keeps (fun i => i ∈ C.F ∨ i = C.t ∨ i = C.mx) w w' ∧ w'.cell? ⟨p, 0, none⟩ = some (.pointer (some ⟨C.t, 0, none⟩))) := fun W' x g2 y z => by
            refine (hc2.out w4 W' t1' t2'.size x g2 y z).mono ?_
            rintro e w' ⟨x1, x2, x3⟩
            exact ⟨x1, hFe.out _ _ x3 (hFe.out _ _ t2' her.out), x2, (hkr.out.step t2').step x3, hFp.out _ _ x3 p4⟩
          have hka : Keeps (fun _ => False) w4 (w4.alloc (bytesO (zeros 512))).drew := ((Keeps.refl _ _).alloc _).drew
          have hba : Blk (w4.alloc (bytesO (zeros 512))).drew w4.heap.size (bytesO (zeros 512)) := (Blk.new w4 _).drew
          have p4d : w4.drew.cell? ⟨p, 0, none⟩ = some (.pointer (some ⟨C.t, 0, none⟩)) := p4
          clear t1' t2'
          replace hC := hid hC; replace hka := hid hka; replace hba := hid hba
          go_region_held3 (fun W => W.cell? ⟨p, 0, none⟩ = some (.pointer (some ⟨C.t, 0, none⟩))) (first | with_reducible exact p4d | with_reducible exact p5 | exact cell_alloc p4d _ | exact cell_alloc p4 _) (first
            | (go_at_call 66; refine (hC.out _ hka.out _ (Nat.le_refl _) hba.out).mono ?_; rintro e w5 ⟨rfl, tE, tR, tK, p5⟩; replace tE := hid tE; replace tR := hid tR; replace tK := hid tK)
            | (go_at_call 53; refine (pdemand_ok _).mono ?_; rintro e w3 ⟨rfl, rfl⟩))
          all_goals
            replace tE := tE.out
            replace tR := tR.out
            replace tK := tK.out
            have te := tE.setCell 0 (.int .i64 0)
            have tT := tR.quiet ((Keeps.refl (· = w.heap.size) w5).setCell (p := ⟨w.heap.size, 0, none⟩) (.inl rfl) (.int .i64 0)) (fun i e => .inr (.inl e))
            have tK2 := tK.setCell (p := ⟨w.heap.size, 0, none⟩) (.inr (Nat.le_refl _)) (.int .i64 0)
            have tc4 := te.cell 0
            have tc3 := tE.cell 0
            have tf3 := tE.frz 0
            simp at tc4 tc3
            replace te := hid te; replace tT := hid tT; replace tK2 := hid tK2
            go_wp2
            refine leaves_cons (f := 89) (args := #[.pointer (some ⟨w.heap.size, 0, none⟩)]) (by simp) (by simp [go_sem]) ?_
            refine (clear_idle ⟨w.heap.size, 0, none⟩ _).mono ?_
            rintro e u' w'' ⟨rfl, rfl, rfl⟩
            have hQ := hPost.out _ (tT.out.client (fun i hi => .inl (.inl hi))) tK2.out
            rw [hz2.out] at hQ
            simp [Leaves, settle, results, Tryz.results47, go_sem, tc4]
            exact hQ
      ·
        rw [if_neg hz1] at hr
        have hr' := hr.out
        rw [hr'] at hPut1 hz1
        have hFin : ∀ e W, PutM wr C r (fun i => X i ∨ i = w.heap.size ∨ i = w.heap.size + 1) e W → e = .returned (.int .i64 r.1) ∧ Blk W w.heap.size (.cells #[.int .i64 0] 34 (0, 0)) ∧ TxRep W C r.2 false (fun i => X i ∨ i = w.heap.size ∨ i = w.heap.size + 1) ∧ Keeps (fun i => i ∈ C.F ∨ i = C.t ∨ i = C.mx) w W := by
          rintro e W ⟨x1, x2, x3⟩
          exact ⟨x1, hFe _ _ x3 her, x2, hkr.step x3⟩
        replace hg4 := hid hg4; replace hk4 := hid hk4; replace hTr := hid hTr; replace her := hid her; replace hkr := hid hkr; replace hXY := hid hXY; replace hPut1 := hid hPut1; replace hno := hid hno; replace hFe := hid hFe; replace hFp := hid hFp; replace hPut2 := hid hPut2; replace hst1 := hid hst1; replace hPost := hid hPost; replace hz1 := hid hz1; replace hr' := hid hr'; replace hFin := hid hFin
        go_wp2_with (first
          | (go_at_call 66; refine hPut1.out.mono ?_; intro e w4 ht; obtain ⟨rfl, tE, tR, tK⟩ := hFin.out _ _ ht; clear ht; replace tE := hid tE; replace tR := hid tR; replace tK := hid tK)
          | (go_at_call 53; refine (pdemand_bad _ _ hz1.out).mono ?_; rintro e w3 ⟨rfl, rfl⟩))
        replace tE := tE.out
        replace tR := tR.out
        replace tK := tK.out
        refine leaves_cons (f := 89) (args := #[.pointer (some ⟨w.heap.size, 0, none⟩)]) (by simp) (by simp [go_sem]) ?_
        refine (clear_ref w.heap.size 0 r.1 _ tE).mono ?_
        rintro e u' w6 ⟨rfl, rfl, t5, t6⟩
        have tT := tR.quiet t6 (fun i e => .inr (.inl e))
        have tK2 := tK.trans t6 (fun i hi e => by omega)
        have tc4 := t5.cell 0
        simp at tc4
        have hQ := hPost.out _ (tT.client (fun i hi => .inl (.inl hi))) tK2
        simp [Leaves, settle, results, Tryz.results47, go_sem, tc4]
        exact hQ
end
end Go.Vk
