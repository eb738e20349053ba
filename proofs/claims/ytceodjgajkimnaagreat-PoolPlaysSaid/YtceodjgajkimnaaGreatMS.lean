/- Plain: what a transaction sees and has put, block by block, budget and all; the pool's calls on it. A pool's calls on a transaction, whatever was put: the exact answers. Plain: the document's pool and the transaction go alike. A rig of exact.go: store, transaction, both pools, and the document's pool, alike. The walk of others of the law: every block behind the bitmaps. The walk of looks of the law: both bitmaps and all other blocks. -/
import Derived.Test.YtceodjgajkimnaaGreatML
import Derived.Test.YtceodjgajkimnaaGreatNF
import Derived.Test.YtceodjgajkimnaaGreatMU
import Derived.Test.YtceodjgajkimnaaGreatMM
import Derived.Laws.IdiomStrings
set_option linter.unusedVariables false

namespace Go.Vk

/-- The blocks as the transaction sees them, those it has put, what spoilt it, and the blocks as they are committed. -/
structure TS where
  raw : Nat → List UInt8
  put : List Nat
  sp : Nat
  old : Nat → List UInt8
  lm : LM
  wr : Nat
  dd : Bool
  tk : Nat
/-- Why it refuses, or 0. -/
def TS.st (T : TS) : Nat := if T.dd then 3 else T.sp
theorem TS.st_zero {T : TS} (h : T.st = 0) : T.dd = false ∧ T.sp = 0 := by
  unfold TS.st at h
  cases hd : T.dd with
  | true => rw [hd, if_pos rfl] at h; cases h
  | false => rw [hd] at h; exact ⟨rfl, h⟩
def TS.lay (T : TS) (b : Nat) (data : List UInt8) : TS := { T with raw := fun k => if k = b then data else T.raw k }
def TS.puts (T : TS) (b : Nat) (data : List UInt8) : Nat × TS :=
  if T.raw b = data then (0, T) else if b ∈ T.put then (0, T.lay b data) else if T.put.length = 16 then (50, { T with sp := 50 }) else (0, { T.lay b data with put := T.put ++ [b] })
def TS.takeX (T : TS) (blk lo top first no : Nat) : (Nat × Nat) × TS :=
  match firstFree (T.raw blk) lo top with
  | some i => ((if (T.puts blk (flipB (T.raw blk) i)).1 = 0 then i + first else 0, (T.puts blk (flipB (T.raw blk) i)).1), (T.puts blk (flipB (T.raw blk) i)).2)
  | none => ((0, no), { T with sp := no })
def TS.dropX (T : TS) (blk i : Nat) : Nat × TS := if bitOf (T.raw blk) i = true then T.puts blk (flipB (T.raw blk) i) else (62, T)
def TS.clearX (T : TS) (data : Nat) : Nat × TS := if (T.puts 0 (onesB data)).1 = 0 then (T.puts 0 (onesB data)).2.puts 1 (zeros 512) else T.puts 0 (onesB data)
/-- The log, what was written and what is committed are the same. -/
def TS.Like (T T' : TS) : Prop := T'.lm = T.lm ∧ T'.wr = T.wr ∧ T'.old = T.old ∧ T'.dd = T.dd ∧ T'.tk = T.tk
theorem TS.Like.refl (T : TS) : T.Like T := ⟨rfl, rfl, rfl, rfl, rfl⟩
theorem TS.Like.trans {T T' T2 : TS} (h : T.Like T') (k : T'.Like T2) : T.Like T2 := ⟨k.1.trans h.1, k.2.1.trans h.2.1, k.2.2.1.trans h.2.2.1, k.2.2.2.1.trans h.2.2.2.1, k.2.2.2.2.trans h.2.2.2.2⟩
theorem TS.puts_like (T : TS) (b : Nat) (data : List UInt8) : T.Like (T.puts b data).2 := by
  unfold TS.puts
  split
  · exact .refl T
  · split
    · exact ⟨rfl, rfl, rfl, rfl, rfl⟩
    · split <;> exact ⟨rfl, rfl, rfl, rfl, rfl⟩
theorem TS.takeX_like (T : TS) (blk lo top first no : Nat) : T.Like (T.takeX blk lo top first no).2 := by
  unfold TS.takeX
  split
  · exact T.puts_like _ _
  · exact ⟨rfl, rfl, rfl, rfl, rfl⟩
theorem TS.dropX_like (T : TS) (blk i : Nat) : T.Like (T.dropX blk i).2 := by
  unfold TS.dropX
  split
  · exact T.puts_like _ _
  · exact .refl T
theorem TS.clearX_like (T : TS) (data : Nat) : T.Like (T.clearX data).2 := by
  unfold TS.clearX
  split
  · exact (T.puts_like _ _).trans (TS.puts_like _ _ _)
  · exact T.puts_like _ _
/-- The disk is well, no anchor is newer than the log's tail, and no more was written than that. -/
def Calm (G : Geom) (L : LM) (wr : Nat) (D : DM) : Prop := (∃ N g, Is D N G.life g ∧ AnchInv g L ∧ G.home + G.blocks ≤ N ∧ N ≤ 2048) ∧ D.writes ≤ wr
theorem Calm.readed {G : Geom} {L : LM} {wr : Nat} {D : DM} (h : Calm G L wr D) : Calm G L wr D.readed := by
  obtain ⟨⟨N, g, h1, h2⟩, h3⟩ := h
  exact ⟨⟨N, g, h1.readed, h2⟩, h3⟩
theorem Calm.got {G : Geom} {L : LM} {wr : Nat} {D : DM} (h : Calm G L wr D) (ov own : Nat → Option (List UInt8)) (b : Nat) : Calm G L wr (getD' D ov own b) := by
  unfold getD' cmtD
  split
  · exact h
  · split
    · exact h
    · exact h.readed
/-- The disk of one that lives is calm; one that is dead was taken some times. -/
def Dsk (G : Geom) (T : TS) (D : DM) : Prop := (T.dd = false → Calm G T.lm T.wr D) ∧ (T.dd = true → ∃ k : Nat, 1 ≤ k ∧ k ≤ T.tk ∧ D.life = Go.RowKit.wrap64 (G.life + k))
theorem Dsk.got {G : Geom} {T : TS} {D : DM} (h : Dsk G T D) (ov own : Nat → Option (List UInt8)) (b : Nat) : Dsk G T (getD' D ov own b) :=
  ⟨fun e => (h.1 e).got ov own b, fun e => by rw [getD'_life]; exact h.2 e⟩
structure PX (C : TxC) (M : TxM) (T : TS) : Prop where
  g : ∀ b, b < C.G.blocks → M.get C b = T.raw b
  own : ∀ b, M.own b = none ↔ b ∉ T.put
  cnt : M.cnt = T.put.length
  nd : T.put.Nodup
  le : T.put.length ≤ 16
  live : goneB M.D C.G.life = T.dd
  sp : M.sp = T.sp
  o : ∀ b, b < C.G.blocks → cmtB M.D (ovOf C.ov) C.G.home b = T.old b
  dk : Dsk C.G T M.D
theorem cmtB_read (C : TxC) (M : TxM) (b k : Nat) : cmtB (M.read C b).D (ovOf C.ov) C.G.home k = cmtB M.D (ovOf C.ov) C.G.home k := by
  unfold TxM.read getD' cmtD
  dsimp only
  split
  · rfl
  · split <;> rfl
section
variable {C : TxC} {M : TxM} {T : TS}
theorem PX.read (h : PX C M T) (b : Nat) : PX C (M.read C b) T :=
  ⟨fun k hk => by rw [TxM.get_read]; exact h.g k hk, h.own, h.cnt, h.nd, h.le, by rw [goneB_read]; exact h.live, h.sp, fun k hk => by rw [cmtB_read]; exact h.o k hk, h.dk.got _ _ _⟩
theorem PX.spoil (h : PX C M T) (s : Nat) : PX C { M with sp := s } { T with sp := s } := ⟨h.g, h.own, h.cnt, h.nd, h.le, h.live, rfl, h.o, h.dk⟩
theorem PX.stsp (h : PX C M T) : txState M.D C.G.life M.sp false = T.st := by
  unfold txState TS.st; rw [h.live, h.sp]; rfl
theorem PX.st (h : PX C M T) (h0 : T.st = 0) : txState M.D C.G.life M.sp false = 0 := h.stsp.trans h0
theorem PX.puts (h : PX C M T) {b : Nat} (hb : b < C.G.blocks) (data : List UInt8) : (M.put C b data).1 = (T.puts b data).1 ∧ PX C (M.put C b data).2 (T.puts b data).2 := by
  unfold TxM.put TS.puts
  rw [h.g b hb]
  by_cases hq : T.raw b = data
  · rw [if_pos hq, if_pos hq]
    exact ⟨rfl, h.read b⟩
  · rw [if_neg hq, if_neg hq]
    by_cases hm : b ∈ T.put
    · have hb1 : ¬ (M.own b = none ∧ 16 ≤ M.cnt) := fun x => (h.own b).1 x.1 hm
      rw [if_neg hb1, if_pos hm]
      have hsome : (M.own b).isSome = true := by
        cases ho : M.own b with
        | none => exact absurd hm ((h.own b).1 ho)
        | some x => rfl
      refine ⟨rfl, ⟨fun k hk => ?_, fun k => ?_, ?_, h.nd, h.le, (goneB_read C M b).trans h.live, h.sp, (h.read b).o, (h.read b).dk⟩⟩
      · rw [TxM.get_putC, TxM.get_read]
        show _ = if k = b then data else T.raw k
        rw [h.g k hk]
      · have : ((M.read C b).putC b data).own k = if k = b then some data else M.own k := rfl
        rw [this]
        by_cases e : k = b
        · subst e; rw [if_pos rfl]; exact ⟨fun x => (by cases x), fun x => absurd hm x⟩
        · rw [if_neg e]; exact h.own k
      · have : ((M.read C b).putC b data).cnt = if (M.own b).isSome then M.cnt else M.cnt + 1 := rfl
        rw [this, if_pos hsome]; exact h.cnt
    · rw [if_neg hm]
      by_cases hl : T.put.length = 16
      · have hb1 : M.own b = none ∧ 16 ≤ M.cnt := ⟨(h.own b).2 hm, by rw [h.cnt]; omega⟩
        rw [if_pos hb1, if_pos hl]
        exact ⟨rfl, (h.read b).spoil 50⟩
      · have hle := h.le
        have hb1 : ¬ (M.own b = none ∧ 16 ≤ M.cnt) := fun x => by have := x.2; rw [h.cnt] at this; omega
        rw [if_neg hb1, if_neg hl]
        have hnone := (h.own b).2 hm
        refine ⟨rfl, ⟨fun k hk => ?_, fun k => ?_, ?_, ?_, ?_, (goneB_read C M b).trans h.live, h.sp, (h.read b).o, (h.read b).dk⟩⟩
        · rw [TxM.get_putC, TxM.get_read]
          show _ = if k = b then data else T.raw k
          rw [h.g k hk]
        · have : ((M.read C b).putC b data).own k = if k = b then some data else M.own k := rfl
          rw [this]
          show _ ↔ k ∉ T.put ++ [b]
          by_cases e : k = b
          · subst e; rw [if_pos rfl]; exact ⟨fun x => (by cases x), fun x => absurd (List.mem_append_right _ (List.mem_singleton.2 rfl)) x⟩
          · rw [if_neg e, h.own k, List.mem_append, List.mem_singleton]
            exact ⟨fun x y => y.elim x e, fun x y => x (.inl y)⟩
        · have : ((M.read C b).putC b data).cnt = if (M.own b).isSome then M.cnt else M.cnt + 1 := rfl
          rw [this, hnone]
          show _ = (T.put ++ [b]).length
          rw [List.length_append, h.cnt]; rfl
        · show (T.put ++ [b]).Nodup
          rw [List.nodup_append]
          refine ⟨h.nd, by simp, fun x hx y hy e => ?_⟩
          rw [List.mem_singleton] at hy
          subst hy e
          exact hm hx
        · show (T.put ++ [b]).length ≤ 16
          rw [List.length_append, List.length_singleton]; omega
theorem PX.take (h : PX C M T) {blk : Nat} (hb : blk < C.G.blocks) (lo top first no : Nat) : (M.take C blk lo top first no).1 = (T.takeX blk lo top first no).1 ∧ PX C (M.take C blk lo top first no).2 (T.takeX blk lo top first no).2 := by
  unfold TxM.take TxM.takeR TS.takeX
  rw [h.g blk hb]
  cases hf : firstFree (T.raw blk) lo top with
  | some i =>
    obtain ⟨a1, a2⟩ := (h.read blk).puts hb (flipB (T.raw blk) i)
    dsimp only
    rw [a1]
    exact ⟨rfl, a2⟩
  | none => exact ⟨rfl, (h.read blk).spoil no⟩
theorem PX.drop (h : PX C M T) {blk : Nat} (hb : blk < C.G.blocks) (i : Nat) : (M.drop C blk i).1 = (T.dropX blk i).1 ∧ PX C (M.drop C blk i).2 (T.dropX blk i).2 := by
  unfold TxM.drop TxM.dropR TS.dropX
  rw [h.g blk hb]
  by_cases hbt : bitOf (T.raw blk) i = true
  · rw [if_pos hbt, if_pos hbt]
    exact (h.read blk).puts hb _
  · rw [if_neg hbt, if_neg hbt]
    exact ⟨rfl, h.read blk⟩
theorem PX.clear (h : PX C M T) (hb : 1 < C.G.blocks) : (M.clear C).1 = (T.clearX (2 + C.G.n / 4)).1 ∧ PX C (M.clear C).2 (T.clearX (2 + C.G.n / 4)).2 := by
  obtain ⟨a1, a2⟩ := h.puts (b := 0) (by omega) (onesB (2 + C.G.n / 4))
  unfold TxM.clear TS.clearX
  rw [a1]
  by_cases hq : (T.puts 0 (onesB (2 + C.G.n / 4))).1 = 0
  · rw [if_pos hq, if_pos hq]
    exact a2.puts hb (zeros 512)
  · rw [if_neg hq, if_neg hq]
    exact ⟨a1, a2⟩
end
end Go.Vk

namespace Go.Vk
open Go.RowKit Go.Proofs

structure PoolX (w : World) (C : TxC) (T : TS) (X : Nat → Prop) : Prop where
  rep : ∃ M, TxRep w C M false X ∧ PX C M T
  lt : ∀ i, X i → i < w.heap.size
  geo : GeoOk C.G
def xLo (G : Geom) (nd : Bool) : Nat := if nd then 0 else G.data
def xHi (G : Geom) (nd : Bool) : Nat := if nd then G.n else G.blocks
def TS.take (T : TS) (G : Geom) (nd : Bool) : (Nat × Nat) × TS := if T.st = 0 then T.takeX nd.toNat (xLo G nd) (xHi G nd) nd.toNat (noE nd) else ((0, T.st), T)
def xOut (G : Geom) (nd : Bool) (n : Int) : Prop := n < ((xLo G nd + nd.toNat : Nat) : Int) ∨ ((xHi G nd + nd.toNat : Nat) : Int) ≤ n
instance (G : Geom) (nd : Bool) (n : Int) : Decidable (xOut G nd n) := inferInstanceAs (Decidable (_ ∨ _))
def TS.drop (T : TS) (G : Geom) (nd : Bool) (n : Int) : Nat × TS := if T.st = 0 then (if xOut G nd n then (11, T) else T.dropX nd.toNat (n.toNat - nd.toNat)) else (T.st, T)
def TS.clear (T : TS) (G : Geom) : Nat × TS := if T.st = 0 then T.clearX G.data else (T.st, T)
def TS.putB (T : TS) (b : Nat) (data : List UInt8) : Nat × TS := if T.st = 0 then T.puts b data else (T.st, T)

theorem TS.take_like (T : TS) (G : Geom) (nd : Bool) : T.Like (T.take G nd).2 := by
  unfold TS.take
  split
  · exact T.takeX_like _ _ _ _ _
  · exact .refl T
theorem TS.drop_like (T : TS) (G : Geom) (nd : Bool) (n : Int) : T.Like (T.drop G nd n).2 := by
  unfold TS.drop
  split
  · split
    · exact .refl T
    · exact T.dropX_like _ _
  · exact .refl T
theorem TS.clear_like (T : TS) (G : Geom) : T.Like (T.clear G).2 := by
  unfold TS.clear
  split
  · exact T.clearX_like _
  · exact .refl T
theorem TS.putB_like (T : TS) (b : Nat) (data : List UInt8) : T.Like (T.putB b data).2 := by
  unfold TS.putB
  split
  · exact T.puts_like _ _
  · exact .refl T
section
variable {w w' : World} {C : TxC} {T T' : TS} {X : Nat → Prop} {p : Nat}
theorem PoolX.notF (h : PoolX w C T X) {i : Nat} (hi : X i) : ¬ KF C i := by
  obtain ⟨M, h1, _⟩ := h.rep
  obtain ⟨a1, a2, a3⟩ := h1.notF hi
  rintro (x | x | x)
  · exact a1 x
  · exact a2 x
  · exact a3 x
theorem PoolX.grow (h : PoolX w C T X) {Gf : Nat → Prop} (k : Keeps Gf w w') (hG : ∀ i, i < w.heap.size → Gf i → X i) {Y : Nat → Prop} (hY : ∀ i, Y i → i < w'.heap.size ∧ (X i ∨ w.heap.size ≤ i)) : PoolX w' C T Y := by
  obtain ⟨M, h1, h2⟩ := h.rep
  refine ⟨⟨M, ?_, h2⟩, fun i hi => (hY i hi).1, h.geo⟩
  have h4 := h1.client (Y := fun i => X i ∨ w.heap.size ≤ i) (fun i hi => hi)
  exact (h4.quiet k (fun i hi => (Nat.lt_or_ge i w.heap.size).elim (fun e => .inl (hG i e hi)) .inr)).client (fun i hi => .inl (hY i hi).2)
theorem PoolX.quiet (h : PoolX w C T X) (k : Keeps (fun _ => False) w w') : PoolX w' C T X :=
  h.grow k (fun _ _ f => f.elim) (fun i hi => ⟨Nat.lt_of_lt_of_le (h.lt i hi) k.size, .inl hi⟩)
theorem PoolX.blk (h : PoolX w C T X) (k : Keeps (KF C) w w') {b : Nat} {o : Obj} (hb : Blk w b o) (hX : X b) : Blk w' b o := k.blk hb (h.notF hX)
theorem PoolX.len (h : PoolX w C T X) (b : Nat) (hb : b < C.G.blocks) : (T.raw b).length = 512 := by
  obtain ⟨M, h1, h2⟩ := h.rep
  rw [← h2.g b hb]; exact h1.get_len b hb

def XPost (w : World) (C : TxC) (X : Nat → Prop) (T' : TS) (v : Value) (e : Ending) (w' : World) : Prop := e = .returned v ∧ PoolX w' C T' X ∧ Keeps (KF C) w w'
theorem XPost.of (h : PoolX w C T X) {M' : TxM} {v : Value} (hp : PX C M' T') : ∀ e w', PoolM w C M' false X v e w' → XPost w C X T' v e w' := by
  rintro e w' ⟨rfl, x2, x3⟩
  exact ⟨rfl, ⟨⟨M', x2, hp⟩, fun i hi => Nat.lt_of_lt_of_le (h.lt i hi) x3.size, h.geo⟩, x3⟩
theorem PoolX.takeB (h : PoolX w C T X) (hp : Blk w p (poolO C.t)) (hpX : X p) : Calls Tryz.prog 49 #[.pointer (some ⟨p, 0, none⟩)] w (XPost w C X (T.take C.G false).2 (.tuple #[.int .i64 ((T.take C.G false).1.1 : Nat), .int .i64 ((T.take C.G false).1.2 : Nat)])) := by
  obtain ⟨M, h1, h2⟩ := h.rep
  have hg := h.geo
  unfold TS.take
  by_cases hs : T.st = 0
  · rw [if_pos hs]
    obtain ⟨a1, a2⟩ := h2.take (blk := 0) (by have := hg.b1; omega) (2 + C.G.n / 4) C.G.blocks 0 60
    have := takeB_ok hp hpX h1 (h2.st hs) h.lt (by have := hg.b1; omega) (by have := hg.b1; omega) (by have := hg.b2; omega)
    rw [a1] at this
    exact this.mono (XPost.of h a2)
  · rw [if_neg hs]
    have hst := h2.stsp
    have := takeB_bad hp h1 (by rw [hst]; exact hs)
    rw [hst] at this
    exact this.mono (XPost.of h h2)
theorem PoolX.takeN (h : PoolX w C T X) (hp : Blk w p (poolO C.t)) (hpX : X p) : Calls Tryz.prog 48 #[.pointer (some ⟨p, 0, none⟩)] w (XPost w C X (T.take C.G true).2 (.tuple #[.int .i64 ((T.take C.G true).1.1 : Nat), .int .i64 ((T.take C.G true).1.2 : Nat)])) := by
  obtain ⟨M, h1, h2⟩ := h.rep
  have hg := h.geo
  unfold TS.take
  by_cases hs : T.st = 0
  · rw [if_pos hs]
    obtain ⟨a1, a2⟩ := h2.take (blk := 1) (by have := hg.b1; omega) 0 C.G.n 1 61
    have := takeN_ok hp hpX h1 (h2.st hs) h.lt (by have := hg.b1; omega) (Nat.zero_le _) (by have := hg.n2; omega)
    rw [a1] at this
    exact this.mono (XPost.of h a2)
  · rw [if_neg hs]
    have hst := h2.stsp
    have := takeN_bad hp h1 (by rw [hst]; exact hs)
    rw [hst] at this
    exact this.mono (XPost.of h h2)
theorem PoolX.dropB (h : PoolX w C T X) (hp : Blk w p (poolO C.t)) (hpX : X p) (n : Int) : Calls Tryz.prog 60 #[.pointer (some ⟨p, 0, none⟩), .int .i64 n] w (XPost w C X (T.drop C.G false n).2 (.int .i64 ((T.drop C.G false n).1 : Nat))) := by
  obtain ⟨M, h1, h2⟩ := h.rep
  have hg := h.geo
  unfold TS.drop
  by_cases hs : T.st = 0
  · rw [if_pos hs]
    by_cases ho : xOut C.G false n
    · rw [if_pos ho]
      have ho' : n < ((2 + C.G.n / 4 : Nat) : Int) ∨ ((C.G.blocks : Nat) : Int) ≤ n := ho
      exact (dropB_out hp h1 (h2.st hs) n ho').mono (XPost.of h h2)
    · rw [if_neg ho]
      have ho' : ¬ (n < ((2 + C.G.n / 4 : Nat) : Int) ∨ ((C.G.blocks : Nat) : Int) ≤ n) := ho
      obtain ⟨i, rfl⟩ : ∃ i : Nat, n = i := ⟨n.toNat, by omega⟩
      obtain ⟨a1, a2⟩ := h2.drop (blk := 0) (by have := hg.b1; omega) i
      have := dropB_ok hp hpX h1 (h2.st hs) h.lt (by have := hg.b1; omega) (by have := hg.b2; omega) i (by omega)
      rw [a1] at this
      exact this.mono (XPost.of h a2)
  · rw [if_neg hs]
    have hst := h2.stsp
    have := dropB_bad hp h1 (by rw [hst]; exact hs) n
    rw [hst] at this
    exact this.mono (XPost.of h h2)
theorem PoolX.dropN (h : PoolX w C T X) (hp : Blk w p (poolO C.t)) (hpX : X p) (n : Int) : Calls Tryz.prog 59 #[.pointer (some ⟨p, 0, none⟩), .int .i64 n] w (XPost w C X (T.drop C.G true n).2 (.int .i64 ((T.drop C.G true n).1 : Nat))) := by
  obtain ⟨M, h1, h2⟩ := h.rep
  have hg := h.geo
  unfold TS.drop
  by_cases hs : T.st = 0
  · rw [if_pos hs]
    by_cases ho : xOut C.G true n
    · rw [if_pos ho]
      have ho' : n < ((0 + 1 : Nat) : Int) ∨ ((C.G.n + 1 : Nat) : Int) ≤ n := ho
      exact (dropN_out hp h1 (h2.st hs) n (by omega)).mono (XPost.of h h2)
    · rw [if_neg ho]
      have ho' : ¬ (n < ((0 + 1 : Nat) : Int) ∨ ((C.G.n + 1 : Nat) : Int) ≤ n) := ho
      obtain ⟨i, rfl⟩ : ∃ i : Nat, n = ((i + 1 : Nat) : Int) := ⟨n.toNat - 1, by omega⟩
      obtain ⟨a1, a2⟩ := h2.drop (blk := 1) (by have := hg.b1; omega) i
      have := dropN_ok hp hpX h1 (h2.st hs) h.lt (by have := hg.b1; omega) (by have := hg.n2; omega) i (by omega)
      rw [a1] at this
      exact this.mono (XPost.of h a2)
  · rw [if_neg hs]
    have hst := h2.stsp
    have := dropN_bad hp h1 (by rw [hst]; exact hs) n
    rw [hst] at this
    exact this.mono (XPost.of h h2)
/-- Clear, where its second put is not refused when its first is not. -/
theorem PoolX.clear (h : PoolX w C T X) (hp : Blk w p (poolO C.t)) (hpX : X p) (hok : T.st = 0 → (T.puts 0 (onesB C.G.data)).1 = 0 → ((T.puts 0 (onesB C.G.data)).2.puts 1 (zeros 512)).1 = 0) :
    Calls Tryz.prog 47 #[.pointer (some ⟨p, 0, none⟩)] w (XPost w C X (T.clear C.G).2 (.int .i64 ((T.clear C.G).1 : Nat))) := by
  obtain ⟨M, h1, h2⟩ := h.rep
  have hg := h.geo
  unfold TS.clear
  by_cases hs : T.st = 0
  · rw [if_pos hs]
    obtain ⟨a1, a2⟩ := h2.clear (by have := hg.b1; omega)
    obtain ⟨b1, b2⟩ := h2.puts (b := 0) (by have := hg.b1; omega) (onesB (2 + C.G.n / 4))
    obtain ⟨c1, _⟩ := b2.puts (b := 1) (by have := hg.b1; omega) (zeros 512)
    have := clear_ok hp hpX h1 (h2.st hs) h.lt (by have := hg.b1; omega) (by have := hg.b1; have := hg.b2; omega) (fun e => by
      have e1 := hok hs (b1.symm.trans e)
      unfold TxM.clear
      rw [if_pos e]
      exact c1.trans e1)
    rw [a1] at this
    exact this.mono (XPost.of h a2)
  · rw [if_neg hs]
    have hst := h2.stsp
    have := clear_bad hp h1 (by rw [hst]; exact hs)
    rw [hst] at this
    exact this.mono (XPost.of h h2)
def TS.left (T : TS) (G : Geom) : Nat × Nat × Nat := if T.st = 0 then (leftN (T.raw 0) G.data G.blocks, leftN (T.raw 1) 0 G.n, 0) else (0, 0, T.st)
theorem PoolX.left (h : PoolX w C T X) (hp : Blk w p (poolO C.t)) (hpX : X p) : Calls Tryz.prog 20 #[.pointer (some ⟨p, 0, none⟩)] w (XPost w C X T (.tuple #[.int .i64 ((T.left C.G).1 : Nat), .int .i64 ((T.left C.G).2.1 : Nat), .int .i64 ((T.left C.G).2.2 : Nat)])) := by
  obtain ⟨M, h1, h2⟩ := h.rep
  have hg := h.geo
  unfold TS.left
  by_cases hs : T.st = 0
  · rw [if_pos hs]
    have := left_ok hp hpX h1 (h2.st hs) (by have := hg.b1; omega) (by have := hg.b1; omega) (by have := hg.b2; omega) (by have := hg.n2; omega)
    rw [h2.g 0 (by have := hg.b1; omega), (h2.read 0).g 1 (by have := hg.b1; omega)] at this
    exact this.mono (XPost.of h ((h2.read 0).read 1))
  · rw [if_neg hs]
    have hst := h2.stsp
    have := left_bad hp h1 (by rw [hst]; exact hs)
    rw [hst] at this
    exact this.mono (XPost.of h h2)
theorem PoolX.state (h : PoolX w C T X) : Calls Tryz.prog 18 #[.pointer (some ⟨C.t, 0, none⟩)] w fun e w' => e = .returned (.int .i64 (T.st : Nat)) ∧ PoolX w' C T X ∧ Keeps (fun _ => False) w w' := by
  obtain ⟨M, h1, h2⟩ := h.rep
  refine (state_m h1).mono ?_
  rintro e w' ⟨rfl, m, rfl⟩
  rw [h2.stsp]
  have hk : Keeps (fun _ => False) w (w.drewN m) := (Keeps.refl _ w).drewN m
  exact ⟨rfl, h.quiet hk, hk⟩
theorem PoolX.get (h : PoolX w C T X) (h0 : T.st = 0) (b : Nat) (hb : b < C.G.blocks) : Calls Tryz.prog 58 #[.pointer (some ⟨C.t, 0, none⟩), .int .i64 b] w fun e w' =>
    ∃ g k, e = .returned (.tuple #[.slice (some ⟨g, 0, none⟩) 512 (512 + k), .int .i64 0]) ∧ w.heap.size ≤ g ∧ Blk w' g (bytesO (T.raw b ++ zeros k)) ∧ PoolX w' C T (fun i => X i ∨ w.heap.size ≤ i ∧ i < w'.heap.size) ∧ Keeps (KF C) w w' := by
  obtain ⟨M, h1, h2⟩ := h.rep
  refine (get_m h1 (h2.st h0) b hb).mono ?_
  rintro e w' ⟨g, k, rfl, x1, x2, x3, x4⟩
  rw [h2.g b hb] at x2
  exact ⟨g, k, rfl, x1, x2, ⟨⟨_, x3.client (fun i hi => .inl (hi.elim .inl (fun y => .inr y.1))), h2.read _⟩, fun i hi => hi.elim (fun y => Nat.lt_of_lt_of_le (h.lt i y) x4.size) (·.2), h.geo⟩, x4.mono fun i _ hi => .inl hi⟩
theorem PoolX.get_bad (h : PoolX w C T X) (h0 : T.st ≠ 0) (b : Nat) : Calls Tryz.prog 58 #[.pointer (some ⟨C.t, 0, none⟩), .int .i64 b] w fun e w' =>
    e = .returned (.tuple #[.slice none 0 0, .int .i64 (T.st : Nat)]) ∧ PoolX w' C T X ∧ Keeps (fun _ => False) w w' := by
  obtain ⟨M, h1, h2⟩ := h.rep
  have hst := h2.stsp
  obtain ⟨own, xc, y1, y2, y3⟩ := h1
  have e1 : txAt M.D C.G M.sp false (b : Int) = T.st := by unfold txAt; rw [hst, if_pos h0]
  have := Go.Vk.get_bad y1.ht y1.hs y1.hd (b : Int) (by rw [e1]; exact h0)
  rw [e1] at this
  refine this.mono ?_
  rintro e w' ⟨rfl, m, rfl⟩
  have hk : Keeps (fun _ => False) w (w.drewN m) := (Keeps.refl _ w).drewN m
  exact ⟨rfl, h.quiet hk, hk⟩
theorem tput_bad (h : PoolX w C T X) (h0 : T.st ≠ 0) (b : Nat) (v : Value) : Calls Tryz.prog 66 #[.pointer (some ⟨C.t, 0, none⟩), .int .i64 b, v] w (XPost w C X T (.int .i64 (T.st : Nat))) := by
  obtain ⟨M, h1, h2⟩ := h.rep
  have hst := h2.stsp
  obtain ⟨own, xc, y1, y2, y3⟩ := id h1
  have e1 : txAt M.D C.G M.sp false (b : Int) = T.st := by unfold txAt; rw [hst, if_pos h0]
  have hA := tat_w y1.ht y1.hs y1.hd (b : Int)
  rw [e1] at hA
  have hq : ∀ m, XPost w C X T (.int .i64 (T.st : Nat)) (.returned (.int .i64 (T.st : Nat))) (w.drewN m) := fun m => by
    have hk : Keeps (fun _ => False) w (w.drewN m) := (Keeps.refl _ w).drewN m
    exact ⟨rfl, h.quiet hk, hk.mono fun _ _ f => f.elim⟩
  have hsi : ¬ (T.st : Int) = 0 := by omega
  generalize XPost w C X T (.int .i64 (T.st : Nat)) = Post at *
  generalize T.st = s at *
  clear e1 hst y1 y2 y3
  replace h := hid h; replace h0 := hid h0; replace h1 := hid h1; replace h2 := hid h2; replace hA := hid hA; replace hq := hid hq
  go_enter Tryz.func66, Tryz.ntmps66
  go_wp2_with (go_at_call 100; refine hA.out.mono ?_; rintro e w' ⟨rfl, m, rfl⟩; have hq1 := hq.out m; replace hq1 := hid hq1)
  exact hq1.out
theorem PoolX.put (h : PoolX w C T X) (b : Nat) (hb : b < C.G.blocks) (g c : Nat) (data rest : List UInt8) (hg : Blk w g (bytesO (data ++ rest))) (hgX : X g) (hl : data.length = 512) :
    Calls Tryz.prog 66 #[.pointer (some ⟨C.t, 0, none⟩), .int .i64 b, .slice (some ⟨g, 0, none⟩) 512 c] w (XPost w C X (T.putB b data).2 (.int .i64 ((T.putB b data).1 : Nat))) := by
  unfold TS.putB
  by_cases hs : T.st = 0
  · rw [if_pos hs]
    obtain ⟨M, h1, h2⟩ := h.rep
    obtain ⟨a1, a2⟩ := h2.puts hb data
    have := put_m h1 (h2.st hs) h.lt b hb g 0 c (data ++ rest) data hg hgX (by rw [List.length_append]; omega) (by rw [List.drop_zero, List.take_left' hl])
    refine this.mono ?_
    rintro e w' ⟨rfl, x2, x3⟩
    rw [a1]
    exact ⟨rfl, ⟨⟨_, x2, a2⟩, fun i hi => Nat.lt_of_lt_of_le (h.lt i hi) x3.size, h.geo⟩, x3⟩
  · rw [if_neg hs]
    exact tput_bad h hs b _
end
end Go.Vk

namespace Go.Vk

/-- What is committed, on either side. -/
def Olds (oB oN : List Bool) (oR : List (List UInt8)) (old : Nat → List UInt8) (G : Geom) : Prop := oB = bitsOf (old 0) ∧ oN = bitsOf (old 1) ∧ (∀ b, 2 ≤ b → b < G.blocks → oR[b]? = some (old b)) ∧ oR.length = G.blocks
structure Same (R : RP) (T : TS) (G : Geom) : Prop where
  nb : R.nowB = bitsOf (T.raw 0)
  nn : R.nowN = bitsOf (T.raw 1)
  raw : ∀ b, 2 ≤ b → b < G.blocks → R.raw[b]? = some (T.raw b)
  rl : R.raw.length = G.blocks
  put : R.put = T.put
  sp : R.sp = T.sp
  op : R.op = true
  dead : R.dead = T.dd
  data : R.data = G.data
  blocks : R.blocks = G.blocks
  nodes : R.nodes = G.n
  od : Olds R.oldB R.oldN R.oldRaw T.old G
section
variable {R : RP} {T : TS} {G : Geom}
theorem Same.state (h : Same R T G) : R.state = T.st := by unfold RP.state TS.st; rw [h.dead, h.op, h.sp]; rfl
theorem Same.nowK (h : Same R T G) (nd : Bool) : R.nowK nd = bitsOf (T.raw nd.toNat) := by
  cases nd
  · exact h.nb
  · exact h.nn
theorem flip_ne (b : List UInt8) (i : Nat) (hi : i < 4096) (hl : b.length = 512) : b ≠ flipB b i := fun e => by
  have := bitOf_flip b i i (by omega)
  rw [← e, if_pos rfl] at this
  cases hb : bitOf b i <;> rw [hb] at this <;> cases this
/-- A bitmap laid. -/
theorem Same.lays (h : Same R T G) (nd : Bool) (data : List UInt8) (hl : data.length = 512) (hk : (T.raw nd.toNat).length = 512) :
    R.laysE nd (bitsOf data) = (T.puts nd.toNat data).1 ∧ Same (R.lays nd (bitsOf data)) (T.puts nd.toNat data).2 G := by
  unfold RP.laysE RP.lays TS.puts RP.putsE RP.puts
  rw [h.nowK nd, h.put]
  by_cases he : T.raw nd.toNat = data
  · have hb : bitsOf (T.raw nd.toNat) = bitsOf data := by rw [he]
    rw [if_pos hb, if_pos hb, if_pos he]
    exact ⟨rfl, h⟩
  · have hb : ¬ bitsOf (T.raw nd.toNat) = bitsOf data := fun x => he ((bitsOf_inj hk hl).1 x)
    rw [if_neg hb, if_neg hb, if_neg he]
    by_cases hm : nd.toNat ∈ T.put
    · simp only [if_pos hm]
      refine ⟨trivial, ?_⟩
      rw [if_pos trivial]
      cases nd
      · refine ⟨by simp [RP.withK, TS.lay], by simpa [RP.withK, TS.lay] using h.nn, fun b h1 h2 => ?_, by simpa [RP.withK] using h.rl, by simp [RP.withK, TS.lay, h.put], by simpa [RP.withK, TS.lay] using h.sp, by simpa [RP.withK] using h.op, by simpa [RP.withK, TS.lay] using h.dead, by simpa [RP.withK] using h.data, by simpa [RP.withK] using h.blocks, by simpa [RP.withK] using h.nodes, by simpa [RP.withK, TS.lay] using h.od⟩
        have hb0 : b ≠ 0 := by omega
        simpa [RP.withK, TS.lay, hb0] using h.raw b h1 h2
      · refine ⟨by simpa [RP.withK, TS.lay] using h.nb, by simp [RP.withK, TS.lay], fun b h1 h2 => ?_, by simpa [RP.withK] using h.rl, by simp [RP.withK, TS.lay, h.put], by simpa [RP.withK, TS.lay] using h.sp, by simpa [RP.withK] using h.op, by simpa [RP.withK, TS.lay] using h.dead, by simpa [RP.withK] using h.data, by simpa [RP.withK] using h.blocks, by simpa [RP.withK] using h.nodes, by simpa [RP.withK, TS.lay] using h.od⟩
        have hb0 : b ≠ 1 := by omega
        simpa [RP.withK, TS.lay, hb0] using h.raw b h1 h2
    · simp only [if_neg hm]
      by_cases h16 : T.put.length = 16
      · simp only [if_pos h16]
        refine ⟨trivial, ?_⟩
        try rw [if_neg (by decide)]
        exact ⟨h.nb, h.nn, h.raw, h.rl, rfl, rfl, h.op, h.dead, h.data, h.blocks, h.nodes, h.od⟩
      · simp only [if_neg h16]
        refine ⟨trivial, ?_⟩
        rw [if_pos trivial]
        cases nd
        · refine ⟨by simp [RP.withK, TS.lay], by simpa [RP.withK, TS.lay] using h.nn, fun b h1 h2 => ?_, by simpa [RP.withK] using h.rl, by simp [RP.withK, TS.lay, h.put], by simpa [RP.withK, TS.lay] using h.sp, by simpa [RP.withK] using h.op, by simpa [RP.withK, TS.lay] using h.dead, by simpa [RP.withK] using h.data, by simpa [RP.withK] using h.blocks, by simpa [RP.withK] using h.nodes, by simpa [RP.withK, TS.lay] using h.od⟩
          have hb0 : b ≠ 0 := by omega
          simpa [RP.withK, TS.lay, hb0] using h.raw b h1 h2
        · refine ⟨by simpa [RP.withK, TS.lay] using h.nb, by simp [RP.withK, TS.lay], fun b h1 h2 => ?_, by simpa [RP.withK] using h.rl, by simp [RP.withK, TS.lay, h.put], by simpa [RP.withK, TS.lay] using h.sp, by simpa [RP.withK] using h.op, by simpa [RP.withK, TS.lay] using h.dead, by simpa [RP.withK] using h.data, by simpa [RP.withK] using h.blocks, by simpa [RP.withK] using h.nodes, by simpa [RP.withK, TS.lay] using h.od⟩
          have hb0 : b ≠ 1 := by omega
          simpa [RP.withK, TS.lay, hb0] using h.raw b h1 h2
theorem lays_ne {nd : Bool} {l : List Bool} (h : R.nowK nd ≠ l) : R.laysE nd l = R.putsE nd.toNat ∧ R.lays nd l = if R.putsE nd.toNat = 0 then (R.puts nd.toNat).withK nd l else R.puts nd.toNat := by
  unfold RP.laysE RP.lays
  rw [if_neg h, if_neg h]
  exact ⟨rfl, rfl⟩
theorem flipB_len (b : List UInt8) (i : Nat) (h : b.length = 512) : (flipB b i).length = 512 := by rw [flipB_length, h]
theorem Same.take (h : Same R T G) (nd : Bool) (hk : (T.raw nd.toNat).length = 512) (hh : xHi G nd ≤ 4096) : R.takeA nd (T.raw nd.toNat) = (T.take G nd).1 ∧ Same (R.take nd (T.raw nd.toNat)) (T.take G nd).2 G := by
  have e1 : rLo R nd = xLo G nd := by unfold rLo xLo; rw [h.data]
  have e2 : rHi R nd = xHi G nd := by unfold rHi xHi; rw [h.nodes, h.blocks]
  unfold RP.takeA RP.take TS.take
  rw [h.state, e1, e2]
  by_cases hs : T.st = 0
  · simp only [if_pos hs]
    unfold TS.takeX
    cases hf : firstFree (T.raw nd.toNat) (xLo G nd) (xHi G nd) with
    | none => exact ⟨rfl, ⟨h.nb, h.nn, h.raw, h.rl, h.put, rfl, h.op, h.dead, h.data, h.blocks, h.nodes, h.od⟩⟩
    | some i =>
      obtain ⟨_, a2, _, _⟩ := firstFree_some hf
      obtain ⟨b1, b2⟩ := h.lays nd (flipB (T.raw nd.toNat) i) (flipB_len _ _ hk) hk
      have hne : R.nowK nd ≠ bitsOf (flipB (T.raw nd.toNat) i) := fun x => by
        rw [h.nowK nd] at x
        exact flip_ne _ i (by omega) hk ((bitsOf_inj hk (flipB_len _ _ hk)).1 x)
      obtain ⟨c1, c2⟩ := lays_ne hne
      rw [c1] at b1
      rw [c2] at b2
      dsimp only
      rw [← b1]
      refine ⟨?_, b2⟩
      split
      · rename_i hz; first | rfl | rw [hz]
      · first | rfl | (rename_i hz; rw [if_neg hz])
  · simp only [if_neg hs]
    exact ⟨trivial, h⟩
theorem Same.drop (h : Same R T G) (nd : Bool) (n : Int) (hk : (T.raw nd.toNat).length = 512) (hh : xHi G nd ≤ 4095) : R.dropE nd (T.raw nd.toNat) n = (T.drop G nd n).1 ∧ Same (R.drop nd (T.raw nd.toNat) n) (T.drop G nd n).2 G := by
  have e1 : rLo R nd = xLo G nd := by unfold rLo xLo; rw [h.data]
  have e2 : rHi R nd = xHi G nd := by unfold rHi xHi; rw [h.nodes, h.blocks]
  have eo : outK R nd n ↔ xOut G nd n := by unfold outK xOut; rw [e1, e2]
  unfold RP.dropE RP.drop TS.drop
  rw [h.state]
  by_cases hs : T.st = 0
  · simp only [if_pos hs]
    by_cases ho : xOut G nd n
    · simp only [if_pos ho, if_pos (eo.2 ho)]
      exact ⟨trivial, h⟩
    · have ho' := ho
      unfold xOut at ho'
      simp only [if_neg ho, if_neg (fun x => ho (eo.1 x))]
      unfold TS.dropX
      by_cases hb : bitOf (T.raw nd.toNat) (n.toNat - nd.toNat) = true
      · simp only [if_pos hb]
        have hnt : nd.toNat ≤ 1 := by cases nd <;> decide
        obtain ⟨b1, b2⟩ := h.lays nd (flipB (T.raw nd.toNat) (n.toNat - nd.toNat)) (flipB_len _ _ hk) hk
        have hne : R.nowK nd ≠ bitsOf (flipB (T.raw nd.toNat) (n.toNat - nd.toNat)) := fun x => by
          rw [h.nowK nd] at x
          exact flip_ne _ _ (by omega) hk ((bitsOf_inj hk (flipB_len _ _ hk)).1 x)
        obtain ⟨c1, c2⟩ := lays_ne hne
        rw [c1] at b1
        rw [c2] at b2
        exact ⟨b1, b2⟩
      · simp only [if_neg hb]
        exact ⟨trivial, h⟩
  · simp only [if_neg hs]
    exact ⟨trivial, h⟩
theorem Same.write (h : Same R T G) (nd : Bool) (data : List UInt8) (hl : data.length = 512) (hk : (T.raw nd.toNat).length = 512) : R.writeE nd data = (T.putB nd.toNat data).1 ∧ Same (R.write nd data) (T.putB nd.toNat data).2 G := by
  unfold RP.writeE RP.write TS.putB
  rw [h.state]
  by_cases hs : T.st = 0
  · simp only [if_pos hs]
    exact h.lays nd data hl hk
  · simp only [if_neg hs]
    exact ⟨trivial, h⟩
theorem puts_len (b : Nat) (data : List UInt8) (hl : data.length = 512) (k : Nat) (hk : (T.raw k).length = 512) : (((T.puts b data).2).raw k).length = 512 := by
  have hx : ((T.lay b data).raw k).length = 512 := by
    show (if k = b then data else T.raw k).length = 512
    split
    · exact hl
    · exact hk
  unfold TS.puts
  repeat' split
  · exact hk
  · exact hx
  · exact hk
  · exact hx
theorem Same.clear (h : Same R T G) (hk0 : (T.raw 0).length = 512) (hk1 : (T.raw 1).length = 512) : R.clearE = (T.clear G).1 ∧ Same R.clear (T.clear G).2 G := by
  unfold RP.clearE RP.clear TS.clear
  rw [h.state, h.data]
  by_cases hs : T.st = 0
  · simp only [if_pos hs]
    unfold TS.clearX
    obtain ⟨b1, b2⟩ := h.lays false (onesB G.data) (onesB_length _) hk0
    have b1' : R.laysE false (bitsOf (onesB G.data)) = (T.puts 0 (onesB G.data)).1 := b1
    have b2' : Same (R.lays false (bitsOf (onesB G.data))) (T.puts 0 (onesB G.data)).2 G := b2
    obtain ⟨c1, c2⟩ := b2'.lays true (zeros 512) (length_zeros _) (puts_len 0 (onesB G.data) (onesB_length _) 1 hk1)
    rw [bitsOf_zeros] at c1 c2
    rw [b1']
    by_cases hz : (T.puts 0 (onesB G.data)).1 = 0
    · simp only [if_pos hz]
      exact ⟨c1, c2⟩
    · simp only [if_neg hz]
      exact ⟨trivial, b2'⟩
  · simp only [if_neg hs]
    exact ⟨trivial, h⟩
theorem Same.left (h : Same R T G) : R.leftA (T.raw 0) (T.raw 1) = T.left G := by
  unfold RP.leftA TS.left
  rw [h.state, h.data, h.blocks, h.nodes]
end
end Go.Vk

namespace Go.Vk
open Go.RowKit Go.Proofs

theorem valK_div (bs : List UInt8) (i : Nat) (hi : i < 512) : ∀ n, n ≤ 8 → valK (bitsOf bs) i n = byteAt bs i / 2 ^ (8 - n)
  | 0, _ => by
    show 0 = _
    rw [Nat.div_eq_of_lt (byteAt_lt bs i)]
  | n + 1, h => by
    have ih := valK_div bs i hi n (by omega)
    have e1 : valK (bitsOf bs) i (n + 1) = 2 * valK (bitsOf bs) i n + (if (bitsOf bs).getD (8 * i + (7 - n)) false then 1 else 0) := rfl
    have hlt : 8 * i + (7 - n) < (bitsOf bs).length := by rw [bitsOf_length]; omega
    have e2 : (bitsOf bs).getD (8 * i + (7 - n)) false = bitOf bs (8 * i + (7 - n)) := by
      rw [List.getD_eq_getElem?_getD, List.getElem?_eq_getElem hlt, ← bitsOf_get bs _ hlt]; rfl
    have e3 : bitOf bs (8 * i + (7 - n)) = decide (byteAt bs i / 2 ^ (7 - n) % 2 = 1) := by
      unfold bitOf
      rw [show (8 * i + (7 - n)) / 8 = i by omega, show (8 * i + (7 - n)) % 8 = 7 - n by omega, Nat.testBit_eq_decide_div_mod_eq]
    have e4 : byteAt bs i / 2 ^ (8 - n) = byteAt bs i / 2 ^ (7 - n) / 2 := by
      rw [show 8 - n = (7 - n) + 1 by omega, Nat.pow_succ, Nat.div_div_eq_div_mul]
    rw [e1, ih, e2, e3, e4, show 8 - (n + 1) = 7 - n by omega]
    generalize byteAt bs i / 2 ^ (7 - n) = y
    by_cases hy : y % 2 = 1
    · simp [hy]; omega
    · simp [hy]; omega
theorem bytesOf_bitsOf {bs : List UInt8} (hl : bs.length = 512) : bytesOf (bitsOf bs) 512 = bs := by
  refine List.ext_getElem (by rw [length_bytesOf, hl]) fun i h1 h2 => ?_
  rw [length_bytesOf] at h1
  have : ∀ (l : List Bool) (h : i < (bytesOf l 512).length), (bytesOf l 512)[i] = UInt8.ofNat (valK l i 8) := fun l h => by simp [bytesOf]
  rw [this, valK_div bs i h1 8 (Nat.le_refl _)]
  have hx : byteAt bs i = bs[i].toNat := by unfold byteAt; rw [List.getD_eq_getElem?_getD, List.getElem?_eq_getElem h2]; rfl
  rw [hx]
  simp

/-- What a log that is well tells. -/
structure LOk (G : Geom) (L : LM) : Prop where
  li : L.life = G.life
  st : L.started = true
  Lf : L.first = 1
  Ln : L.n = G.lg
  lg : 18 ≤ G.lg ∧ G.lg ≤ 256
  th : L.tail ≤ L.head ∧ L.head - L.tail ≤ L.n
  ep : 1 ≤ L.epoch ∧ L.epoch < 2147483648
/-- A rig: the store's side is as T tells, the document's as R, and both go alike. -/
structure RX (w : World) (C : TxC) (r p q m : Nat) (T : TS) (R : RP) (Z X : Nat → Prop) : Prop where
  pl : PoolX w C T X
  hr : Blk w r (rigO (.pointer (some ⟨C.d, 0, none⟩)) (.pointer (some ⟨C.sb, 0, none⟩)) (.pointer (some ⟨p, 0, none⟩)) (.pointer (some ⟨q, 0, none⟩)) (.pointer (some ⟨m, 0, none⟩)) true)
  hp : Blk w p (poolO C.t)
  hq : Blk w q (poolO C.t)
  ref : RefRep w m R Z
  xr : X r
  xp : X p
  xq : X q
  zX : ∀ i, Z i → X i ∧ i ≠ r ∧ i ≠ p ∧ i ≠ q
  le : T.put.length ≤ 16
  hl : Blk w C.l (logO C.d T.lm)
  lF : C.l ∉ C.F
  xl : ∀ i, X i → i ≠ C.l
  lok : LOk C.G T.lm
  ovk : ∀ e ∈ C.ov, e.key < C.G.blocks
def TS.new (L : LM) (wr : Nat) : TS := ⟨fun _ => zeros 512, [], 0, fun _ => zeros 512, L, wr, false, 0⟩
theorem same_new (s lg n : Nat) (life : Int) (L : LM) (wr : Nat) : Same (newRP (s - (3 + lg)) n).begin (TS.new L wr) ⟨s, lg, n, life⟩ where
  nb := (bitsOf_zeros 512).symm
  nn := (bitsOf_zeros 512).symm
  raw := fun b _ h2 => by
    have e : bytesOf noBits 512 = zeros 512 := by rw [← bitsOf_zeros 512]; exact bytesOf_bitsOf (length_zeros _)
    show (List.replicate (s - (3 + lg)) (bytesOf noBits 512))[b]? = some (zeros 512)
    rw [e, List.getElem?_replicate, if_pos (show b < s - (3 + lg) from h2)]
  rl := List.length_replicate
  put := rfl
  sp := rfl
  op := rfl
  dead := rfl
  data := rfl
  blocks := rfl
  nodes := rfl
  od := ⟨(bitsOf_zeros 512).symm, (bitsOf_zeros 512).symm, fun b _ h2 => by
    have e : bytesOf noBits 512 = zeros 512 := by rw [← bitsOf_zeros 512]; exact bytesOf_bitsOf (length_zeros _)
    show (List.replicate (s - (3 + lg)) (bytesOf noBits 512))[b]? = some (zeros 512)
    rw [e, List.getElem?_replicate, if_pos (show b < s - (3 + lg) from h2)], List.length_replicate⟩
/-- All that a rig's calls may turn. -/
def Foot (C : TxC) (r p q : Nat) (Z : Nat → Prop) (i : Nat) : Prop := KF C i ∨ Z i ∨ i = r ∨ i = p ∨ i = q ∨ i = C.sb ∨ i = C.l ∨ i = C.mo
theorem TxRep.old {w w0 : World} {C : TxC} {M : TxM} {en : Bool} {X : Nat → Prop} (h : TxRep w C M en X) (h0 : M.cnt = 0) (hov : C.ov = []) (hx : ∀ i, i ∈ C.F ∨ i = C.t ∨ i = C.mx ∨ i = C.sb ∨ i = C.mo → w0.heap.size ≤ i) : TxRep w C M en (fun i => X i ∨ i < w0.heap.size) := by
  obtain ⟨own, xc, h1, h2, h3⟩ := h
  have ho : own = [] := List.eq_nil_of_length_eq_zero (h3.trans h0)
  subst ho
  refine ⟨[], xc, { h1 with xX := fun k hk => ?_ }, h2, h3⟩
  rcases hk with hk | hk
  · exact h1.xX k hk
  · refine ⟨fun e => ?_, fun e => ?_, fun e => ?_, fun e => ?_, fun e => ?_⟩
    · have := hx k (.inr (.inl e)); omega
    · have := hx k (.inr (.inr (.inr (.inl e)))); omega
    · have := hx k (.inl e); omega
    · rw [hov] at e
      have : k = C.mo := by simpa [mapFoot] using e
      have := hx k (.inr (.inr (.inr (.inr this)))); omega
    · have : k = C.mx := by simpa [mapFoot] using e
      have := hx k (.inr (.inr (.inl this))); omega
theorem RX.start {w0 w : World} {s lg n : Nat} (hp : PlanOk s lg n) (h2 : s ≤ 2048) (hg : ∀ G : Geom, G.s = s → G.lg = lg → G.n = n → GeoOk G) {e : Ending} (h : RigPost w0 s lg n e w) :
    ∃ (C : TxC) (r p q m : Nat) (R : RP) (Z X : Nat → Prop), e = .returned (.pointer (some ⟨r, 0, none⟩)) ∧ C.G.s = s ∧ C.G.lg = lg ∧ C.G.n = n ∧ RX w C r p q m (TS.new (newL C.G.lg C.G.life) 10000) R Z X ∧ Same R (TS.new (newL C.G.lg C.G.life) 10000) C.G ∧ (∀ i, Foot C r p q Z i → w0.heap.size ≤ i) ∧ (∀ i, i < w0.heap.size → X i) ∧ Keeps (fun _ => False) w0 w := by
  obtain ⟨C, r, p, q, m, Z, X, rfl, x1, x2, x3, x4, x5, x6, x7, x8, x9, x10, x11, x12, x13, x14, x15, x16, x17, x18, x19, x20, x21⟩ := h
  obtain ⟨life, g, hAn, hI, hlf, hz⟩ := new_store hp h2
  obtain ⟨g', hI', hAi, hWr⟩ := new_calm hp h2
  have hp' := hp
  unfold PlanOk at hp'
  have hblocks : C.G.blocks = s - (3 + lg) := by rw [x1]; rfl
  have hhome : C.G.home = 3 + lg := by rw [x1]; rfl
  have hlgG : C.G.lg = lg := by rw [x1]
  have hlife : C.G.life = wrap64 ((fmtD s lg n).life + 1) := by rw [x1]
  have hG := hg C.G (by rw [x1]) (by rw [x1]) (by rw [x1])
  have eL : newL C.G.lg C.G.life = newL lg (wrap64 ((fmtD s lg n).life + 1)) := by rw [hlgG, hlife]
  have hpx : PX C (TxM.new (newD s lg n)) (TS.new (newL lg (wrap64 ((fmtD s lg n).life + 1))) 10000) := by
    have ho : ∀ b, b < C.G.blocks → cmtB (newD s lg n) (ovOf C.ov) C.G.home b = zeros 512 := fun b hb => by
      rw [x2]
      have e : cmtB (newD s lg n) (ovOf []) C.G.home b = (newD s lg n).now (C.G.home + b) := rfl
      rw [e, hI.now _ (by omega), hz _ (by omega)]
    refine ⟨fun b hb => ho b hb, fun b => ⟨fun _ => by simp [TS.new], fun _ => rfl⟩, rfl, List.nodup_nil, by simp [TS.new], ?_, rfl, fun b hb => ho b hb, fun _ => ⟨⟨s, g', by rw [hlife]; exact hI', hAi, by rw [hhome, hblocks]; omega, h2⟩, hWr⟩, fun e => by cases e⟩
    · rw [x1]
      show goneB (newD s lg n) (wrap64 ((fmtD s lg n).life + 1)) = false
      unfold goneB; rw [hI.burnt, hI.lf, hlf]; simp
  have x7' := (x7.old (w0 := w0) rfl x2 (fun i hi => x15 i (.inr hi))).client (Y := fun i => (X i ∨ i < w0.heap.size) ∧ i ≠ C.l) (fun i hi => .inl hi.1)
  have hw := x16.size
  have hlF : C.l ∉ C.F := by
    obtain ⟨own, xc, z1, _⟩ := x7
    exact (z1.xX _ x12).2.2.1
  have hlw : w0.heap.size ≤ C.l := x15 _ (.inl x12)
  have hRX : RX w C r p q m (TS.new (newL lg (wrap64 ((fmtD s lg n).life + 1))) 10000) (newRP (s - (3 + lg)) n).begin Z (fun i => (X i ∨ i < w0.heap.size) ∧ i ≠ C.l) := by
    refine ⟨⟨⟨_, x7', hpx⟩, fun i hi => hi.1.elim (x14 i) (fun h => by omega), hG⟩, x3, x4, x5, x8, ⟨.inl x9, fun e => x21 e.symm⟩, ⟨.inl x10, x19⟩, ⟨.inl x11, x20⟩, fun i hi => ?_, by simp [TS.new], x6, hlF, fun i hi => hi.2, ?_, fun e he => by rw [x2] at he; cases he⟩
    · obtain ⟨a1, a2, a3, a4, a5⟩ := x13 i hi
      exact ⟨⟨.inl a1, a5⟩, a2, a3, a4⟩
    · exact ⟨hlife.symm, rfl, rfl, hlgG.symm, by rw [hlgG]; omega, ⟨Nat.le_refl _, Nat.zero_le _⟩, (by decide : 1 ≤ 2 ∧ 2 < 2147483648)⟩
  refine ⟨C, r, p, q, m, _, Z, fun i => (X i ∨ i < w0.heap.size) ∧ i ≠ C.l, rfl, by rw [x1], hlgG, by rw [x1], by rw [eL]; exact hRX, ?_, fun i hi => ?_, fun i hi => ⟨.inr hi, by omega⟩, x16⟩
  · have := same_new s lg n (wrap64 ((fmtD s lg n).life + 1)) (newL lg (wrap64 ((fmtD s lg n).life + 1))) 10000
    rw [← x1, ← eL] at this
    exact this
  · refine x15 i ?_
    rcases hi with (hi | hi | hi) | hi | hi | hi | hi | hi | hi | hi
    · exact .inr (.inl hi)
    · exact .inr (.inr (.inl hi))
    · exact .inr (.inr (.inr (.inl hi)))
    · exact .inl (x13 i hi).1
    · exact .inl (hi ▸ x9)
    · exact .inl (hi ▸ x10)
    · exact .inl (hi ▸ x11)
    · exact .inr (.inr (.inr (.inr (.inl hi))))
    · exact .inl (hi ▸ x12)
    · exact .inr (.inr (.inr (.inr (.inr hi))))
section
variable {w w' : World} {C : TxC} {r p q m : Nat} {T T' : TS} {R R' : RP} {Z X : Nat → Prop}
theorem Zn.up {i : Nat} (h : Z i) : Zn w w' Z i := .inl h
/-- Another's doing: it may turn what this one calls the client's, but not his rows. -/
theorem RX.other (h : RX w C r p q m T R Z X) {Gf : Nat → Prop} (k : Keeps Gf w w') (hG : ∀ i, i < w.heap.size → Gf i → X i ∧ ¬ Z i ∧ i ≠ r ∧ i ≠ p ∧ i ≠ q) : RX w' C r p q m T R Z (Zn w w' X) :=
  { pl := h.pl.grow k (fun i hi f => (hG i hi f).1) (fun i hi => hi.elim (fun x => ⟨Nat.lt_of_lt_of_le (h.pl.lt i x) k.size, .inl x⟩) (fun x => ⟨x.2, .inr x.1⟩))
    hr := k.blk h.hr (fun f => (hG r h.hr.lt f).2.2.1 rfl)
    hp := k.blk h.hp (fun f => (hG p h.hp.lt f).2.2.2.1 rfl)
    hq := k.blk h.hq (fun f => (hG q h.hq.lt f).2.2.2.2 rfl)
    ref := h.ref.keeps k (fun i hi f => (hG i (h.pl.lt i (h.zX i hi).1) f).2.1 hi)
    xr := .inl h.xr, xp := .inl h.xp, xq := .inl h.xq
    zX := fun i hi => ⟨.inl (h.zX i hi).1, (h.zX i hi).2⟩
    le := h.le
    hl := k.blk h.hl (fun f => h.xl _ (hG _ h.hl.lt f).1 rfl)
    lF := h.lF
    xl := fun i hi e => hi.elim (fun x => h.xl i x e) (fun x => by have := h.hl.lt; omega)
    lok := h.lok
    ovk := h.ovk }
/-- The log's block is none of those that a call of the pool turns. -/
theorem RX.lKF (h : RX w C r p q m T R Z X) : ¬ KF C C.l := by
  obtain ⟨M, ⟨own, xc, y1, _⟩, _⟩ := h.pl.rep
  have hl := h.hl
  rintro (x | x | x)
  · exact h.lF x
  · have ht := y1.ht
    rw [x] at hl
    unfold Blk at hl ht
    rw [hl] at ht
    simp [logO, txO] at ht
  · have ht := y1.hx.hm
    rw [x] at hl
    unfold Blk at hl ht
    rw [hl] at ht
    simp [logO, mapO] at ht
/-- A call of its pool. -/
theorem RX.pool (h : RX w C r p q m T R Z X) (k : Keeps (KF C) w w') (h' : PoolX w' C T' X) (hle : T'.put.length ≤ 16) (hlm : T'.lm = T.lm) : RX w' C r p q m T' R Z X :=
  { h with
    hl := by rw [hlm]; exact k.blk h.hl h.lKF
    lok := by rw [hlm]; exact h.lok
    pl := h'
    hr := h.pl.blk k h.hr h.xr
    hp := h.pl.blk k h.hp h.xp
    hq := h.pl.blk k h.hq h.xq
    ref := h.ref.keeps k (fun i hi f => h.pl.notF (h.zX i hi).1 f)
    le := hle }
/-- A call of the document's pool. -/
theorem RX.doc (h : RX w C r p q m T R Z X) (s : RStep w w' m R' Z) : RX w' C r p q m T R' (Zn w w' Z) (Zn w w' X) :=
  { pl := h.pl.grow s.k (fun i _ f => (h.zX i f).1) (fun i hi => hi.elim (fun x => ⟨Nat.lt_of_lt_of_le (h.pl.lt i x) s.k.size, .inl x⟩) (fun x => ⟨x.2, .inr x.1⟩))
    hr := s.k.blk h.hr (fun f => (h.zX r f).2.1 rfl)
    hp := s.k.blk h.hp (fun f => (h.zX p f).2.2.1 rfl)
    hq := s.k.blk h.hq (fun f => (h.zX q f).2.2.2 rfl)
    ref := s.rep
    xr := .inl h.xr, xp := .inl h.xp, xq := .inl h.xq
    zX := fun i hi => by
      have h1 := h.hr.lt
      have h2 := h.hp.lt
      have h3 := h.hq.lt
      rcases hi with hi | hi
      · exact ⟨.inl (h.zX i hi).1, (h.zX i hi).2⟩
      · exact ⟨.inr hi, by omega, by omega, by omega⟩
    le := h.le
    hl := s.k.blk h.hl (fun f => h.xl _ (h.zX _ f).1 rfl)
    lF := h.lF
    xl := fun i hi e => hi.elim (fun x => h.xl i x e) (fun x => by have := h.hl.lt; omega)
    lok := h.lok
    ovk := h.ovk }
end
end Go.Vk

namespace Go.Vk
open Go.RowKit Go.Proofs

theorem undBytes : (Tryz.prog).underlying 57 = some (.slice 5) := Tryz.underlying57
theorem undByte : (Tryz.prog).underlying 5 = some (.int .u8) := Tryz.underlying5
theorem undStr : (Tryz.prog).underlying 9 = some .string := Tryz.underlying9
section
variable {w w' : World} {C : TxC} {r p q m : Nat} {T T' : TS} {R R' : RP} {Z X Y : Nat → Prop}
theorem RX.wide (h : RX w C r p q m T R Z X) (h' : PoolX w C T Y) (hXY : ∀ i, X i → Y i) (hl : ∀ i, Y i → i ≠ C.l) : RX w C r p q m T R Z Y :=
  { h with xl := hl, pl := h', xr := hXY _ h.xr, xp := hXY _ h.xp, xq := hXY _ h.xq, zX := fun i hi => ⟨hXY _ (h.zX i hi).1, (h.zX i hi).2⟩ }
/-- What stands in the document's pool for a block. -/
theorem RX.rawAt (h : RX w C r p q m T R Z X) (hs : Same R T C.G) (b : Nat) (h2 : 2 ≤ b) (hb : b < C.G.blocks) : ∃ gR cR gu cu, w.cell? ⟨m, 8, none⟩ = some (.slice (some ⟨gR, 0, none⟩) C.G.blocks cR) ∧ w.cell? ⟨gR, b, none⟩ = some (.slice (some ⟨gu, 0, none⟩) 512 cu) ∧
    ∀ j (hj : j < (T.raw b).length), w.cell? ⟨gu, j, none⟩ = some (.int .u8 ((T.raw b)[j].toNat : Nat)) := by
  obtain ⟨V, hV⟩ := h.ref
  have hm := hV.hm
  unfold refO at hm
  have c8 := hm.cell 8
  simp at c8
  have hr := hV.rr
  have hrl := hs.rl
  obtain ⟨hr1, hr2, hr3⟩ := hr
  obtain ⟨gR, cR, eR, _, _⟩ := own_form hr1 (by omega)
  rw [eR] at c8 hr1
  have hraw := hs.raw b h2 hb
  have hbl : b < R.raw.length := by omega
  have hbu : b < V.uR.length := by omega
  have e1 : R.raw[b] = T.raw b := by rw [List.getElem?_eq_getElem hbl] at hraw; exact Option.some.inj hraw
  have hrow := hr3 b hbl V.uR[b] (List.getElem?_eq_getElem hbu)
  rw [e1] at hrow
  have hl := h.pl.len b hb
  obtain ⟨gu, cu, eu, _, _⟩ := own_form hrow (by omega)
  rw [eu] at hrow
  rw [hl] at eu
  refine ⟨gR, cR, gu, cu, by rw [c8, hrl], ?_, fun j hj => ?_⟩
  · rw [hrl] at hr1
    exact own_cell hr1 b _ (by rw [List.getElem?_eq_getElem hbu, eu])
  · exact own_cell hrow j _ (by rw [List.getElem?_map, List.getElem?_eq_getElem hj]; rfl)
theorem addr_add (g j : Nat) : (⟨g, 0, none⟩ : Addr).add j = ⟨g, j, none⟩ := by unfold Addr.add; split <;> simp_all
set_option maxRecDepth 100000 in
set_option maxHeartbeats 2000000 in
theorem others_w (h : RX w C r p q m T R Z X) (hs : Same R T C.G) (h0 : T.st = 0) (u : Nat) (hu : Blk w u (poolO C.t)) (xu : X u) : Calls Tryz.prog 130 #[.pointer (some ⟨r, 0, none⟩), .pointer (some ⟨u, 0, none⟩)] w fun e w' =>
    e = .returned (.bool true) ∧ RX w' C r p q m T R Z (Zn w w' X) ∧ Keeps (KF C) w w' := by
  have hb := h.pl.geo.b1
  have hb2 := h.pl.geo.b2
  have hst := h.wide (Y := Zn w w X) (h.pl.grow (Keeps.refl (fun _ => False) w) (fun _ _ f => f.elim) (fun i hi => hi.elim (fun x => ⟨h.pl.lt i x, .inl x⟩) (fun x => by omega))) (fun i hi => .inl hi) (fun i hi e => hi.elim (fun x => h.xl i x e) (fun x => by omega))
  have hrnd : ∀ wr (hR : RX wr C r p q m T R Z (Zn w wr X)) (hk : Keeps (KF C) w wr) k, 2 ≤ k → k < C.G.blocks → wr.cell? ⟨r, 4, none⟩ = some (.pointer (some ⟨m, 0, none⟩)) ∧ wr.cell? ⟨m, 0, none⟩ = some (.int .i64 (C.G.blocks : Nat)) ∧ wr.cell? ⟨u, 0, none⟩ = some (.pointer (some ⟨C.t, 0, none⟩)) ∧
      Calls Tryz.prog 58 #[.pointer (some ⟨C.t, 0, none⟩), .int .i64 k] wr fun e w2 => ∃ g kk gR cR gu cu s, e = .returned (.tuple #[.slice (some ⟨g, 0, none⟩) 512 (512 + kk), .int .i64 0]) ∧ w2.cell? ⟨r, 4, none⟩ = some (.pointer (some ⟨m, 0, none⟩)) ∧ w2.cell? ⟨m, 8, none⟩ = some (.slice (some ⟨gR, 0, none⟩) C.G.blocks cR) ∧ w2.cell? ⟨gR, k, none⟩ = some (.slice (some ⟨gu, 0, none⟩) 512 cu) ∧
        (∀ n, (convert 57 9 (.slice (some ⟨g, 0, none⟩) 512 (512 + kk))).run Tryz.prog (w2.drewN n) = .ok (.string s) (w2.drewN n)) ∧ (∀ n, (convert 57 9 (.slice (some ⟨gu, 0, none⟩) 512 cu)).run Tryz.prog (w2.drewN n) = .ok (.string s) (w2.drewN n)) ∧
        ∀ n, RX (w2.drewN n) C r p q m T R Z (Zn w (w2.drewN n) X) ∧ Keeps (KF C) w (w2.drewN n) := by
    intro wr hR hk k hk2 hkb
    have r4 := hR.hr.cell 4
    simp at r4
    have hm0 : wr.cell? ⟨m, 0, none⟩ = some (.int .i64 (C.G.blocks : Nat)) := by
      obtain ⟨V, hV⟩ := hR.ref
      have hm := hV.hm
      unfold refO at hm
      have := hm.cell 0
      rw [hs.blocks] at this
      simpa using this
    have hu2 := h.pl.blk hk hu xu
    refine ⟨r4, hm0, by have := hu2.cell 0; simpa using this, (hR.pl.get h0 k hkb).mono ?_⟩
    rintro e w2 ⟨g, kk, rfl, x1, x2, x3, x4⟩
    have hsz := hk.size
    have hsz2 := x4.size
    have hR2 := hR.pool x4 (x3.grow (Keeps.refl (fun _ => False) w2) (fun _ _ f => f.elim) (Y := Zn w wr X) (fun i hi => ⟨by have := hR.pl.lt i hi; omega, .inl (.inl hi)⟩)) hR.le rfl
    have hR3 := hR2.wide (Y := Zn w w2 X) (x3.grow (Keeps.refl (fun _ => False) w2) (fun _ _ f => f.elim) (fun i hi => by
      rcases hi with hi | hi
      · exact ⟨by have := h.pl.lt i hi; omega, .inl (.inl (.inl hi))⟩
      · refine ⟨hi.2, .inl ?_⟩
        by_cases e : i < wr.heap.size
        · exact .inl (.inr ⟨hi.1, e⟩)
        · exact .inr ⟨by omega, hi.2⟩)) (fun i hi => hi.elim .inl (fun x => .inr ⟨x.1, by omega⟩)) (fun i hi e => hi.elim (fun x => h.xl i x e) (fun x => by have := h.hl.lt; omega))
    obtain ⟨gR, cR, gu, cu, y1, y2, y3⟩ := hR3.rawAt hs k hk2 hkb
    have hl := hR3.pl.len k hkb
    have r4' := hR3.hr.cell 4
    simp at r4'
    refine ⟨g, kk, gR, cR, gu, cu, ⟨(T.raw k).toArray⟩, rfl, r4', y1, y2, fun n => ?_, fun n => ?_, fun n => ⟨?_, (hk.step x4).drewN n⟩⟩
    · have := run_convert_bytes_back (P := Tryz.prog) (w2.drewN n) 57 9 5 ⟨g, 0, none⟩ (512 + kk) (T.raw k) undBytes undByte undStr (fun j hj => by
        rw [addr_add]
        have := x2.cell j
        simp at this
        show w2.cell? _ = _
        rw [this, List.getElem?_append_left (by simpa using hj)]
        simp [B, hj])
      rwa [hl] at this
    · have := run_convert_bytes_back (P := Tryz.prog) (w2.drewN n) 57 9 5 ⟨gu, 0, none⟩ cu (T.raw k) undBytes undByte undStr (fun j hj => by
        rw [addr_add]
        exact y3 j hj)
      rwa [hl] at this
    · exact (hR3.pool (w' := w2.drewN n) ((Keeps.refl (KF C) w2).drewN n) (hR3.pl.quiet ((Keeps.refl (fun _ => False) w2).drewN n)) hR3.le rfl)
  have hc0 : ∀ wr (hR : RX wr C r p q m T R Z (Zn w wr X)), wr.cell? ⟨r, 4, none⟩ = some (.pointer (some ⟨m, 0, none⟩)) ∧ wr.cell? ⟨m, 0, none⟩ = some (.int .i64 (C.G.blocks : Nat)) := fun wr hR => by
    have r4 := hR.hr.cell 4
    simp at r4
    refine ⟨r4, ?_⟩
    obtain ⟨V, hV⟩ := hR.ref
    have hm := hV.hm
    unfold refO at hm
    have := hm.cell 0
    rw [hs.blocks] at this
    simpa using this
  have hkr := Keeps.refl (KF C) w
  generalize C.G.blocks = BL at *
  replace h := hid h; replace hs := hid hs; replace h0 := hid h0; replace hu := hid hu; replace hst := hid hst; replace hrnd := hid hrnd; replace hc0 := hid hc0; replace hkr := hid hkr
  go_enter Tryz.func130, Tryz.ntmps130
  go_wp2
  go_loopw [5] (fun i wr => ∃ k : Nat, 2 ≤ k ∧ k ≤ BL ∧ i = .int .i64 k ∧ RX wr C r p q m T R Z (Zn w wr X) ∧ Keeps (KF C) w wr) (fun i _ => BL - (intOf i).toNat)
  case atStart => exact ⟨2, by omega, by omega, rfl, hst.out, hkr.out⟩
  case round =>
    obtain ⟨k, hk2, hkb, rfl, hR, hk⟩ := hrel
    by_cases hlt2 : k < BL
    · have hki : (k : Int) < BL := by omega
      have hix : 0 ≤ (k : Int) ∧ (k : Int) < (BL : Nat) := by omega
      obtain ⟨c4, c0, cu0, hG⟩ := hrnd.out wr hR hk k hk2 hlt2
      replace hR := hid hR; replace hk := hid hk; replace hG := hid hG
      go_upto_region 5 with (go_at_call 58; refine hG.out.mono ?_; rintro e w2 ⟨g, kk, gR, cR, gu, cu, s, rfl, d4, d8, dk, v1, v2, hF⟩; replace hF := hid hF)
      go_quiet (first | (go_at_call 19; exact Calls.quiet_of_same ((num_w _ _).mono fun e w' x => ⟨x.1, x.2.symm⟩)))
      obtain ⟨f1, f2⟩ := hF.out nq
      replace f1 := hid f1; replace f2 := hid f2
      go_wp2
      exact ⟨⟨k + 1, by omega, by omega, by go_num, f1.out, f2.out⟩, by simp [intOf]; omega⟩
    · have hki : ¬ (k : Int) < BL := by omega
      obtain ⟨c4, c0⟩ := hc0.out wr hR
      replace hR := hid hR; replace hk := hid hk
      go_wp2
      go_ret
      exact ⟨rfl, hR.out, hk.out⟩
end
end Go.Vk

namespace Go.Vk
open Go.RowKit Go.Proofs

section
variable {w w' w0 : World} {C : TxC} {r p q m : Nat} {T T' : TS} {R R' : RP} {Z X Y : Nat → Prop}
theorem RX.zone (h : RX w C r p q m T R Z X) (h1 : ∀ i, X i → Y i) (h2 : ∀ i, Y i → X i) : RX w C r p q m T R Z Y := by
  have e : X = Y := funext fun i => propext ⟨h1 i, h2 i⟩
  rw [← e]; exact h
theorem RX.mv (h : RX w C r p q m T R Z (Zn w0 w X)) (hs : w0.heap.size ≤ w.heap.size) (k : Keeps (fun _ => False) w w') : RX w' C r p q m T R Z (Zn w0 w' X) :=
  (h.other k (fun _ _ f => f.elim)).zone (fun i hi => Zn.trans hs k.size hi) (fun i hi => by
    rcases hi with hi | hi
    · exact .inl (.inl hi)
    · by_cases e : i < w.heap.size
      · exact .inl (.inr ⟨hi.1, e⟩)
      · exact .inr ⟨by omega, hi.2⟩)
theorem RX.refl (h : RX w C r p q m T R Z X) : RX w C r p q m T R Z (Zn w w X) := h.zone (fun i hi => .inl hi) (fun i hi => hi.elim id (fun x => by omega))
/-- Both bitmaps told, and the rig as it was. -/
structure Lk (w0 : World) (C : TxC) (r p q m : Nat) (T : TS) (R : RP) (Z X : Nat → Prop) (va vb : Value) (w : World) : Prop where
  rx : RX w C r p q m T R Z (Zn w0 w X)
  k : Keeps (KF C) w0 w
  a : ByteSl w va (T.raw 0)
  b : ByteSl w vb (T.raw 1)
theorem Lk.quiet {va vb : Value} (h : Lk w0 C r p q m T R Z X va vb w) (k : Keeps (fun _ => False) w w') : Lk w0 C r p q m T R Z X va vb w' :=
  ⟨h.rx.mv h.k.size k, h.k.step (k.mono fun _ _ f => f.elim), h.a.keeps k (fun _ _ f => f), h.b.keeps k (fun _ _ f => f)⟩
theorem RX.get (h : RX w C r p q m T R Z (Zn w0 w X)) (hs : w0.heap.size ≤ w.heap.size) (h0 : T.st = 0) (b : Nat) (hb : b < C.G.blocks) : Calls Tryz.prog 58 #[.pointer (some ⟨C.t, 0, none⟩), .int .i64 b] w fun e w' =>
    ∃ g k, e = .returned (.tuple #[.slice (some ⟨g, 0, none⟩) 512 (512 + k), .int .i64 0]) ∧ RX w' C r p q m T R Z (Zn w0 w' X) ∧ Keeps (KF C) w w' ∧ ByteSl w' (.slice (some ⟨g, 0, none⟩) 512 (512 + k)) (T.raw b) ∧ ¬ KF C g := by
  have hl := h.pl.len b hb
  refine (h.pl.get h0 b hb).mono ?_
  rintro e w2 ⟨g, kk, rfl, x1, x2, x3, x4⟩
  have hsz2 := x4.size
  have hR2 := h.pool x4 (x3.grow (Keeps.refl (fun _ => False) w2) (fun _ _ f => f.elim) (Y := Zn w0 w X) (fun i hi => ⟨by have := h.pl.lt i hi; omega, .inl (.inl hi)⟩)) h.le rfl
  have hR3 := hR2.wide x3 (fun i hi => .inl hi) (fun i hi e => hi.elim (fun x => hR2.xl i x e) (fun x => by have := h.hl.lt; omega))
  refine ⟨g, kk, rfl, hR3.zone (fun i hi => Zn.trans hs hsz2 hi) (fun i hi => ?_), x4, ?_, x3.notF (.inr ⟨x1, x2.lt⟩)⟩
  · rcases hi with hi | hi
    · exact .inl (.inl hi)
    · by_cases e : i < w.heap.size
      · exact .inl (.inr ⟨hi.1, e⟩)
      · exact .inr ⟨by omega, hi.2⟩
  · refine ⟨some ⟨g, 0, none⟩, 512 + kk, by rw [hl], .inr ⟨g, 0, rfl, fun i hi => ?_⟩⟩
    have := x2.cell i
    simp at this
    rw [Nat.zero_add, this, List.getElem?_append_left (by simpa using hi)]
    simp [B, hi]
theorem Lk.bytes {va vb : Value} (h : Lk w0 C r p q m T R Z X va vb w) (hs : Same R T C.G) (nd : Bool) : ∃ g cap, w.cell? ⟨m, 5 + nd.toNat, none⟩ = some (.slice (some ⟨g, 0, none⟩) 4096 cap) ∧
    Calls Tryz.prog 129 #[.slice (some ⟨g, 0, none⟩) 4096 cap] w fun e w' => ∃ v, e = .returned v ∧ Lk w0 C r p q m T R Z X va vb w' ∧ Calls Tryz.prog 23 #[if nd then vb else va, v] w' fun e w'' => e = .returned (.bool true) ∧ Lk w0 C r p q m T R Z X va vb w'' := by
  obtain ⟨V, hV⟩ := h.rx.ref
  obtain ⟨hr, hl⟩ := hV.rowK nd
  obtain ⟨g, cap, e1, _, hglt, e2⟩ := BoolRow.slice hr (by omega)
  have hc := hV.cellK nd
  rw [e1, hl] at hc
  have hgeo := h.rx.pl.geo.b1
  have hlen := h.rx.pl.len nd.toNat (by cases nd <;> simp <;> omega)
  refine ⟨g, cap, hc, (rbytes_w w g cap (R.nowK nd) e2 hl).mono ?_⟩
  rintro e w2 ⟨v, rfl, hv, hk⟩
  rw [hs.nowK nd, bytesOf_bitsOf hlen] at hv
  have h2 := h.quiet hk
  refine ⟨v, rfl, h2, ?_⟩
  have hab : ByteSl w2 (if nd then vb else va) (T.raw nd.toNat) := by
    cases nd
    · exact h2.a
    · exact h2.b
  refine (same_w w2 _ v _ _ hab hv.sl (by omega) (by omega)).mono ?_
  rintro e w3 ⟨rfl, k, rfl⟩
  exact ⟨by simp, h2.quiet ((Keeps.refl _ w2).drewN k)⟩
set_option maxRecDepth 100000 in
set_option maxHeartbeats 2000000 in
theorem looks_w (h : RX w C r p q m T R Z X) (hs : Same R T C.G) (u : Nat) (hu : Blk w u (poolO C.t)) (xu : X u) : Calls Tryz.prog 78 #[.pointer (some ⟨r, 0, none⟩), .pointer (some ⟨u, 0, none⟩)] w fun e w' =>
    e = .returned (.bool true) ∧ RX w' C r p q m T R Z (Zn w w' X) ∧ Keeps (KF C) w w' := by
  have hgeo := h.pl.geo.b1
  have c0 := hu.cell 0
  simp at c0
  have r4 := h.hr.cell 4
  simp at r4
  have hst := fun W (hR : RX W C r p q m T R Z (Zn w W X)) => rstate_w hR.ref
  rw [hs.state] at hst
  by_cases h0 : T.st = 0
  · have hG0 := h.refl.get (Nat.le_refl _) h0 0 (by omega)
    have hG1 : ∀ w1 (hR : RX w1 C r p q m T R Z (Zn w w1 X)) (k1 : Keeps (KF C) w w1) va (ha : ByteSl w1 va (T.raw 0)) (hva : ∀ g, va.ownBlock = some g → ¬ KF C g), w1.cell? ⟨u, 0, none⟩ = some (.pointer (some ⟨C.t, 0, none⟩)) ∧
        Calls Tryz.prog 58 #[.pointer (some ⟨C.t, 0, none⟩), .int .i64 1] w1 fun e w2 => ∃ g k, e = .returned (.tuple #[.slice (some ⟨g, 0, none⟩) 512 (512 + k), .int .i64 0]) ∧ w2.cell? ⟨r, 4, none⟩ = some (.pointer (some ⟨m, 0, none⟩)) ∧ Lk w C r p q m T R Z X va (.slice (some ⟨g, 0, none⟩) 512 (512 + k)) w2 := by
      intro w1 hR k1 va ha hva
      refine ⟨by have := (h.pl.blk k1 hu xu).cell 0; simpa using this, (hR.get k1.size h0 1 (by omega)).mono ?_⟩
      rintro e w2 ⟨g, k, rfl, x1, x2, x3, x4⟩
      refine ⟨g, k, rfl, by have := x1.hr.cell 4; simpa using this, ⟨x1, k1.step x2, ha.keeps x2 hva, x3⟩⟩
    have hBy := fun W va vb (hL : Lk w C r p q m T R Z X va vb W) nd => hL.bytes hs nd
    have hC4 := fun W va vb (hL : Lk w C r p q m T R Z X va vb W) => (by have := hL.rx.hr.cell 4; simpa using this : W.cell? ⟨r, 4, none⟩ = some (.pointer (some ⟨m, 0, none⟩)))
    have hOt : ∀ W va vb (hL : Lk w C r p q m T R Z X va vb W), Calls Tryz.prog 130 #[.pointer (some ⟨r, 0, none⟩), .pointer (some ⟨u, 0, none⟩)] W fun e w' => e = .returned (.bool true) ∧ RX w' C r p q m T R Z (Zn w w' X) ∧ Keeps (KF C) w w' := fun W va vb hL => by
      refine (others_w hL.rx hs h0 u (h.pl.blk hL.k hu xu) (.inl xu)).mono ?_
      rintro e w' ⟨rfl, y1, y2⟩
      refine ⟨rfl, y1.zone (fun i hi => Zn.trans hL.k.size y2.size hi) (fun i hi => ?_), hL.k.step y2⟩
      rcases hi with hi | hi
      · exact .inl (.inl hi)
      · by_cases e : i < W.heap.size
        · exact .inl (.inr ⟨hi.1, e⟩)
        · exact .inr ⟨by omega, hi.2⟩
    rw [h0] at hst
    replace h := hid h; replace hs := hid hs; replace hu := hid hu; replace hst := hid hst; replace h0 := hid h0; replace hG0 := hid hG0; replace hG1 := hid hG1; replace hBy := hid hBy; replace hC4 := hid hC4; replace hOt := hid hOt
    go_enter Tryz.func78, Tryz.ntmps78
    go_upto_region 6 with (first
      | (go_at_call_of 58 (Value.int .i64 0); refine hG0.out.mono ?_; rintro e w1 ⟨g, k, rfl, x1, x2, x3, x4⟩; obtain ⟨d0, hG⟩ := hG1.out w1 x1 x2 _ x3 (fun g' e => by cases e; exact x4); replace hG := hid hG; clear x1 x2 x3 x4)
      | (go_at_call 58; refine hG.out.mono ?_; rintro e w2 ⟨g2, k2, rfl, d4, hL⟩; have hS2 := hst.out _ hL.rx; replace hS2 := hid hS2; replace hL := hid hL)
      | (go_at_call 126; refine hS2.out.mono ?_; rintro e w3 ⟨rfl, rfl⟩))
    obtain ⟨gB, cB, hcB, hB1⟩ := hBy.out _ _ _ hL.out false
    simp only [Bool.toNat_false, Bool.false_eq_true, if_false, Nat.add_zero] at hcB hB1
    replace hB1 := hid hB1
    go_wp2_with (first
      | (go_at_call 129; first
          | (refine hB1.out.mono ?_; rintro e w4 ⟨v4, rfl, hL4, hS4⟩; replace hS4 := hid hS4; clear hL4 hB1)
          | (refine hB2.out.mono ?_; rintro e w6 ⟨v6, rfl, hL6, hS6⟩; replace hS6 := hid hS6; clear hL6 hB2))
      | (go_at_call 23; first
          | (refine hS4.out.mono ?_; rintro e w5 ⟨rfl, hL5⟩; have d45 := hC4.out _ _ _ hL5; obtain ⟨gN, cN, hcN, hB2⟩ := hBy.out _ _ _ hL5 true; simp only [Bool.toNat_true, if_true, Nat.reduceAdd] at hcN hB2; replace hB2 := hid hB2; clear hS4 hL5)
          | (refine hS6.out.mono ?_; rintro e w7 ⟨rfl, hL7⟩; have hO := hOt.out _ _ _ hL7; replace hO := hid hO; clear hS6 hL7))
      | (go_at_call 130; refine hO.out.mono ?_; rintro e w8 ⟨rfl, y1, y2⟩; replace y1 := hid y1; replace y2 := hid y2)
      | (go_at_call 19; refine (num_w _ _).mono ?_; rintro e w' ⟨rfl, rfl⟩))
    go_ret
    exact ⟨rfl, y1.out, y2.out⟩
  · have hG0 : ∀ W (hR : RX W C r p q m T R Z (Zn w W X)) (k : Keeps (fun _ => False) w W) b, Calls Tryz.prog 58 #[.pointer (some ⟨C.t, 0, none⟩), .int .i64 (b : Nat)] W fun e w' => e = .returned (.tuple #[.slice none 0 0, .int .i64 (T.st : Nat)]) ∧ RX w' C r p q m T R Z (Zn w w' X) ∧ Keeps (fun _ => False) w w' ∧ w'.cell? ⟨u, 0, none⟩ = some (.pointer (some ⟨C.t, 0, none⟩)) ∧ w'.cell? ⟨r, 4, none⟩ = some (.pointer (some ⟨m, 0, none⟩)) := fun W hR k b => by
      refine (hR.pl.get_bad h0 b).mono ?_
      rintro e w' ⟨rfl, _, y2⟩
      have hk := k.step y2
      have hR2 := hR.mv k.size y2
      exact ⟨rfl, hR2, hk, by have := (hk.blk hu (fun f => f)).cell 0; simpa using this, by have := hR2.hr.cell 4; simpa using this⟩
    have hF0 := hG0 w h.refl (Keeps.refl _ w) 0
    have hsi : ¬ (T.st : Int) = 0 := by omega
    generalize T.st = s at *
    replace h := hid h; replace hs := hid hs; replace hu := hid hu; replace hst := hid hst; replace h0 := hid h0; replace hG0 := hid hG0; replace hF0 := hid hF0
    go_enter Tryz.func78, Tryz.ntmps78
    go_wp2_with (first
      | (go_at_call 58; first
          | (refine hF0.out.mono ?_; rintro e w1 ⟨rfl, x1, x2, d0, d4⟩; have hF1 := hG0.out _ x1 x2 1; replace hF1 := hid hF1; clear hF0 x1 x2)
          | (refine hF1.out.mono ?_; rintro e w2 ⟨rfl, z1, z2, d02, d42⟩; have hS2 := hst.out _ z1; replace hS2 := hid hS2; replace z1 := hid z1; replace z2 := hid z2; clear hF1))
      | (go_at_call 126; refine hS2.out.mono ?_; rintro e w3 ⟨rfl, rfl⟩)
      | (go_at_call 19; refine (num_w _ _).mono ?_; rintro e w' ⟨rfl, rfl⟩))
    go_ret
    exact ⟨rfl, z1.out, z2.out.mono fun _ _ f => f.elim⟩
end
end Go.Vk
