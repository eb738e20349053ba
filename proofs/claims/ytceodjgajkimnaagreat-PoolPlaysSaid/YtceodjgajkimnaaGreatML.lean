/- Plain: what the calls of a pool do to both bitmaps, where nothing but the bitmaps is put: the budget is never met. A pool's calls over both bitmaps, where nothing but the bitmaps is put. Plain: the disk of a new store, behind New, Format and Open. The walks of the law's own small functions: within, super, num, span. The walks of span, takes, drops of the law. Rows of ints; the walks of has and without of the law. -/
import Derived.Test.YtceodjgajkimnaaGreatMJ
import Derived.Test.YtceodjgajkimnaaGreatMG
import Derived.Test.YtceodjgajkimnaaGreatMK
set_option linter.unusedVariables false

namespace Go.Vk

/-- What the transaction sees: both bitmaps; nothing else was put. -/
structure PS (C : TxC) (M : TxM) (bs ns : List UInt8) : Prop where
  g0 : M.get C 0 = bs
  g1 : M.get C 1 = ns
  live : goneB M.D C.G.life = false
  bud : M.cnt + (if M.own 0 = none then 1 else 0) + (if M.own 1 = none then 1 else 0) ≤ 2

theorem goneB_read (C : TxC) (M : TxM) (b : Nat) : goneB (M.read C b).D C.G.life = goneB M.D C.G.life := by
  unfold goneB TxM.read
  dsimp only
  rw [getD'_burnt, getD'_life]
theorem TxM.get_putC (C : TxC) (M : TxM) (b : Nat) (data : List UInt8) (k : Nat) : (M.putC b data).get C k = if k = b then data else M.get C k := by
  unfold TxM.get TxM.putC getB
  dsimp only
  split <;> rfl
theorem TxM.get_sp (C : TxC) (M : TxM) (sp k : Nat) : ({ M with sp := sp } : TxM).get C k = M.get C k := rfl

section
variable {C : TxC} {M : TxM} {bs ns : List UInt8}
theorem PS.read (h : PS C M bs ns) (b : Nat) : PS C (M.read C b) bs ns :=
  ⟨by rw [TxM.get_read]; exact h.g0, by rw [TxM.get_read]; exact h.g1, by rw [goneB_read]; exact h.live, h.bud⟩
theorem PS.sp (h : PS C M bs ns) (sp : Nat) : PS C { M with sp := sp } bs ns := ⟨h.g0, h.g1, h.live, h.bud⟩
theorem PS.st (h : PS C M bs ns) (h0 : M.sp = 0) : txState M.D C.G.life M.sp false = 0 := by
  unfold txState; rw [h.live, h0]; rfl
theorem PS.stsp (h : PS C M bs ns) : txState M.D C.G.life M.sp false = M.sp := by
  unfold txState; rw [h.live]; rfl
theorem PS.put0 (h : PS C M bs ns) (data : List UInt8) : (M.put C 0 data).1 = 0 ∧ PS C (M.put C 0 data).2 data ns ∧ (M.put C 0 data).2.sp = M.sp := by
  unfold TxM.put
  by_cases hq : M.get C 0 = data
  · rw [if_pos hq]
    refine ⟨rfl, ?_, rfl⟩
    have := h.read 0
    rw [← h.g0] at this
    rw [← hq]; exact this
  · have hb : ¬ (M.own 0 = none ∧ 16 ≤ M.cnt) := fun x => by have := h.bud; omega
    rw [if_neg hq, if_neg hb]
    refine ⟨rfl, ⟨?_, ?_, (goneB_read C M 0).trans h.live, ?_⟩, rfl⟩
    · rw [TxM.get_putC, if_pos rfl]
    · rw [TxM.get_putC, if_neg (by decide), TxM.get_read]; exact h.g1
    · have hbu := h.bud
      have e0 : ((M.read C 0).putC 0 data).own 0 = some data := by simp [TxM.putC]
      have e1 : ((M.read C 0).putC 0 data).own 1 = M.own 1 := by simp [TxM.putC, TxM.read]
      have ec : ((M.read C 0).putC 0 data).cnt = if (M.own 0).isSome then M.cnt else M.cnt + 1 := rfl
      rw [e0, e1, ec]
      cases h0 : M.own 0 with
      | none => rw [h0] at hbu; simp at hbu ⊢; omega
      | some x => rw [h0] at hbu; simp at hbu ⊢; omega
theorem PS.put1 (h : PS C M bs ns) (data : List UInt8) : (M.put C 1 data).1 = 0 ∧ PS C (M.put C 1 data).2 bs data ∧ (M.put C 1 data).2.sp = M.sp := by
  unfold TxM.put
  by_cases hq : M.get C 1 = data
  · rw [if_pos hq]
    refine ⟨rfl, ?_, rfl⟩
    have := h.read 1
    rw [← h.g1] at this
    rw [← hq]; exact this
  · have hb : ¬ (M.own 1 = none ∧ 16 ≤ M.cnt) := fun x => by have := h.bud; omega
    rw [if_neg hq, if_neg hb]
    refine ⟨rfl, ⟨?_, ?_, (goneB_read C M 1).trans h.live, ?_⟩, rfl⟩
    · rw [TxM.get_putC, if_neg (by decide), TxM.get_read]; exact h.g0
    · rw [TxM.get_putC, if_pos rfl]
    · have hbu := h.bud
      have e0 : ((M.read C 1).putC 1 data).own 1 = some data := by simp [TxM.putC]
      have e1 : ((M.read C 1).putC 1 data).own 0 = M.own 0 := by simp [TxM.putC, TxM.read]
      have ec : ((M.read C 1).putC 1 data).cnt = if (M.own 1).isSome then M.cnt else M.cnt + 1 := rfl
      rw [e0, e1, ec]
      cases h0 : M.own 1 with
      | none => rw [h0] at hbu; simp at hbu ⊢; omega
      | some x => rw [h0] at hbu; simp at hbu ⊢; omega

/-- What a take answers, and what both bitmaps are behind it. -/
def TakeS (r : (Nat × Nat) × TxM) (C : TxC) (bs ns : List UInt8) (sp : Nat) (first no : Nat) (nodes : Bool) : Option Nat → Prop
  | some i => r.1 = (i + first, 0) ∧ PS C r.2 (if nodes then bs else flipB bs i) (if nodes then flipB ns i else ns) ∧ r.2.sp = sp
  | none => r.1 = (0, no) ∧ PS C r.2 bs ns ∧ r.2.sp = no
theorem PS.takeB (h : PS C M bs ns) (lo top first no : Nat) : TakeS (M.take C 0 lo top first no) C bs ns M.sp first no false (firstFree bs lo top) := by
  unfold TxM.take TxM.takeR
  rw [h.g0]
  cases hf : firstFree bs lo top with
  | some i =>
    obtain ⟨a1, a2, a3⟩ := (h.read 0).put0 (flipB bs i)
    dsimp only [TakeS]
    rw [a1]
    exact ⟨by simp, by simpa using a2, a3⟩
  | none => exact ⟨rfl, (h.read 0).sp no, rfl⟩
theorem PS.takeN (h : PS C M bs ns) (lo top first no : Nat) : TakeS (M.take C 1 lo top first no) C bs ns M.sp first no true (firstFree ns lo top) := by
  unfold TxM.take TxM.takeR
  rw [h.g1]
  cases hf : firstFree ns lo top with
  | some i =>
    obtain ⟨a1, a2, a3⟩ := (h.read 1).put1 (flipB ns i)
    dsimp only [TakeS]
    rw [a1]
    exact ⟨by simp, by simpa using a2, a3⟩
  | none => exact ⟨rfl, (h.read 1).sp no, rfl⟩
theorem PS.dropB (h : PS C M bs ns) (i : Nat) : (M.drop C 0 i).1 = (if bitOf bs i = true then 0 else 62) ∧ PS C (M.drop C 0 i).2 (if bitOf bs i = true then flipB bs i else bs) ns ∧ (M.drop C 0 i).2.sp = M.sp := by
  unfold TxM.drop TxM.dropR
  rw [h.g0]
  by_cases hb : bitOf bs i = true
  · obtain ⟨a1, a2, a3⟩ := (h.read 0).put0 (flipB bs i)
    rw [if_pos hb, if_pos hb, if_pos hb]
    exact ⟨a1, a2, a3⟩
  · rw [if_neg hb, if_neg hb, if_neg hb]
    exact ⟨rfl, h.read 0, rfl⟩
theorem PS.dropN (h : PS C M bs ns) (i : Nat) : (M.drop C 1 i).1 = (if bitOf ns i = true then 0 else 62) ∧ PS C (M.drop C 1 i).2 bs (if bitOf ns i = true then flipB ns i else ns) ∧ (M.drop C 1 i).2.sp = M.sp := by
  unfold TxM.drop TxM.dropR
  rw [h.g1]
  by_cases hb : bitOf ns i = true
  · obtain ⟨a1, a2, a3⟩ := (h.read 1).put1 (flipB ns i)
    rw [if_pos hb, if_pos hb, if_pos hb]
    exact ⟨a1, a2, a3⟩
  · rw [if_neg hb, if_neg hb, if_neg hb]
    exact ⟨rfl, h.read 1, rfl⟩
theorem PS.clear (h : PS C M bs ns) : (M.clear C).1 = 0 ∧ PS C (M.clear C).2 (onesB (2 + C.G.n / 4)) (zeros 512) ∧ (M.clear C).2.sp = M.sp := by
  obtain ⟨a1, a2, a3⟩ := h.put0 (onesB (2 + C.G.n / 4))
  obtain ⟨b1, b2, b3⟩ := a2.put1 (zeros 512)
  unfold TxM.clear
  rw [if_pos a1]
  exact ⟨b1, b2, b3.trans a3⟩
end
end Go.Vk

namespace Go.Vk
open Go.RowKit Go.Proofs

/-- What a call of the transaction may turn. -/
def KF (C : TxC) (i : Nat) : Prop := i ∈ C.F ∨ i = C.t ∨ i = C.mx

/-- A right geometry. -/
structure GeoOk (G : Geom) : Prop where
  b1 : 2 + G.n / 4 < G.blocks
  b2 : G.blocks ≤ 2048
  n1 : 4 ≤ G.n
  n2 : G.n ≤ 1024

structure PoolSt (w : World) (C : TxC) (bs ns : List UInt8) (sp : Nat) (X : Nat → Prop) : Prop where
  rep : ∃ M, TxRep w C M false X ∧ PS C M bs ns ∧ M.sp = sp
  lt : ∀ i, X i → i < w.heap.size
  geo : GeoOk C.G

section
variable {w w' : World} {C : TxC} {bs ns : List UInt8} {sp : Nat} {X : Nat → Prop} {p : Nat}

theorem PoolSt.notF (h : PoolSt w C bs ns sp X) {i : Nat} (hi : X i) : ¬ KF C i := by
  obtain ⟨M, h1, _⟩ := h.rep
  obtain ⟨a1, a2, a3⟩ := h1.notF hi
  rintro (x | x | x)
  · exact a1 x
  · exact a2 x
  · exact a3 x
theorem PoolSt.len0 (h : PoolSt w C bs ns sp X) : bs.length = 512 := by
  obtain ⟨M, h1, h2, _⟩ := h.rep
  rw [← h2.g0]; exact h1.get_len 0 (by have := h.geo.b1; omega)
theorem PoolSt.len1 (h : PoolSt w C bs ns sp X) : ns.length = 512 := by
  obtain ⟨M, h1, h2, _⟩ := h.rep
  rw [← h2.g1]; exact h1.get_len 1 (by have := h.geo.b1; omega)
/-- What changes only what the client owns; what is new is his. -/
theorem PoolSt.grow (h : PoolSt w C bs ns sp X) {Gf : Nat → Prop} (k : Keeps Gf w w') (hG : ∀ i, i < w.heap.size → Gf i → X i) {Y : Nat → Prop} (hY : ∀ i, Y i → i < w'.heap.size ∧ (X i ∨ w.heap.size ≤ i)) : PoolSt w' C bs ns sp Y := by
  obtain ⟨M, h1, h2, h3⟩ := h.rep
  refine ⟨⟨M, ?_, h2, h3⟩, fun i hi => (hY i hi).1, h.geo⟩
  have h4 := h1.client (Y := fun i => X i ∨ w.heap.size ≤ i) (fun i hi => hi)
  exact (h4.quiet k (fun i hi => (Nat.lt_or_ge i w.heap.size).elim (fun e => .inl (hG i e hi)) .inr)).client (fun i hi => .inl (hY i hi).2)
theorem PoolSt.quiet (h : PoolSt w C bs ns sp X) (k : Keeps (fun _ => False) w w') : PoolSt w' C bs ns sp X :=
  h.grow k (fun _ _ f => f.elim) (fun i hi => ⟨Nat.lt_of_lt_of_le (h.lt i hi) k.size, .inl hi⟩)
theorem PoolSt.blk (h : PoolSt w C bs ns sp X) (k : Keeps (KF C) w w') {b : Nat} {o : Obj} (hb : Blk w b o) (hX : X b) : Blk w' b o := k.blk hb (h.notF hX)

/-- What a take finds. -/
def tkF (G : Geom) (bs ns : List UInt8) (nd : Bool) : Option Nat := if nd then firstFree ns 0 G.n else firstFree bs G.data G.blocks
def noE (nd : Bool) : Nat := if nd then 61 else 60
def TkPost (w : World) (C : TxC) (bs ns : List UInt8) (X : Nat → Prop) (nd : Bool) (e : Ending) (w' : World) : Prop :=
  Keeps (KF C) w w' ∧ match tkF C.G bs ns nd with
    | some i => e = .returned (.tuple #[.int .i64 (i + nd.toNat : Nat), .int .i64 (0 : Nat)]) ∧ PoolSt w' C (if nd then bs else flipB bs i) (if nd then flipB ns i else ns) 0 X
    | none => e = .returned (.tuple #[.int .i64 (0 : Nat), .int .i64 (noE nd : Nat)]) ∧ PoolSt w' C bs ns (noE nd) X
theorem PoolSt.takeB (h : PoolSt w C bs ns 0 X) (hp : Blk w p (poolO C.t)) (hpX : X p) : Calls Tryz.prog 49 #[.pointer (some ⟨p, 0, none⟩)] w (TkPost w C bs ns X false) := by
  obtain ⟨M, h1, h2, h3⟩ := h.rep
  have hg := h.geo
  refine (takeB_ok hp hpX h1 (h2.st h3) h.lt (by have := hg.b1; omega) (by have := hg.b1; omega) (by have := hg.b2; omega)).mono ?_
  rintro e w' ⟨rfl, x2, x3⟩
  have hs := h2.takeB (2 + C.G.n / 4) C.G.blocks 0 60
  have hl : ∀ i, X i → i < w'.heap.size := fun i hi => Nat.lt_of_lt_of_le (h.lt i hi) x3.size
  have hF : tkF C.G bs ns false = firstFree bs (2 + C.G.n / 4) C.G.blocks := rfl
  refine ⟨x3, ?_⟩
  rw [hF]
  cases hf : firstFree bs (2 + C.G.n / 4) C.G.blocks with
  | some i =>
    rw [hf] at hs
    obtain ⟨a1, a2, a3⟩ := hs
    rw [a1]
    exact ⟨rfl, ⟨_, x2, a2, a3.trans h3⟩, hl, hg⟩
  | none =>
    rw [hf] at hs
    obtain ⟨a1, a2, a3⟩ := hs
    rw [a1]
    exact ⟨rfl, ⟨_, x2, a2, a3⟩, hl, hg⟩
theorem PoolSt.takeN (h : PoolSt w C bs ns 0 X) (hp : Blk w p (poolO C.t)) (hpX : X p) : Calls Tryz.prog 48 #[.pointer (some ⟨p, 0, none⟩)] w (TkPost w C bs ns X true) := by
  obtain ⟨M, h1, h2, h3⟩ := h.rep
  have hg := h.geo
  refine (takeN_ok hp hpX h1 (h2.st h3) h.lt (by have := hg.b1; omega) (Nat.zero_le _) (by have := hg.n2; omega)).mono ?_
  rintro e w' ⟨rfl, x2, x3⟩
  have hs := h2.takeN 0 C.G.n 1 61
  have hl : ∀ i, X i → i < w'.heap.size := fun i hi => Nat.lt_of_lt_of_le (h.lt i hi) x3.size
  have hF : tkF C.G bs ns true = firstFree ns 0 C.G.n := rfl
  refine ⟨x3, ?_⟩
  rw [hF]
  cases hf : firstFree ns 0 C.G.n with
  | some i =>
    rw [hf] at hs
    obtain ⟨a1, a2, a3⟩ := hs
    rw [a1]
    exact ⟨rfl, ⟨_, x2, a2, a3.trans h3⟩, hl, hg⟩
  | none =>
    rw [hf] at hs
    obtain ⟨a1, a2, a3⟩ := hs
    rw [a1]
    exact ⟨rfl, ⟨_, x2, a2, a3⟩, hl, hg⟩
theorem PoolSt.take_bad (h : PoolSt w C bs ns sp X) (hs : sp ≠ 0) (hp : Blk w p (poolO C.t)) (f : Nat) (hf : f = 49 ∨ f = 48) : Calls Tryz.prog f #[.pointer (some ⟨p, 0, none⟩)] w fun e w' =>
    e = .returned (.tuple #[.int .i64 (0 : Nat), .int .i64 (sp : Nat)]) ∧ PoolSt w' C bs ns sp X ∧ Keeps (KF C) w w' := by
  obtain ⟨M, h1, h2, h3⟩ := h.rep
  have hst := h2.stsp
  rw [h3] at hst
  have hc : ∀ e w', PoolM w C M false X (.tuple #[.int .i64 0, .int .i64 (txState M.D C.G.life M.sp false : Nat)]) e w' → e = .returned (.tuple #[.int .i64 (0 : Nat), .int .i64 (sp : Nat)]) ∧ PoolSt w' C bs ns sp X ∧ Keeps (KF C) w w' := by
    rintro e w' ⟨rfl, x2, x3⟩
    rw [h3, hst]
    exact ⟨rfl, ⟨⟨M, x2, h2, h3⟩, fun i hi => Nat.lt_of_lt_of_le (h.lt i hi) x3.size, h.geo⟩, x3⟩
  rcases hf with rfl | rfl
  · exact (takeB_bad hp h1 (by rw [h3, hst]; exact hs)).mono hc
  · exact (takeN_bad hp h1 (by rw [h3, hst]; exact hs)).mono hc

/-- What a drop answers, and leaves. -/
def drE (_ : Geom) (bs ns : List UInt8) (nd : Bool) (n : Nat) : Nat := if nd then (if bitOf ns (n - 1) = true then 0 else 62) else (if bitOf bs n = true then 0 else 62)
def drB (bs : List UInt8) (nd : Bool) (n : Nat) : List UInt8 := if nd then bs else if bitOf bs n = true then flipB bs n else bs
def drN (ns : List UInt8) (nd : Bool) (n : Nat) : List UInt8 := if nd then (if bitOf ns (n - 1) = true then flipB ns (n - 1) else ns) else ns
/-- The number may be one of that kind. -/
def inSpan (G : Geom) (nd : Bool) (n : Nat) : Prop := if nd then 1 ≤ n ∧ n ≤ G.n else G.data ≤ n ∧ n < G.blocks
def DrPost (w : World) (C : TxC) (bs ns : List UInt8) (X : Nat → Prop) (nd : Bool) (n : Nat) (e : Ending) (w' : World) : Prop :=
  e = .returned (.int .i64 (drE C.G bs ns nd n : Nat)) ∧ PoolSt w' C (drB bs nd n) (drN ns nd n) 0 X ∧ Keeps (KF C) w w'
theorem PoolSt.dropB (h : PoolSt w C bs ns 0 X) (hp : Blk w p (poolO C.t)) (hpX : X p) (n : Nat) (hn : inSpan C.G false n) : Calls Tryz.prog 60 #[.pointer (some ⟨p, 0, none⟩), .int .i64 n] w (DrPost w C bs ns X false n) := by
  obtain ⟨M, h1, h2, h3⟩ := h.rep
  have hg := h.geo
  refine (dropB_ok hp hpX h1 (h2.st h3) h.lt (by have := hg.b1; omega) (by have := hg.b2; omega) n hn).mono ?_
  rintro e w' ⟨rfl, x2, x3⟩
  obtain ⟨a1, a2, a3⟩ := h2.dropB n
  exact ⟨by rw [a1]; rfl, ⟨⟨_, x2, a2, a3.trans h3⟩, fun i hi => Nat.lt_of_lt_of_le (h.lt i hi) x3.size, hg⟩, x3⟩
theorem PoolSt.dropN (h : PoolSt w C bs ns 0 X) (hp : Blk w p (poolO C.t)) (hpX : X p) (n : Nat) (hn : inSpan C.G true n) : Calls Tryz.prog 59 #[.pointer (some ⟨p, 0, none⟩), .int .i64 n] w (DrPost w C bs ns X true n) := by
  obtain ⟨M, h1, h2, h3⟩ := h.rep
  have hg := h.geo
  have hn' : 1 ≤ n ∧ n ≤ C.G.n := hn
  obtain ⟨i, rfl⟩ : ∃ i, n = i + 1 := ⟨n - 1, by omega⟩
  refine (dropN_ok hp hpX h1 (h2.st h3) h.lt (by have := hg.b1; omega) (by have := hg.n2; omega) i (by omega)).mono ?_
  rintro e w' ⟨rfl, x2, x3⟩
  obtain ⟨a1, a2, a3⟩ := h2.dropN i
  exact ⟨by rw [a1]; rfl, ⟨⟨_, x2, a2, a3.trans h3⟩, fun i hi => Nat.lt_of_lt_of_le (h.lt i hi) x3.size, hg⟩, x3⟩
theorem PoolSt.left (h : PoolSt w C bs ns 0 X) (hp : Blk w p (poolO C.t)) (hpX : X p) : Calls Tryz.prog 20 #[.pointer (some ⟨p, 0, none⟩)] w fun e w' =>
    e = .returned (.tuple #[.int .i64 (leftN bs C.G.data C.G.blocks : Nat), .int .i64 (leftN ns 0 C.G.n : Nat), .int .i64 0]) ∧ PoolSt w' C bs ns 0 X ∧ Keeps (KF C) w w' := by
  obtain ⟨M, h1, h2, h3⟩ := h.rep
  have hg := h.geo
  refine (left_ok hp hpX h1 (h2.st h3) (by have := hg.b1; omega) (by have := hg.b1; omega) (by have := hg.b2; omega) (by have := hg.n2; omega)).mono ?_
  rintro e w' ⟨rfl, x2, x3⟩
  exact ⟨by rw [h2.g0, (h2.read 0).g1]; rfl, ⟨⟨_, x2, (h2.read 0).read 1, h3⟩, fun i hi => Nat.lt_of_lt_of_le (h.lt i hi) x3.size, hg⟩, x3⟩
theorem PoolSt.left_bad (h : PoolSt w C bs ns sp X) (hs : sp ≠ 0) (hp : Blk w p (poolO C.t)) : Calls Tryz.prog 20 #[.pointer (some ⟨p, 0, none⟩)] w fun e w' =>
    e = .returned (.tuple #[.int .i64 0, .int .i64 0, .int .i64 (sp : Nat)]) ∧ PoolSt w' C bs ns sp X ∧ Keeps (KF C) w w' := by
  obtain ⟨M, h1, h2, h3⟩ := h.rep
  have hst := h2.stsp
  rw [h3] at hst
  refine (Go.Vk.left_bad hp h1 (by rw [h3, hst]; exact hs)).mono ?_
  rintro e w' ⟨rfl, x2, x3⟩
  rw [h3, hst]
  exact ⟨rfl, ⟨⟨M, x2, h2, h3⟩, fun i hi => Nat.lt_of_lt_of_le (h.lt i hi) x3.size, h.geo⟩, x3⟩
theorem PoolSt.state (h : PoolSt w C bs ns sp X) : Calls Tryz.prog 18 #[.pointer (some ⟨C.t, 0, none⟩)] w fun e w' => e = .returned (.int .i64 (sp : Nat)) ∧ PoolSt w' C bs ns sp X ∧ Keeps (fun _ => False) w w' := by
  obtain ⟨M, h1, h2, h3⟩ := h.rep
  refine (state_m h1).mono ?_
  rintro e w' ⟨rfl, m, rfl⟩
  rw [h2.stsp, h3]
  have hk : Keeps (fun _ => False) w (w.drewN m) := (Keeps.refl _ w).drewN m
  exact ⟨rfl, h.quiet hk, hk⟩
theorem PoolSt.clear (h : PoolSt w C bs ns 0 X) (hp : Blk w p (poolO C.t)) (hpX : X p) : Calls Tryz.prog 47 #[.pointer (some ⟨p, 0, none⟩)] w fun e w' =>
    e = .returned (.int .i64 (0 : Nat)) ∧ PoolSt w' C (onesB C.G.data) (zeros 512) 0 X ∧ Keeps (KF C) w w' := by
  obtain ⟨M, h1, h2, h3⟩ := h.rep
  have hg := h.geo
  obtain ⟨a1, a2, a3⟩ := h2.clear
  refine (clear_ok hp hpX h1 (h2.st h3) h.lt (by have := hg.b1; omega) (by have := hg.b1; have := hg.b2; omega) (fun _ => a1)).mono ?_
  rintro e w' ⟨rfl, x2, x3⟩
  exact ⟨by rw [a1], ⟨⟨_, x2, a2, a3.trans h3⟩, fun i hi => Nat.lt_of_lt_of_le (h.lt i hi) x3.size, hg⟩, x3⟩
theorem PoolSt.get (h : PoolSt w C bs ns 0 X) (nd : Bool) : Calls Tryz.prog 58 #[.pointer (some ⟨C.t, 0, none⟩), .int .i64 nd.toNat] w fun e w' =>
    ∃ g k, e = .returned (.tuple #[.slice (some ⟨g, 0, none⟩) 512 (512 + k), .int .i64 0]) ∧ w.heap.size ≤ g ∧ Blk w' g (bytesO ((if nd then ns else bs) ++ zeros k)) ∧ PoolSt w' C bs ns 0 (fun i => X i ∨ w.heap.size ≤ i ∧ i < w'.heap.size) ∧ Keeps (KF C) w w' := by
  obtain ⟨M, h1, h2, h3⟩ := h.rep
  have hg := h.geo
  refine (get_m h1 (h2.st h3) nd.toNat (by have := hg.b1; cases nd <;> simp <;> omega)).mono ?_
  rintro e w' ⟨g, k, rfl, x1, x2, x3, x4⟩
  have hgt : M.get C nd.toNat = if nd then ns else bs := by cases nd; exact h2.g0; exact h2.g1
  rw [hgt] at x2
  exact ⟨g, k, rfl, x1, x2, ⟨⟨_, x3.client (fun i hi => .inl (hi.elim .inl (fun y => .inr y.1))), h2.read _, h3⟩, fun i hi => hi.elim (fun y => Nat.lt_of_lt_of_le (h.lt i y) x4.size) (·.2), hg⟩, x4.mono fun i _ hi => .inl hi⟩
end
end Go.Vk

namespace Go.Vk
open Go.RowKit

theorem okRun_steps_fmt {D : DM} (h : D.Wf) (s l n : Nat) : Steps D (okRun (fmtSteps s l n) D).2 (D.n + l + 5) := by
  have hw : ∀ {D : DM} (_ : D.Wf), Steps D (fmtW D).2 1 := fun h => h.wr 0 (length_zeros 512)
  have hz : ∀ {D : DM} (_ : D.Wf), Steps D (fmtZ D).2 (D.n - 1) := fun h => DM.Wf.zeroRun _ h 1
  have hl : ∀ {D : DM} (_ : D.Wf), Steps D (fmtL l D).2 (l + 3) := fun h => h.walFormatM 1 l
  have hs : ∀ {D : DM} (_ : D.Wf), Steps D (fmtS s l n D).2 1 := fun h => h.wr 0 (length_encSuper s l n)
  have hnil : ∀ {D : DM} (_ : D.Wf), Steps D (okRun [] D).2 0 := fun h => Steps.refl h 0
  have h7 : ∀ {D : DM} (_ : D.Wf), Steps D (okRun [DM.fl] D).2 0 := fun h => okThen_steps h.fl (fun _ => hnil h.fl.wf) (by omega)
  have h6 : ∀ {D : DM} (_ : D.Wf), Steps D (okRun [fmtS s l n, DM.fl] D).2 1 := fun h => okThen_steps (hs h) (fun _ => h7 (hs h).wf) (by omega)
  have h5 : ∀ {D : DM} (_ : D.Wf), Steps D (okRun [fmtL l, fmtS s l n, DM.fl] D).2 (l + 4) := fun h => okThen_steps (hl h) (fun _ => h6 (hl h).wf) (by omega)
  have h4 : ∀ {D : DM} (_ : D.Wf), Steps D (okRun [DM.fl, fmtL l, fmtS s l n, DM.fl] D).2 (l + 4) := fun h => okThen_steps h.fl (fun _ => h5 h.fl.wf) (by omega)
  have h3 : ∀ {D : DM} (_ : D.Wf), Steps D (okRun [fmtZ, DM.fl, fmtL l, fmtS s l n, DM.fl] D).2 (D.n + l + 4) := fun h => okThen_steps (hz h) (fun _ => h4 (hz h).wf) (by omega)
  have h2 : ∀ {D : DM} (_ : D.Wf), Steps D (okRun [DM.fl, fmtZ, DM.fl, fmtL l, fmtS s l n, DM.fl] D).2 (D.n + l + 4) := fun {D} h => okThen_steps h.fl (b := D.n + l + 4) (fun _ => by have := h3 h.fl.wf; rw [h.fl.n] at this; exact this) (by omega)
  exact okThen_steps (hw h) (b := D.n + l + 4) (fun _ => by have := h2 (hw h).wf; rw [(hw h).n] at this; exact this) (by omega)

theorem Is.new (n : Nat) (h1 : 1 ≤ n) (h2 : n ≤ 2048) : Is (DM.new n) n 1 (fun _ => zeros 512) := by
  have hl : (DM.new n).dur.length = 512 * n := length_zeros _
  have hn : (DM.new n).n = n := by simp only [DM.n, hl]; omega
  refine ⟨⟨by rw [hl, hn], by rw [hn]; exact h1, by rw [hn]; exact h2, fun k b hb => by cases hb⟩, rfl, hn, rfl, fun j hj => ?_⟩
  show ((zeros (512 * n)).drop (512 * j)).take 512 = zeros 512
  unfold zeros
  rw [List.drop_replicate, List.take_replicate]
  congr 1
  omega

/-- The disk behind Format. -/
def fmtD (s l n : Nat) : DM := (okRun (fmtSteps s l n) (DM.new s).took).2
/-- The disk behind Open of a new store. -/
def newD (s l n : Nat) : DM := (anchorM (openD (fmtD s l n) l) 1 2 0).2
theorem fmtG_ge {s l n j : Nat} (h : 2 ≤ j) : fmtG s l n j = zeros 512 := by
  unfold fmtG
  rw [if_neg (by omega), if_neg (by omega)]

section
variable {s l n : Nat}
theorem fmt_ok (hp : PlanOk s l n) (h2 : s ≤ 2048) : ∃ life, okRun (fmtSteps s l n) (DM.new s).took = (0, fmtD s l n) ∧ Is (fmtD s l n) s life (fmtG s l n) := by
  have h1 : 1 ≤ s := by unfold PlanOk at hp; omega
  obtain ⟨D', e, hI⟩ := (Is.new s h1 h2).took.format s l n hp rfl
  have ed : fmtD s l n = D' := by unfold fmtD; rw [e]
  rw [ed]
  exact ⟨_, e, hI⟩
theorem fmt_fresh (hp : PlanOk s l n) (h2 : s ≤ 2048) : FreshOk (fmtD s l n) s l n 1 0 := by
  obtain ⟨life, e, hI⟩ := fmt_ok hp h2
  have hp' := hp
  unfold PlanOk at hp'
  have n0 : (fmtD s l n).now 0 = encSuper s l n := hI.now 0 (by omega)
  have n1 : (fmtD s l n).now 1 = firstAnchor := hI.now 1 (by omega)
  have n2 : (fmtD s l n).now 2 = zeros 512 := (hI.now 2 (by omega)).trans (fmtG_ge (by omega))
  have n3 : ∀ j, j < l → (fmtD s l n).now (3 + j) = zeros 512 := fun j hj => (hI.now (3 + j) (by omega)).trans (fmtG_ge (by omega))
  have hse := sup_enc hp
  refine ⟨hI.burnt, by rw [n0]; exact encSuper_ok' hp, by rw [n0]; exact hse.1, by rw [n0]; exact hse.2.1, by rw [n0]; exact hse.2.2, hI.n.symm, by rw [n1, n2]; exact first_pair, ?_, ?_, ?_⟩
  · rw [topK_same _ 1 l (fun j hj => by rw [n3 j hj, pieceOf_zeros]; exact Nat.zero_le _)]; decide
  · left
    show (pieceOf ((fmtD s l n).now (3 + 0 % l))).epoch ≠ 1
    rw [n3 _ (by rw [Nat.zero_mod]; omega), pieceOf_zeros]; decide
  · have h1 : 1 ≤ s := by omega
    have hs := okRun_steps_fmt (Is.new s h1 h2).took.wf s l n
    have hw := hs.writes
    have hn : (DM.new s).took.n = s := (Is.new s h1 h2).took.n
    rw [hn] at hw
    have h0 : (DM.new s).took.writes = 0 := rfl
    rw [h0] at hw
    show (fmtD s l n).writes < _
    unfold fmtD
    omega
theorem fmt_top (hp : PlanOk s l n) (h2 : s ≤ 2048) : topK (fun j => (fmtD s l n).now (3 + j)) 1 l = 1 := by
  obtain ⟨life, e, hI⟩ := fmt_ok hp h2
  have hp' := hp
  unfold PlanOk at hp'
  exact topK_same _ 1 l (fun j hj => by
    have : (fmtD s l n).now (3 + j) = zeros 512 := (hI.now (3 + j) (by omega)).trans (fmtG_ge (by omega))
    show (pieceOf ((fmtD s l n).now (3 + j))).epoch ≤ 1
    rw [this, pieceOf_zeros]; exact Nat.zero_le _)
theorem new_store (hp : PlanOk s l n) (h2 : s ≤ 2048) : ∃ life g, anchorM (openD (fmtD s l n) l) 1 2 0 = (0, newD s l n) ∧ Is (newD s l n) s life g ∧ life = wrap64 ((fmtD s l n).life + 1) ∧ ∀ j, 3 ≤ j → g j = zeros 512 := by
  obtain ⟨life, e, hI⟩ := fmt_ok hp h2
  have hp' := hp
  unfold PlanOk at hp'
  have hO : Is (openD (fmtD s l n) l) s (wrap64 (life + 1)) (fmtG s l n) := ((hI.readed.took.readed.readed).readedN l).flushed
  have g1 : fmtG s l n 1 = firstAnchor := rfl
  have g2 : fmtG s l n 2 = zeros 512 := fmtG_ge (Nat.le_refl _)
  have ha : anchorN firstAnchor = 4294967296 := by
    have : anchorOf firstAnchor = some (4294967296, []) := anchorOf_layB 1 4294967296 (by decide) (by decide) (by decide)
    unfold anchorN; rw [this]
  obtain ⟨D', e2, h3⟩ := hO.anchorM 1 2 0 (by omega) (by rw [g1, g2, anchorN_zeros, ha]; decide)
  have ed : newD s l n = D' := by unfold newD; rw [e2]
  rw [ed]
  refine ⟨_, _, e2, h3, by rw [hI.lf], fun j hj => ?_⟩
  have hr := renewTo_le (fmtG s l n 1) (fmtG s l n 2)
  have : ¬ j = 1 + renewTo (fmtG s l n 1) (fmtG s l n 2) := by omega
  show (if j = 1 + renewTo (fmtG s l n 1) (fmtG s l n (1 + 1)) then _ else fmtG s l n j) = _
  rw [if_neg this, fmtG_ge (by omega)]
end
end Go.Vk

namespace Go.Vk
open Go.RowKit Go.Proofs

/-- n turned into lo to hi. -/
def withinN (n : Int) (lo hi : Nat) : Nat := lo + (n % ((hi - lo + 1 : Nat) : Int)).toNat
theorem withinN_ge (n : Int) (lo hi : Nat) : lo ≤ withinN n lo hi := Nat.le_add_right _ _
theorem withinN_le (n : Int) {lo hi : Nat} (h : lo ≤ hi) : withinN n lo hi ≤ hi := by
  unfold withinN
  have h1 := Int.emod_lt_of_pos n (show (0 : Int) < ((hi - lo + 1 : Nat) : Int) by omega)
  have h2 := Int.emod_nonneg n (show ((hi - lo + 1 : Nat) : Int) ≠ 0 by omega)
  omega
theorem tmod_fix (n : Int) (m : Nat) (hm : 0 < m) : (n.tmod m < 0 → n % (m : Int) = n.tmod m + m) ∧ (¬ n.tmod m < 0 → n % (m : Int) = n.tmod m) ∧ -(m : Int) < n.tmod m ∧ n.tmod m < m := by
  have h1 := Int.emod_lt_of_pos n (show (0 : Int) < (m : Int) by omega)
  have h2 := Int.emod_nonneg n (show (m : Int) ≠ 0 by omega)
  have h3 := Int.tmod_eq_emod (a := n) (b := (m : Int))
  have h5 : ((m : Int).natAbs : Int) = m := by omega
  by_cases hc : 0 ≤ n ∨ (m : Int) ∣ n
  · rw [if_pos hc] at h3
    omega
  · rw [if_neg hc] at h3
    have h4 : n % (m : Int) ≠ 0 := fun e => hc (.inr (Int.dvd_of_emod_eq_zero e))
    omega

theorem within_w (w : World) (n : Int) (lo hi : Nat) (hl : lo ≤ hi) (hh : hi ≤ 4096) : Calls Tryz.prog 24 #[.int .i64 n, .int .i64 lo, .int .i64 hi] w fun e w' => e = .returned (.int .i64 (withinN n lo hi : Nat)) ∧ w = w' := by
  obtain ⟨m, hm⟩ : ∃ m, m = hi - lo + 1 := ⟨_, rfl⟩
  obtain ⟨f1, f2, f3, f4⟩ := tmod_fix n m (by omega)
  have hw : withinN n lo hi = lo + (n % (m : Int)).toNat := by unfold withinN; rw [hm]
  have em : (hi : Int) - (lo : Int) + 1 = (m : Int) := by omega
  rw [hw]
  rw [← em] at f1 f2 f3 f4
  obtain ⟨q, hq⟩ : ∃ q, n.tmod ((hi : Int) - (lo : Int) + 1) = q := ⟨_, rfl⟩
  rw [hq] at f1 f2 f3 f4
  rw [← em]
  generalize n % ((hi : Int) - (lo : Int) + 1) = r at f1 f2 ⊢
  have hne : ¬ (hi : Int) - (lo : Int) + 1 = 0 := by omega
  by_cases hc : q < 0
  · have hr := f1 hc
    clear f1 f2 em hw
    replace hr := hid hr
    go_enter Tryz.func24, Tryz.ntmps24
    go_wp2
    go_ret
    refine ⟨?_, rfl⟩
    have := hr.out
    show Ending.returned (.int .i64 _) = _
    congr 2
    omega
  · have hr := f2 hc
    clear f1 f2 em hw
    replace hr := hid hr
    go_enter Tryz.func24, Tryz.ntmps24
    go_wp2
    go_ret
    refine ⟨?_, rfl⟩
    have := hr.out
    show Ending.returned (.int .i64 _) = _
    congr 2
    omega

theorem num_w (w : World) (n : Int) : Calls Tryz.prog 19 #[.int .i64 n] w fun e w' => e = .returned (.int .i64 n) ∧ w = w' := by
  go_enter Tryz.func19, Tryz.ntmps19
  go_wp2
  go_ret
  exact ⟨rfl, rfl⟩

/-- The geometry that three numbers mean: nodes, log, sectors. -/
def gNodes (c : Int) : Nat := 4 * withinN c 1 256
def gLog (b : Int) : Nat := withinN b 18 256
def gLeast (b c : Int) : Nat := 3 + gLog b + 2 + gNodes c / 4 + 1
def gSecs (a b c : Int) : Nat := withinN a (gLeast b c) 2048
theorem gNodes_b (c : Int) : 4 ≤ gNodes c ∧ gNodes c ≤ 1024 ∧ gNodes c % 4 = 0 := by
  have h1 := withinN_ge c 1 256
  have h2 := withinN_le c (show 1 ≤ 256 by decide)
  unfold gNodes
  omega
theorem gLog_b (b : Int) : 18 ≤ gLog b ∧ gLog b ≤ 256 := ⟨withinN_ge _ _ _, withinN_le _ (by decide)⟩
theorem gLeast_b (b c : Int) : gLeast b c ≤ 2048 := by
  have := gNodes_b c
  have := gLog_b b
  unfold gLeast
  omega
theorem gSecs_b (a b c : Int) : gLeast b c ≤ gSecs a b c ∧ gSecs a b c ≤ 2048 := ⟨withinN_ge _ _ _, withinN_le _ (gLeast_b b c)⟩

set_option maxRecDepth 100000 in
theorem lsuper_w (w : World) (a b c : Int) : Calls Tryz.prog 16 #[.agg #[.int .i64 a, .int .i64 b, .int .i64 c]] w fun e w' => e = .returned (.agg #[.int .i64 (gSecs a b c : Nat), .int .i64 (gLog b : Nat), .int .i64 (gNodes c : Nat)]) ∧ Keeps (fun _ => False) w w' := by
  have hE := gLeast_b b c
  obtain ⟨q1, h1⟩ : ∃ q, withinN c 1 256 = q := ⟨_, rfl⟩
  obtain ⟨q2, h2⟩ : ∃ q, gLog b = q := ⟨_, rfl⟩
  obtain ⟨q3, h3⟩ : ∃ q, gSecs a b c = q := ⟨_, rfl⟩
  have hN : gNodes c = 4 * q1 := by rw [← h1]; rfl
  have b1 : 1 ≤ q1 ∧ q1 ≤ 256 := h1 ▸ ⟨withinN_ge _ _ _, withinN_le _ (by decide)⟩
  have b2 : 18 ≤ q2 ∧ q2 ≤ 256 := h2 ▸ gLog_b b
  have hL : gLeast b c = 6 + q2 + q1 := by
    unfold gLeast; rw [h2, hN]; omega
  have w1 : ∀ w, Calls Tryz.prog 24 #[.int .i64 c, .int .i64 1, .int .i64 256] w fun e w' => e = .returned (.int .i64 (q1 : Nat)) ∧ w = w' := fun w => by
    have := within_w w c 1 256 (by decide) (by decide)
    rwa [h1] at this
  have w2 : ∀ w, Calls Tryz.prog 24 #[.int .i64 b, .int .i64 18, .int .i64 256] w fun e w' => e = .returned (.int .i64 (q2 : Nat)) ∧ w = w' := fun w => by
    have := within_w w b 18 256 (by decide) (by decide)
    rwa [show withinN b 18 256 = gLog b from rfl, h2] at this
  have w3 : ∀ w (x : Int), x = (6 + q2 + q1 : Nat) → Calls Tryz.prog 24 #[.int .i64 a, .int .i64 x, .int .i64 2048] w fun e w' => e = .returned (.int .i64 (q3 : Nat)) ∧ w = w' := fun w x hx => by
    have := within_w w a (gLeast b c) 2048 hE (by decide)
    rw [show withinN a (gLeast b c) 2048 = gSecs a b c from rfl, h3, hL] at this
    rw [hx]; exact this
  rw [hN, h2, h3]
  clear hE h1 h2 h3 hN hL
  replace w1 := hid w1; replace w2 := hid w2; replace w3 := hid w3
  go_enter Tryz.func16, Tryz.ntmps16
  go_wp2_with (first
    | (go_at_call_of 24 (Value.int .i64 c); refine (w1.out _).mono ?_; rintro e w' ⟨rfl, rfl⟩)
    | (go_at_call_of 24 (Value.int .i64 b); refine (w2.out _).mono ?_; rintro e w' ⟨rfl, rfl⟩)
    | (go_at_call_of 24 (Value.int .i64 a); refine (w3.out _ _ (by omega)).mono ?_; rintro e w' ⟨rfl, rfl⟩))
  exact bodyPost_ret (v := .agg #[.int .i64 q3, .int .i64 q2, .int .i64 (4 * (q1 : Int))]) (by simp [results, Tryz.results16, go_sem]) rfl ⟨by push_cast; rfl, ((Keeps.refl _ w).alloc _).alloc _⟩
end Go.Vk

namespace Go.Vk
open Go.RowKit Go.Proofs

/-- The first number that may be taken, and the one behind the last. -/
def spanLo (G : Geom) (nd : Bool) : Nat := if nd then 1 else G.data
def spanHi (G : Geom) (nd : Bool) : Nat := if nd then G.n + 1 else G.blocks
theorem span_w (w : World) (G : Geom) (hg : GeoOk G) (hs : 3 + G.lg ≤ G.s) (hs2 : G.s ≤ 4096) (nd : Bool) : Calls Tryz.prog 15 #[.agg #[.int .i64 G.s, .int .i64 G.lg, .int .i64 G.n], .bool nd] w fun e w' =>
    e = .returned (.tuple #[.int .i64 (spanLo G nd : Nat), .int .i64 (spanHi G nd : Nat)]) ∧ Keeps (fun _ => False) w w' := by
  have hn := hg.n2
  have e1 : IntKind.i64.wrap ((G.n : Int) + 1) = ((G.n + 1 : Nat) : Int) := by rw [wrap_small (by omega) (by omega)]; omega
  have e2 : ((G.n : Nat) : Int).tdiv 4 = ((G.n / 4 : Nat) : Int) := rfl
  have e3 : IntKind.i64.wrap (2 + ((G.n / 4 : Nat) : Int)) = ((G.data : Nat) : Int) := by unfold Geom.data; rw [wrap_small (by omega) (by omega)]; omega
  have e4 : IntKind.i64.wrap (IntKind.i64.wrap ((G.s : Int) - 3) - (G.lg : Int)) = ((G.blocks : Nat) : Int) := by
    unfold Geom.blocks
    rw [wrap_small (n := (G.s : Int) - 3) (by omega) (by omega), wrap_small (by omega) (by omega)]; omega
  have e5 : IntKind.i64.wrap ((G.s : Int) - 3) = ((G.s - 3 : Nat) : Int) := by rw [wrap_small (by omega) (by omega)]; omega
  rw [e5] at e4
  have e6 : IntKind.i64.wrap ((G.n / 4 : Nat) : Int) = ((G.n / 4 : Nat) : Int) := wrap_small (by omega) (by omega)
  cases nd with
  | true =>
    show Calls _ _ _ _ (fun e w' => e = .returned (.tuple #[.int .i64 (1 : Nat), .int .i64 (G.n + 1 : Nat)]) ∧ Keeps (fun _ => False) w w')
    generalize G.n + 1 = n1 at e1 ⊢
    generalize G.n = n0 at *
    clear hg hs hs2 hn e2 e3 e4 e6
    have b := Blk.new w (.cells #[.int .i64 G.s, .int .i64 G.lg, .int .i64 n0] 31 (0, 0))
    have c2 := b.cell 2
    simp at c2
    have hk : Keeps (fun _ => False) w (w.alloc (.cells #[.int .i64 G.s, .int .i64 G.lg, .int .i64 n0] 31 (0, 0))) := (Keeps.refl _ w).alloc _
    replace b := hid b; replace hk := hid hk
    go_enter Tryz.func15, Tryz.ntmps15
    go_wp2
    go_region
    go_wp2
    go_ret2
    exact ⟨rfl, hk.out.drew⟩
  | false =>
    show Calls _ _ _ _ (fun e w' => e = .returned (.tuple #[.int .i64 (G.data : Nat), .int .i64 (G.blocks : Nat)]) ∧ Keeps (fun _ => False) w w')
    generalize G.data = n1 at e3 ⊢
    generalize G.blocks = n2 at e4 ⊢
    generalize G.n / 4 = n4 at *
    generalize G.s - 3 = s3 at *
    clear hg hs hs2 hn e1
    have b := Blk.new w (.cells #[.int .i64 G.s, .int .i64 G.lg, .int .i64 G.n] 31 (0, 0))
    have c0 := b.cell 0
    have c1 := b.cell 1
    have c2 := b.cell 2
    simp at c0 c1 c2
    have hk : Keeps (fun _ => False) w (w.alloc (.cells #[.int .i64 G.s, .int .i64 G.lg, .int .i64 G.n] 31 (0, 0))) := (Keeps.refl _ w).alloc _
    replace b := hid b; replace hk := hid hk
    go_enter Tryz.func15, Tryz.ntmps15
    go_wp2
    go_region
    go_wp2
    go_ret2
    exact ⟨rfl, hk.out.drew⟩

section
variable {w w' : World} {C : TxC} {bs ns : List UInt8} {sp : Nat} {X : Nat → Prop} {p : Nat}
theorem takes_w (h : PoolSt w C bs ns 0 X) (hp : Blk w p (poolO C.t)) (hpX : X p) (nd : Bool) : Calls Tryz.prog 17 #[.pointer (some ⟨p, 0, none⟩), .bool nd] w (TkPost w C bs ns X nd) := by
  cases nd with
  | true =>
    have hT := h.takeN hp hpX
    have hF : ∀ e w', TkPost w C bs ns X true e w' → (∃ a b : Nat, e = .returned (.tuple #[.int .i64 (a : Nat), .int .i64 (b : Nat)]) ∧ TkPost w C bs ns X true (.returned (.tuple #[.int .i64 (a : Nat), .int .i64 (b : Nat)])) w') := by
      intro e w' x
      have hx := x.2
      cases hh : tkF C.G bs ns true with
      | some i => rw [hh] at hx; obtain ⟨rfl, _⟩ := hx; exact ⟨_, _, rfl, x⟩
      | none => rw [hh] at hx; obtain ⟨rfl, _⟩ := hx; exact ⟨_, _, rfl, x⟩
    generalize TkPost w C bs ns X true = Post at hT hF ⊢
    replace h := hid h; replace hp := hid hp; replace hT := hid hT; replace hF := hid hF
    go_enter Tryz.func17, Tryz.ntmps17
    go_wp2_with (first
      | (go_at_call 48; refine hT.out.mono ?_; intro e w' hx; obtain ⟨a, b, rfl, hx⟩ := hF.out _ _ hx; replace hx := hid hx)
      | (go_at_call 19; refine (num_w _ _).mono ?_; rintro e w' ⟨rfl, rfl⟩))
    exact hx.out
  | false =>
    have hT := h.takeB hp hpX
    have hF : ∀ e w', TkPost w C bs ns X false e w' → (∃ a b : Nat, e = .returned (.tuple #[.int .i64 (a : Nat), .int .i64 (b : Nat)]) ∧ TkPost w C bs ns X false (.returned (.tuple #[.int .i64 (a : Nat), .int .i64 (b : Nat)])) w') := by
      intro e w' x
      have hx := x.2
      cases hh : tkF C.G bs ns false with
      | some i => rw [hh] at hx; obtain ⟨rfl, _⟩ := hx; exact ⟨_, _, rfl, x⟩
      | none => rw [hh] at hx; obtain ⟨rfl, _⟩ := hx; exact ⟨_, _, rfl, x⟩
    generalize TkPost w C bs ns X false = Post at hT hF ⊢
    replace h := hid h; replace hp := hid hp; replace hT := hid hT; replace hF := hid hF
    go_enter Tryz.func17, Tryz.ntmps17
    go_wp2_with (first
      | (go_at_call 49; refine hT.out.mono ?_; intro e w' hx; obtain ⟨a, b, rfl, hx⟩ := hF.out _ _ hx; replace hx := hid hx)
      | (go_at_call 19; refine (num_w _ _).mono ?_; rintro e w' ⟨rfl, rfl⟩))
    exact hx.out
theorem takes_bad (h : PoolSt w C bs ns sp X) (hs : sp ≠ 0) (hp : Blk w p (poolO C.t)) (nd : Bool) : Calls Tryz.prog 17 #[.pointer (some ⟨p, 0, none⟩), .bool nd] w fun e w' =>
    e = .returned (.tuple #[.int .i64 (0 : Nat), .int .i64 (sp : Nat)]) ∧ PoolSt w' C bs ns sp X ∧ Keeps (KF C) w w' := by
  have hT := fun f hf => h.take_bad hs hp f hf
  cases nd with
  | true =>
    replace h := hid h; replace hp := hid hp; replace hT := hid hT
    go_enter Tryz.func17, Tryz.ntmps17
    go_wp2_with (first
      | (go_at_call 48; refine (hT.out _ (.inr rfl)).mono ?_; rintro e w' ⟨rfl, x1, x2⟩; replace x1 := hid x1; replace x2 := hid x2)
      | (go_at_call 19; refine (num_w _ _).mono ?_; rintro e w' ⟨rfl, rfl⟩))
    go_ret2
    exact ⟨rfl, x1.out, x2.out⟩
  | false =>
    replace h := hid h; replace hp := hid hp; replace hT := hid hT
    go_enter Tryz.func17, Tryz.ntmps17
    go_wp2_with (first
      | (go_at_call 49; refine (hT.out _ (.inl rfl)).mono ?_; rintro e w' ⟨rfl, x1, x2⟩; replace x1 := hid x1; replace x2 := hid x2)
      | (go_at_call 19; refine (num_w _ _).mono ?_; rintro e w' ⟨rfl, rfl⟩))
    go_ret2
    exact ⟨rfl, x1.out, x2.out⟩
theorem drops_w (h : PoolSt w C bs ns 0 X) (hp : Blk w p (poolO C.t)) (hpX : X p) (nd : Bool) (n : Nat) (hn : inSpan C.G nd n) : Calls Tryz.prog 25 #[.pointer (some ⟨p, 0, none⟩), .bool nd, .int .i64 n] w (DrPost w C bs ns X nd n) := by
  cases nd with
  | true =>
    have hT := h.dropN hp hpX n hn
    unfold DrPost at *
    generalize drE C.G bs ns true n = de at *
    replace h := hid h; replace hp := hid hp; replace hT := hid hT
    go_enter Tryz.func25, Tryz.ntmps25
    go_wp2_with (first
      | (go_at_call 59; refine hT.out.mono ?_; rintro e w' ⟨rfl, x1, x2⟩; replace x1 := hid x1; replace x2 := hid x2)
      | (go_at_call 19; refine (num_w _ _).mono ?_; rintro e w' ⟨rfl, rfl⟩))
    go_ret
    exact ⟨rfl, x1.out, x2.out⟩
  | false =>
    have hT := h.dropB hp hpX n hn
    unfold DrPost at *
    generalize drE C.G bs ns false n = de at *
    replace h := hid h; replace hp := hid hp; replace hT := hid hT
    go_enter Tryz.func25, Tryz.ntmps25
    go_wp2_with (first
      | (go_at_call 60; refine hT.out.mono ?_; rintro e w' ⟨rfl, x1, x2⟩; replace x1 := hid x1; replace x2 := hid x2)
      | (go_at_call 19; refine (num_w _ _).mono ?_; rintro e w' ⟨rfl, rfl⟩))
    go_ret
    exact ⟨rfl, x1.out, x2.out⟩
end
end Go.Vk

namespace Go.Vk
open Go.RowKit Go.Proofs

theorem undInts : (Tryz.prog).underlying 49 = some (.slice 3) := Tryz.underlying49
theorem infoInt : ((Tryz.prog).info? 3).map (fun i => (i.zero, i.size, i.bytes)) = some (some (.int .i64 0), 1, 8) := by kernel_rfl
/-- A row of ints of the program's own. -/
def IntRow (w : World) (lo : Nat) (v : Value) (l : List Nat) : Prop := w.ownsRow lo 3 1 v l.length (l.map natV)
theorem IntRow.nil (w : World) (lo : Nat) : IntRow w lo (.slice none 0 0) [] := World.ownsRow_nil _ _ _ _
theorem IntRow.lo {w : World} {lo lo' : Nat} {v : Value} {l : List Nat} (h : IntRow w lo v l) (hl : lo' ≤ lo) : IntRow w lo' v l := own_lo h hl
theorem IntRow.shape {w : World} {lo : Nat} {v : Value} {l : List Nat} (h : IntRow w lo v l) : (v = .slice none 0 0 ∧ l = []) ∨ ∃ g cap, v = .slice (some ⟨g, 0, none⟩) l.length cap ∧ lo ≤ g ∧ g < w.heap.size ∧ ∀ j (h : j < l.length), w.cell? ⟨g, j, none⟩ = some (.int .i64 l[j]) := by
  rcases id h.2 with ⟨h1, h2⟩ | ⟨g, cap, cur, rfl, hb, hh, rest⟩
  · exact .inl ⟨h1, List.eq_nil_of_length_eq_zero h2⟩
  · refine .inr ⟨g, cap, rfl, hb, ?_, fun j hj => ?_⟩
    · by_cases hx : g < w.heap.size
      · exact hx
      · rw [Array.getElem?_eq_none (by omega)] at hh; cases hh
    · have := World.ownsRow.cells h (g := g) rfl j (.int .i64 l[j]) (by simp [natV, List.getElem?_eq_getElem hj])
      have e : (⟨g, 0, none⟩ : Addr).add j = ⟨g, j, none⟩ := by unfold Addr.add; split <;> simp_all
      rw [e] at this
      exact this
theorem IntRow.keeps {w w' : World} {Gf : Nat → Prop} {lo : Nat} {v : Value} {l : List Nat} (h : IntRow w lo v l) (k : Keeps Gf w w') (hG : ∀ g, v.ownBlock = some g → ¬ Gf g) : IntRow w' lo v l :=
  keeps_own (Z := fun g => v.ownBlock = some g) k hG h (fun _ e => e)
theorem natV_snoc (l : List Nat) (n : Nat) : (l ++ [n]).map natV = l.map natV ++ [.int .i64 n] := by simp [natV]

set_option maxRecDepth 100000 in
theorem lhas_w (w : World) (lo : Nat) (v : Value) (l : List Nat) (hv : IntRow w lo v l) (hl : l.length ≤ 4096) (n : Nat) : Calls Tryz.prog 99 #[v, .int .i64 n] w fun e w' => e = .returned (.bool (decide (n ∈ l))) ∧ w = w' := by
  rcases hv.shape with ⟨rfl, rfl⟩ | ⟨g, cap, rfl, h1, h2, h3⟩
  · clear hv
    go_enter Tryz.func99, Tryz.ntmps99
    go_wp2
    go_loopw [5] (fun i wr => i = .int .i64 (0 : Nat) ∧ wr = w) (fun _ _ => 0)
    case atStart => exact ⟨rfl, rfl⟩
    case round =>
      obtain ⟨rfl, rfl⟩ := hrel
      go_wp2
      go_ret
      exact ⟨by simp, rfl⟩
  · obtain ⟨m, hm⟩ : ∃ m, l.length = m := ⟨_, rfl⟩
    rw [hm] at hl
    have hin : ∀ k, n ∉ l.take k → (k = m) → decide (n ∈ l) = false := fun k hk e => by
      rw [e, ← hm, List.take_length] at hk; simpa using hk
    have hit : ∀ k (h : k < l.length), l[k] = n → decide (n ∈ l) = true := fun k h e => by simp [← e]
    have hst : ∀ k (h : k < l.length), n ∉ l.take k → l[k] ≠ n → n ∉ l.take (k + 1) := fun k h a b => by
      rw [List.take_add_one, List.getElem?_eq_getElem h]
      simp only [Option.toList_some, List.mem_append, List.mem_singleton, not_or]
      exact ⟨a, fun e => b e.symm⟩
    rw [hm]
    replace hv := hid hv; replace h3 := hid h3; replace hm := hid hm; replace hin := hid hin; replace hit := hid hit; replace hst := hid hst
    go_enter Tryz.func99, Tryz.ntmps99
    go_wp2
    go_loopw [5] (fun i wr => ∃ k : Nat, k ≤ m ∧ i = .int .i64 k ∧ wr = w ∧ n ∉ l.take k) (fun i _ => m - (intOf i).toNat)
    case atStart => exact ⟨0, by omega, rfl, rfl, by simp⟩
    case round =>
      obtain ⟨k, hk1, rfl, rfl, hk2⟩ := hrel
      by_cases hlt2 : k < m
      · have hki : (k : Int) < m := by omega
        have hix : 0 ≤ (k : Int) ∧ (k : Int) < (m : Nat) := by omega
        have hkl : k < l.length := by have := hm.out; omega
        have hc := h3.out k hkl
        by_cases he : l[k] = n
        · have hd := hit.out k hkl he
          rw [he] at hc
          replace hd := hid hd; replace hk2 := hid hk2; replace he := hid he
          go_wp2
          go_ret
          exact ⟨by rw [hd.out]; rfl, rfl⟩
        · have hs := hst.out k hkl hk2 he
          have hne : ¬ ((l[k] : Nat) : Int) = (n : Int) := by omega
          generalize l[k] = y at hc hne
          replace hs := hid hs; replace hk2 := hid hk2; replace he := hid he
          go_wp2
          exact ⟨⟨k + 1, by omega, by go_num, trivial, hs.out⟩, by simp [intOf]; omega⟩
      · have hki : ¬ (k : Int) < m := by omega
        have hd := hin.out k hk2 (by omega)
        replace hd := hid hd; replace hk2 := hid hk2
        go_wp2
        go_ret
        exact ⟨by rw [hd.out]; rfl, rfl⟩

theorem erase_take (l : List Nat) (a k : Nat) (h : k < l.length) : (l.take (k + 1)).eraseIdx a = if k = a then (l.take k).eraseIdx a else (l.take k).eraseIdx a ++ [l[k]] := by
  rw [List.take_add_one, List.getElem?_eq_getElem h]
  have hlen : (l.take k).length = k := by rw [List.length_take]; omega
  simp only [Option.toList_some]
  rcases Nat.lt_trichotomy a k with h1 | h1 | h1
  · rw [if_neg (by omega), List.eraseIdx_append_of_lt_length (by omega)]
  · subst h1
    rw [if_pos rfl, List.eraseIdx_append_of_length_le (by omega), hlen, Nat.sub_self, List.eraseIdx_of_length_le (l := l.take a) (by omega)]
    simp
  · rw [if_neg (by omega), List.eraseIdx_append_of_length_le (by omega), hlen, List.eraseIdx_of_length_le (l := l.take k) (by omega)]
    congr 1
    rw [List.eraseIdx_of_length_le (by simp; omega)]
set_option maxRecDepth 100000 in
theorem without_w (w : World) (lo : Nat) (v : Value) (l : List Nat) (hv : IntRow w lo v l) (hl : l.length ≤ 4096) (a : Nat) : Calls Tryz.prog 26 #[v, .int .i64 a] w fun e w' => ∃ u, e = .returned u ∧ IntRow w' w.heap.size u (l.eraseIdx a) ∧ Keeps (fun _ => False) w w' := by
  rcases hv.shape with ⟨rfl, rfl⟩ | ⟨g, cap, rfl, h1, h2, h3⟩
  · clear hv
    have hnil : IntRow w w.heap.size (.slice none 0 0) [] := IntRow.nil _ _
    replace hnil := hid hnil
    go_enter Tryz.func26, Tryz.ntmps26
    go_wp2
    go_loopw [5, 6] (fun v i wr => v = .slice none 0 0 ∧ i = .int .i64 (0 : Nat) ∧ wr = w) (fun _ _ _ => 0)
    case atStart => exact ⟨rfl, rfl, rfl⟩
    case round =>
      obtain ⟨rfl, rfl, rfl⟩ := hrel
      go_wp2
      go_ret
      exact ⟨_, rfl, hnil.out, Keeps.refl _ _⟩
  · obtain ⟨i0, hi, hz0, hz1, hz2⟩ := info_parts infoInt
    have hk := Keeps.refl (fun _ => False) w
    obtain ⟨m, hm⟩ : ∃ m, l.length = m := ⟨_, rfl⟩
    rw [hm] at hl ⊢
    have hfin : l.take m = l := by rw [← hm, List.take_length]
    have hcell := fun wr (x : Keeps (fun _ => False) w wr) k (h : k < l.length) => x.cellF (h3 k h) (fun f => f)
    have hsn := fun k (h : k < l.length) => erase_take l a k h
    have hle : ∀ k, ((l.take k).eraseIdx a).length ≤ 4096 := fun k => by
      have h1 := List.length_eraseIdx_le (l.take k) a
      have h2 := List.length_take_le k l
      rw [List.length_take] at h1
      omega
    replace hv := hid hv; replace h3 := hid h3; replace hm := hid hm; replace hi := hid hi; replace hz0 := hid hz0; replace hz1 := hid hz1; replace hz2 := hid hz2; replace hk := hid hk; replace hfin := hid hfin; replace hcell := hid hcell; replace hsn := hid hsn; replace hle := hid hle
    go_enter Tryz.func26, Tryz.ntmps26
    go_wp2
    go_loopw [5, 6] (fun v i wr => ∃ k : Nat, k ≤ m ∧ i = .int .i64 k ∧ IntRow wr w.heap.size v ((l.take k).eraseIdx a) ∧ Keeps (fun _ => False) w wr) (fun _ i _ => m - (intOf i).toNat)
    case atStart => exact ⟨0, by omega, rfl, by simpa using IntRow.nil _ _, hk.out⟩
    case round =>
      obtain ⟨k, hk1, rfl, hown, hk2⟩ := hrel
      by_cases hlt2 : k < m
      · have hki : (k : Int) < m := by omega
        have hix : 0 ≤ (k : Int) ∧ (k : Int) < (m : Nat) := by omega
        have hkl : k < l.length := by have := hm.out; omega
        have hc := hcell.out wr hk2 k hkl
        have hs := hsn.out k hkl
        have hll := hle.out k
        by_cases he : k = a
        · rw [if_pos he] at hs
          have hai : (k : Int) = (a : Int) := by omega
          rw [← hs] at hown
          replace hs := hid hs; replace hk2 := hid hk2; replace hown := hid hown; replace hc := hid hc
          go_wp2
          exact ⟨⟨k + 1, by omega, by go_num, hown.out, hk2.out⟩, by simp [intOf]; omega⟩
        · rw [if_neg he] at hs
          have hai : ¬ (k : Int) = (a : Int) := by omega
          generalize hy : l[k] = y at hc hs
          generalize (l.take k).eraseIdx a = cur at hown hs hll
          unfold IntRow at hown
          replace hk2 := hid hk2; replace hs := hid hs; replace hy := hid hy
          go_wp2_with (at_builtin; refine wpList_append_own _ rfl _ _ 49 rfl w.heap.size 3 i0 (.int .i64 0) 1 8 undInts hi.out hz0.out hz1.out hz2.out rfl (by decide) _ _ _ rfl (hown.alloc _) ⟨wr.heap.size, 0, none⟩ 1 1 [.int .i64 y] rfl rfl ?c1 ?c2 ?c3 ?c4 ?c5 ?_)
          case c1 =>
            intro j u hj
            match j, hj with
            | 0, hj => simp at hj; subst hj; simp [Addr.add]
          case c2 => intro u hu; simp at hu; subst hu; rfl
          case c3 => unfold maxLen; omega
          case c4 => omega
          case c5 => have := hk2.out.size; simp; omega
          · intro v' w1 hown' hgrow hx
            have hk3 := (hk2.out.alloc _).grown hgrow (fun k hk => .inr (ownBlock_ge hown k hk))
            have hown2 : IntRow w1 w.heap.size v' ((l.take (k + 1)).eraseIdx a) := by
              rw [hs.out]; unfold IntRow; rw [natV_snoc, List.length_append]; exact hown'
            replace hown' := hid hown'; replace hk3 := hid hk3; replace hgrow := hid hgrow; replace hown := hid hown; replace hown2 := hid hown2
            clear hc
            go_wp2
            exact ⟨⟨k + 1, by omega, by go_num, hown2.out, hk3.out⟩, by simp [intOf]; omega⟩
      · have hki : ¬ (k : Int) < m := by omega
        obtain rfl : k = m := by omega
        rw [hfin.out] at hown
        replace hk2 := hid hk2; replace hown := hid hown
        go_wp2
        go_ret
        exact ⟨_, rfl, hown.out, hk2.out⟩
end Go.Vk
