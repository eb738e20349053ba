/- The walks of has, read and turn of a bitmap of package pool. The walks of read, blocks, nodes of package pool. The walks of take and drop of a bitmap of package pool; Spoil. The walks of drop of a bitmap; TakeBlock, TakeNode of package pool. -/
import Derived.Test.YtceodjgajkimnaaGreatMH
import Derived.Laws.BitsAllLaws
set_option linter.unusedVariables false

namespace Go.Vk
open Go.RowKit Go.Proofs

def bmO (p blk lo hi first g cap : Nat) : Obj := .cells #[.pointer (some ⟨p, 0, none⟩), .int .i64 blk, .int .i64 lo, .int .i64 hi, .int .i64 first, .slice (some ⟨g, 0, none⟩) 512 cap] 156 (0, 0)
def byteAt (bs : List UInt8) (j : Nat) : Nat := (bs.getD j 0).toNat
def bitOf (bs : List UInt8) (i : Nat) : Bool := (byteAt bs (i / 8)).testBit (i % 8)
theorem byteAt_lt (bs : List UInt8) (j : Nat) : byteAt bs j < 256 := (bs.getD j 0).toNat_lt
theorem pow8 (r : Nat) (hr : r < 8) : (2 ^ min r 8 % 256 : Int) = ((2 ^ r : Nat) : Int) := by
  have h2 : 2 ^ r < 256 := Nat.lt_of_lt_of_le (Nat.pow_lt_pow_right (by omega) hr) (by decide)
  rw [Nat.min_eq_left (by omega)]
  have : (2 ^ r : Int) = ((2 ^ r : Nat) : Int) := by simp
  rw [this]
  clear this
  generalize (2 ^ r : Nat) = x at h2 ⊢
  omega
theorem tdiv8 (i : Nat) : (i : Int).tdiv 8 = ((i / 8 : Nat) : Int) := rfl
theorem tmod8 (i : Nat) : (i : Int).tmod 8 = ((i % 8 : Nat) : Int) := rfl
theorem and_bit (a r : Nat) (ha : a < 256) (hr : r < 8) : (bits .and .u8 (a : Int) ((2 ^ r : Nat) : Int) != 0) = a.testBit r := by
  have h2 : 2 ^ r < 256 := Nat.lt_of_lt_of_le (Nat.pow_lt_pow_right (by omega) hr) (by decide)
  rw [u8_and_nat a (2 ^ r) ha h2]
  cases hb : a.testBit r with
  | true =>
    have : (a &&& 2 ^ r).testBit r = true := by rw [Nat.testBit_and, hb, Nat.testBit_two_pow_self]; rfl
    have : a &&& 2 ^ r ≠ 0 := fun e => by rw [e, Nat.zero_testBit] at this; cases this
    simp; exact this
  | false =>
    have : a &&& 2 ^ r = 0 := by
      apply Nat.eq_of_testBit_eq
      intro i
      rw [Nat.testBit_and, Nat.zero_testBit]
      by_cases hi : r = i
      · subst hi; rw [hb]; rfl
      · rw [Nat.testBit_two_pow_of_ne hi, Bool.and_false]
    rw [this]; rfl
theorem byte_cell {w : World} {g k : Nat} {bs : List UInt8} (hg : Blk w g (bytesO (bs ++ zeros k))) (j : Nat) (hj : j < bs.length) : w.cell? ⟨g, j, none⟩ = some (.int .u8 (byteAt bs j : Nat)) := by
  have := bytes_cell hg j (by rw [List.length_append]; omega)
  rw [this, List.getElem_append_left hj]
  unfold byteAt B
  rw [List.getD_eq_getElem?_getD, List.getElem?_eq_getElem hj]
  rfl

section
variable {w : World} {m p blk lo top first g cap : Nat} {bs : List UInt8} {k : Nat}
theorem has_w (hm : Blk w m (bmO p blk lo top first g cap)) (hg : Blk w g (bytesO (bs ++ zeros k))) (hl : bs.length = 512) (i : Nat) (hi : i < 4096) :
    Calls Tryz.prog 98 #[.pointer (some ⟨m, 0, none⟩), .int .i64 i] w fun e w' => e = .returned (.bool (bitOf bs i)) ∧ ∃ n, w' = w.drewN n := by
  have c5 := hm.cell 5
  simp at c5
  have cb := byte_cell hg (i / 8) (by omega)
  have hq := tdiv8 i
  have hr := tmod8 i
  have hE : bitOf bs i = (byteAt bs (i / 8)).testBit (i % 8) := rfl
  have hand := and_bit (byteAt bs (i / 8)) (i % 8) (byteAt_lt _ _) (by omega)
  rw [← pow8 _ (by omega), ← hE] at hand
  have hix : 0 ≤ ((i / 8 : Nat) : Int) ∧ ((i / 8 : Nat) : Int) < (512 : Nat) := by omega
  generalize byteAt bs (i / 8) = a at *
  generalize i / 8 = q at *
  generalize i % 8 = r at *
  replace hm := hid hm; replace hg := hid hg; replace hE := hid hE; replace hl := hid hl; replace hi := hid hi; replace hand := hid hand
  go_enter Tryz.func98, Tryz.ntmps98
  go_upto_region 1 with fail
  go_quiet (fail)
  go_wp2
  go_ret
  exact ⟨by rw [← hand.out]; rfl, _, rfl⟩

theorem pow8_lt (r : Nat) (hr : r < 8) : 2 ^ r < 256 := Nat.lt_of_lt_of_le (Nat.pow_lt_pow_right (by omega) hr) (by decide)
theorem xor_bit (a r : Nat) (ha : a < 256) (hr : r < 8) : bits .xor .u8 (a : Int) (2 ^ min r 8 % 256) = ((a ^^^ 2 ^ r : Nat) : Int) := by
  rw [pow8 r hr, u8_xor_nat a (2 ^ r) ha (pow8_lt r hr)]
def flipB (bs : List UInt8) (i : Nat) : List UInt8 := bs.set (i / 8) (UInt8.ofNat (byteAt bs (i / 8) ^^^ 2 ^ (i % 8)))
theorem flipB_length (bs : List UInt8) (i : Nat) : (flipB bs i).length = bs.length := by unfold flipB; simp
theorem byteAt_set (bs : List UInt8) (j : Nat) (x : UInt8) (hj : j < bs.length) (q : Nat) : byteAt (bs.set j x) q = if q = j then x.toNat else byteAt bs q := by
  unfold byteAt
  rw [List.getD_eq_getElem?_getD, List.getElem?_set, List.getD_eq_getElem?_getD]
  by_cases h : j = q
  · subst h; rw [if_pos rfl, if_pos rfl, if_pos hj]; rfl
  · rw [if_neg h, if_neg (fun e => h e.symm)]
theorem bitOf_flip (bs : List UInt8) (i j : Nat) (hi : i / 8 < bs.length) : bitOf (flipB bs i) j = if j = i then !bitOf bs i else bitOf bs j := by
  unfold bitOf flipB
  rw [byteAt_set _ _ _ hi]
  have hx : byteAt bs (i / 8) ^^^ 2 ^ (i % 8) < 256 := Nat.xor_lt_two_pow (n := 8) (byteAt_lt _ _) (pow8_lt _ (by omega))
  have hto : (UInt8.ofNat (byteAt bs (i / 8) ^^^ 2 ^ (i % 8))).toNat = byteAt bs (i / 8) ^^^ 2 ^ (i % 8) := by
    rw [UInt8.toNat_ofNat']; exact Nat.mod_eq_of_lt hx
  by_cases hq : j / 8 = i / 8
  · rw [if_pos hq, hto, Nat.testBit_xor]
    by_cases hji : j = i
    · subst hji
      rw [if_pos rfl, Nat.testBit_two_pow_self]
      simp
    · rw [if_neg hji, Nat.testBit_two_pow_of_ne (by omega), Bool.xor_false, hq]
  · rw [if_neg hq, if_neg (fun e => hq (by rw [e]))]
theorem byte_set {w : World} {g k : Nat} {bs : List UInt8} (hg : Blk w g (bytesO (bs ++ zeros k))) (j : Nat) (hj : j < bs.length) (x : Nat) (hx : x < 256) :
    Blk (w.setCell ⟨g, j, none⟩ (.int .u8 (x : Nat))) g (bytesO (bs.set j (UInt8.ofNat x) ++ zeros k)) := by
  have := hg.setCell j (.int .u8 (x : Nat))
  unfold bytesO at this
  have e : (.int .u8 (x : Nat) : Value) = B (UInt8.ofNat x) := by
    unfold B
    rw [show (UInt8.ofNat x).toNat = x from by rw [UInt8.toNat_ofNat']; exact Nat.mod_eq_of_lt hx]
  rw [e, bytes_set, List.set_append_left _ _ hj] at this
  rw [e]
  exact this

/-- What a turn leaves. -/
def TurnM (w : World) (C : TxC) (r : Nat × TxM) (X : Nat → Prop) (g : Nat) (bs : List UInt8) (k : Nat) (e : Ending) (w' : World) : Prop :=
  (e = if r.1 = 0 then .returned (.tuple #[]) else .panicked [{ v := refV r.1, recovered := false }]) ∧ TxRep w' C r.2 false X ∧ Blk w' g (bytesO (bs ++ zeros k)) ∧
    Keeps (fun i => i ∈ C.F ∨ i = C.t ∨ i = C.mx ∨ i = g) w w'
variable {C : TxC} {M : TxM} {X : Nat → Prop}
/-- An arm that has closed its own goal leaves this one in its place. -/
theorem dead_end {p : Prop} {w0 : World} (h : p) (_x : wpAny Tryz.prog .any #[] (fun _ _ _ => True) 0 #[] { tmps := #[], defers := [] } w0) : p := h
theorem TxRep.drewN1 {w : World} {C : TxC} {M : TxM} {X : Nat → Prop} {en : Bool} (h : TxRep w C M en X) : TxRep w.drew C M en X := h.quiet (Keeps.refl (fun _ => False) w).drew (fun _ f => f.elim)
set_option maxHeartbeats 1600000 in
theorem bturn_w (hm : Blk w m (bmO p blk lo top first g (512 + k))) (hp : Blk w p (.cells #[.pointer (some ⟨C.t, 0, none⟩)] 43 (0, 0))) (hg : Blk w g (bytesO (bs ++ zeros k))) (hl : bs.length = 512) (i : Nat) (hi : i < 4096)
    (hT : TxRep w C M false X) (h0 : txState M.D C.G.life M.sp false = 0) (hX : ∀ i, X i → i < w.heap.size) (hb : blk < C.G.blocks) (hXm : X m) (hXp : X p) (hXg : X g) (hmg : m ≠ g) (hpg : p ≠ g) :
    Calls Tryz.prog 149 #[.pointer (some ⟨m, 0, none⟩), .int .i64 i] w (TurnM w C (M.put C blk (flipB bs i)) X g (flipB bs i) k) := by
  have c5 := hm.cell 5
  simp at c5
  have cb := byte_cell hg (i / 8) (by omega)
  have hq := tdiv8 i
  have hr := tmod8 i
  have hxor := xor_bit (byteAt bs (i / 8)) (i % 8) (byteAt_lt _ _) (by omega)
  have hix : 0 ≤ ((i / 8 : Nat) : Int) ∧ ((i / 8 : Nat) : Int) < (512 : Nat) := by omega
  have hB1 : Blk (w.setCell ⟨g, i / 8, none⟩ (.int .u8 (byteAt bs (i / 8) ^^^ 2 ^ (i % 8) : Nat))) g (bytesO (flipB bs i ++ zeros k)) := byte_set hg _ (by omega) _ (Nat.xor_lt_two_pow (n := 8) (byteAt_lt _ _) (pow8_lt _ (by omega)))
  have fz := hg.frz (i / 8)
  have hf5 : ∀ W : World, True := fun _ => trivial
  generalize byteAt bs (i / 8) = a at *
  generalize i / 8 = q at *
  generalize i % 8 = r at *
  have hBl : (flipB bs i).length = 512 := by rw [flipB_length]; exact hl
  have hk1 : Keeps (fun i => i ∈ C.F ∨ i = C.t ∨ i = C.mx ∨ i = g) w (w.setCell ⟨g, q, none⟩ (.int .u8 (a ^^^ 2 ^ r : Nat))).drew := ((Keeps.refl _ w).setCell (p := ⟨g, q, none⟩) (.inl (.inr (.inr (.inr rfl)))) _).drew
  have hkg : Keeps (· = g) w (w.setCell ⟨g, q, none⟩ (.int .u8 (a ^^^ 2 ^ r : Nat))).drew := ((Keeps.refl (· = g) w).setCell (p := ⟨g, q, none⟩) (.inl rfl) _).drew
  have hsz : (w.setCell ⟨g, q, none⟩ (.int .u8 (a ^^^ 2 ^ r : Nat))).drew.heap.size = w.heap.size := World.size_setCell ..
  have hnX : ∀ i, X i → i ∉ C.F ∧ i ≠ C.t ∧ i ≠ C.mx := fun i hi => by
    obtain ⟨own, xc, h1, _⟩ := hT
    obtain ⟨a1, _, a3, _, a5⟩ := h1.xX i hi
    exact ⟨a3, a1, fun e => a5 (by simp [mapFoot, e])⟩
  replace hm := hid hm; replace hg := hid hg; replace hl := hid hl; replace hi := hid hi; replace hp := hid hp; replace hT := hid hT; replace hX := hid hX; replace hb := hid hb; replace hXm := hid hXm; replace hXp := hid hXp; replace hXg := hid hXg; replace hB1 := hid hB1; replace hBl := hid hBl; replace hk1 := hid hk1; replace hkg := hid hkg; replace hsz := hid hsz; replace hnX := hid hnX; replace hmg := hid hmg; replace hpg := hid hpg
  go_enter Tryz.func149, Tryz.ntmps149
  go_upto_region 0 with fail
  go_region
  have hall := And.intro (hkg.out.blk hm.out hmg.out) (And.intro (hkg.out.blk hp.out hpg.out) (And.intro hB1.out.drew (And.intro (hT.out.quiet hkg.out (fun _ e => e ▸ hXg.out)) (And.intro hk1.out hsz.out))))
  refine exit_gen (fun W => Blk W m (bmO p blk lo top first g (512 + k)) ∧ Blk W p (.cells #[.pointer (some ⟨C.t, 0, none⟩)] 43 (0, 0)) ∧ Blk W g (bytesO (flipB bs i ++ zeros k)) ∧ TxRep W C M false X ∧ Keeps (fun i => i ∈ C.F ∨ i = C.t ∨ i = C.mx ∨ i = g) w W ∧ W.heap.size = w.heap.size) hall ?_
  clear hall hm hp hg hB1 hT hk1 hkg hsz c5 cb fz hxor
  rintro w1 ⟨hm, hp, hg, hT, hk, hsz⟩
  have hX1 : ∀ i, X i → i < w1.heap.size := fun i hi => by rw [hsz]; exact hX.out i hi
  have hPut := put_m hT.drewN1 h0 hX1 blk hb.out g 0 (512 + k) _ _ hg.drew hXg.out (by rw [List.length_append, hBl.out]; omega) (by rw [List.drop_zero, List.take_left' hBl.out])
  have hPm : ∀ e W, PutM w1.drew C (M.put C blk (flipB bs i)) X e W → e = .returned (.int .i64 (M.put C blk (flipB bs i)).1) ∧ Blk W m (bmO p blk lo top first g (512 + k)) ∧ Blk W p (.cells #[.pointer (some ⟨C.t, 0, none⟩)] 43 (0, 0)) ∧ Blk W g (bytesO (flipB bs i ++ zeros k)) ∧ TxRep W C (M.put C blk (flipB bs i)).2 false X ∧ Keeps (fun i => i ∈ C.F ∨ i = C.t ∨ i = C.mx ∨ i = g) w W := by
    rintro e W ⟨h1, h2, h3⟩
    have hno : ∀ i, X i → ¬ (i ∈ C.F ∨ i = C.t ∨ i = C.mx) := fun i hi => by
      obtain ⟨a1, a2, a3⟩ := hnX.out i hi
      rintro (x | x | x)
      · exact a1 x
      · exact a2 x
      · exact a3 x
    exact ⟨h1, h3.blk hm.drew (hno _ hXm.out), h3.blk hp.drew (hno _ hXp.out), h3.blk hg.drew (hno _ hXg.out), h2, hk.drew.step (h3.mono fun i _ hi => hi.elim (fun x => .inl x) (fun x => x.elim (fun x => .inr (.inl x)) (fun x => .inr (.inr (.inl x)))))⟩
  have c0 := hm.cell 0
  have c1 := hm.cell 1
  have c5 := hm.cell 5
  have p0 := hp.cell 0
  simp at c0 c1 c5 p0
  have d0 : w1.drew.cell? ⟨m, 0, none⟩ = some (.pointer (some ⟨p, 0, none⟩)) := c0
  have d1 : w1.drew.cell? ⟨m, 1, none⟩ = some (.int .i64 blk) := c1
  have d5 : w1.drew.cell? ⟨m, 5, none⟩ = some (.slice (some ⟨g, 0, none⟩) 512 (512 + k)) := c5
  have dp : w1.drew.cell? ⟨p, 0, none⟩ = some (.pointer (some ⟨C.t, 0, none⟩)) := p0
  have hPost : ∀ c M2, M.put C blk (flipB bs i) = (c, M2) → ∀ W, TxRep W C M2 false X → Blk W g (bytesO (flipB bs i ++ zeros k)) → Keeps (fun i => i ∈ C.F ∨ i = C.t ∨ i = C.mx ∨ i = g) w W →
      TurnM w C (M.put C blk (flipB bs i)) X g (flipB bs i) k (if c = 0 then .returned (.tuple #[]) else .panicked [{ v := refV c, recovered := false }]) W := fun c M2 h W x y z => by
    rw [h]
    exact ⟨rfl, x, y, z⟩
  obtain ⟨⟨c, M2⟩, hres⟩ : ∃ r, M.put C blk (flipB bs i) = r := ⟨_, rfl⟩
  replace hPost := hPost c M2 hres
  rw [hres] at hPut hPm
  dsimp only at hPut hPm
  have hcell : ∀ W, Blk W m (bmO p blk lo top first g (512 + k)) → Blk W p (.cells #[.pointer (some ⟨C.t, 0, none⟩)] 43 (0, 0)) → W.cell? ⟨m, 0, none⟩ = some (.pointer (some ⟨p, 0, none⟩)) ∧ W.cell? ⟨m, 1, none⟩ = some (.int .i64 blk) ∧ W.cell? ⟨m, 5, none⟩ = some (.slice (some ⟨g, 0, none⟩) 512 (512 + k)) ∧ W.cell? ⟨p, 0, none⟩ = some (.pointer (some ⟨C.t, 0, none⟩)) := fun W x y => by
    have c0 := x.cell 0
    have c1 := x.cell 1
    have c5 := x.cell 5
    have p0 := y.cell 0
    simp at c0 c1 c5 p0
    exact ⟨c0, c1, c5, p0⟩
  by_cases hz : c = 0
  · subst hz
    rw [if_pos rfl] at hPost
    replace hm := hid hm; replace hp := hid hp; replace hg := hid hg; replace hT := hid hT; replace hk := hid hk; replace hsz := hid hsz; replace hX1 := hid hX1; replace hPut := hid hPut; replace hPm := hid hPm; replace hPost := hid hPost; replace hcell := hid hcell; replace hres := hid hres
    clear hq hr hf5
    go_wp2_with fail
    go_region_held3 (fun W => W.cell? ⟨m, 0, none⟩ = some (.pointer (some ⟨p, 0, none⟩)) ∧ W.cell? ⟨m, 1, none⟩ = some (.int .i64 blk) ∧ W.cell? ⟨m, 5, none⟩ = some (.slice (some ⟨g, 0, none⟩) 512 (512 + k)) ∧ W.cell? ⟨p, 0, none⟩ = some (.pointer (some ⟨C.t, 0, none⟩))) (first | with_reducible exact ⟨d0, d1, d5, dp⟩ | with_reducible exact q4) (first
      | (go_at_call 66; refine hPut.out.mono ?_; intro e w2 hr; obtain ⟨rfl, q1, q2, q3, q5, q6⟩ := hPm.out _ _ hr; clear hr; have q4 := hcell.out _ q1 q2; replace q1 := hid q1; replace q2 := hid q2; replace q3 := hid q3; replace q5 := hid q5; replace q6 := hid q6)
      | (go_at_call 53; refine (pdemand_ok _).mono ?_; rintro e w3 ⟨rfl, rfl⟩))
    all_goals
      go_end0
      exact hPost.out w2 q5.out q3.out q6.out
  ·
    rw [if_neg hz] at hPost
    replace hm := hid hm; replace hp := hid hp; replace hg := hid hg; replace hT := hid hT; replace hk := hid hk; replace hsz := hid hsz; replace hX1 := hid hX1; replace hPut := hid hPut; replace hPm := hid hPm; replace hPost := hid hPost; replace hcell := hid hcell; replace hres := hid hres
    clear hq hr hf5
    have hz' := hid hz
    clear hz
    go_wp2_with fail
    go_region_with (first
      | (go_at_call 66; refine hPut.out.mono ?_; intro e w2 hr; obtain ⟨rfl, q1, q2, q3, q5, q6⟩ := hPm.out _ _ hr; clear hr; obtain ⟨q40, q41, q42, q43⟩ := hcell.out _ q1 q2; replace q1 := hid q1; replace q2 := hid q2; replace q3 := hid q3; replace q5 := hid q5; replace q6 := hid q6)
      | (go_at_call 53; refine (pdemand_bad _ c hz'.out).mono ?_; rintro e w3 ⟨rfl, rfl⟩; refine dead_end (w0 := w) (And.intro rfl (hPost.out w2 q5.out q3.out q6.out)) ?_))
    all_goals
      trivial
end
end Go.Vk

namespace Go.Vk
open Go.RowKit Go.Proofs

def poolO (t : Nat) : Obj := .cells #[.pointer (some ⟨t, 0, none⟩)] 43 (0, 0)
/-- A bitmap that was read. -/
def ReadM (w : World) (C : TxC) (M : TxM) (X : Nat → Prop) (p blk lo top first : Nat) (e : Ending) (w' : World) : Prop :=
  ∃ m g k, e = .returned (.pointer (some ⟨m, 0, none⟩)) ∧ w.heap.size ≤ m ∧ w.heap.size ≤ g ∧ m ≠ g ∧ m < w'.heap.size ∧ Blk w' m (bmO p blk lo top first g (512 + k)) ∧ Blk w' g (bytesO (M.get C blk ++ zeros k)) ∧
    TxRep w' C (M.read C blk) false (fun i => X i ∨ w.heap.size ≤ i) ∧ Keeps (· ∈ C.F) w w'
section
variable {w : World} {p blk lo top first : Nat} {C : TxC} {M : TxM} {X : Nat → Prop}
theorem read_m (hp : Blk w p (poolO C.t)) (hpX : X p) (hT : TxRep w C M false X) (h0 : txState M.D C.G.life M.sp false = 0) (hb : blk < C.G.blocks) :
    Calls Tryz.prog 96 #[.pointer (some ⟨p, 0, none⟩), .agg #[.pointer none, .int .i64 blk, .int .i64 lo, .int .i64 top, .int .i64 first, .slice none 0 0]] w (ReadM w C M X p blk lo top first) := by
  have hsz : (w.alloc (.cells #[.pointer none, .int .i64 blk, .int .i64 lo, .int .i64 top, .int .i64 first, .slice none 0 0] 156 (0, 0))).heap.size = w.heap.size + 1 := World.size_alloc ..
  have hkA : Keeps (fun _ => False) w (w.alloc (.cells #[.pointer none, .int .i64 blk, .int .i64 lo, .int .i64 top, .int .i64 first, .slice none 0 0] 156 (0, 0))) := (Keeps.refl _ w).alloc _
  have hm1 := Blk.new w (.cells #[.pointer none, .int .i64 blk, .int .i64 lo, .int .i64 top, .int .i64 first, .slice none 0 0] 156 (0, 0))
  have hp1 := hkA.blk hp (fun f => f)
  have hpl := hp.lt
  have hT1 : TxRep (w.alloc (.cells #[.pointer none, .int .i64 blk, .int .i64 lo, .int .i64 top, .int .i64 first, .slice none 0 0] 156 (0, 0))) C M false (fun i => X i ∨ w.heap.size ≤ i) := (hT.client (Y := fun i => X i ∨ w.heap.size ≤ i) (fun i hi => hi)).quiet hkA (fun _ f => f.elim)
  replace hp := hid hp; replace hpX := hid hpX; replace hT := hid hT; replace hsz := hid hsz; replace hkA := hid hkA; replace hpl := hid hpl; replace hm1 := hid hm1; replace hp1 := hid hp1; replace hT1 := hid hT1
  go_enter Tryz.func96, Tryz.ntmps96
  go_upto_region 1 with fail
  have hall := And.intro hm1.out (And.intro hp1.out (And.intro hT1.out (And.intro hkA.out hsz.out)))
  refine wp_gen (fun W => Blk W w.heap.size (.cells #[.pointer none, .int .i64 blk, .int .i64 lo, .int .i64 top, .int .i64 first, .slice none 0 0] 156 (0, 0)) ∧ Blk W p (poolO C.t) ∧ TxRep W C M false (fun i => X i ∨ w.heap.size ≤ i) ∧ Keeps (fun _ => False) w W ∧ W.heap.size = w.heap.size + 1) hall ?_
  clear hall hm1 hp1 hT1 hkA hsz
  rintro w1 ⟨hm, hp1, hT1, hk1, hsz⟩
  have hFX : ∀ i, (X i ∨ w.heap.size ≤ i) → i ∉ C.F := fun i hi => by
    obtain ⟨own, xc, h1, _⟩ := hT1
    exact (h1.xX i hi).2.2.1
  have hGet := get_m hT1.drewN1 h0 blk hb
  have p0 : w1.drew.cell? ⟨p, 0, none⟩ = some (.pointer (some ⟨C.t, 0, none⟩)) := by have := hp1.cell 0; simpa using this
  have m1 : w1.drew.cell? ⟨w.heap.size, 1, none⟩ = some (.int .i64 blk) := by have := hm.cell 1; simpa using this
  have hGm : ∀ e W, GetM w1.drew C M blk false (fun i => X i ∨ w.heap.size ≤ i) e W → ∃ g k, e = .returned (.tuple #[.slice (some ⟨g, 0, none⟩) 512 (512 + k), .int .i64 0]) ∧ W.cell? ⟨p, 0, none⟩ = some (.pointer (some ⟨C.t, 0, none⟩)) ∧ W.cell? ⟨w.heap.size, 1, none⟩ = some (.int .i64 blk) ∧
      (∀ i, W.frozen? ⟨w.heap.size, i, none⟩ = false) ∧ (∃ v0 v5, W.cell? ⟨w.heap.size, 0, none⟩ = some v0 ∧ W.cell? ⟨w.heap.size, 5, none⟩ = some v5) ∧
      ReadM w C M X p blk lo top first (.returned (.pointer (some ⟨w.heap.size, 0, none⟩))) ((W.setCell ⟨w.heap.size, 0, none⟩ (.pointer (some ⟨p, 0, none⟩))).setCell ⟨w.heap.size, 5, none⟩ (.slice (some ⟨g, 0, none⟩) 512 (512 + k))) := by
    rintro e W ⟨g, k, h1, h2, h3, h4, h5⟩
    have hmW := h5.blk hm.drew (hFX _ (.inr (Nat.le_refl _)))
    have hpW := h5.blk hp1.drew (hFX _ (.inl hpX.out))
    have hg1 : w1.drew.heap.size = w.heap.size + 1 := hsz
    have hgm : w.heap.size ≠ g := by omega
    have hgl := h3.lt
    have hB := (hmW.setCell 0 (.pointer (some ⟨p, 0, none⟩))).setCell 5 (.slice (some ⟨g, 0, none⟩) 512 (512 + k))
    refine ⟨g, k, h1, by have := hpW.cell 0; simpa using this, by have := hmW.cell 1; simpa using this, hmW.frz, ⟨_, _, hmW.cell 0, hmW.cell 5⟩, ?_⟩
    refine ⟨w.heap.size, g, k, rfl, Nat.le_refl _, by omega, hgm, by rw [World.size_setCell, World.size_setCell]; omega, ?_, ?_, ?_, ?_⟩
    · simpa [bmO] using hB
    · exact (h3.setCell_ne (p := ⟨w.heap.size, 0, none⟩) (Ne.symm hgm) _).setCell_ne (p := ⟨w.heap.size, 5, none⟩) (Ne.symm hgm) _
    · have k2 : Keeps (· = w.heap.size) W ((W.setCell ⟨w.heap.size, 0, none⟩ (.pointer (some ⟨p, 0, none⟩))).setCell ⟨w.heap.size, 5, none⟩ (.slice (some ⟨g, 0, none⟩) 512 (512 + k))) :=
        ((Keeps.refl (· = w.heap.size) W).setCell (p := ⟨w.heap.size, 0, none⟩) (.inl rfl) _).setCell (p := ⟨w.heap.size, 5, none⟩) (.inl rfl) _
      refine (h4.client (Y := fun i => X i ∨ w.heap.size ≤ i) (fun i hi => .inl (.inl hi))).quiet k2 (fun i e => .inr (by omega))
    · exact ((((hk1.mono (fun _ _ f => f.elim)).drew.step h5).setCell (p := ⟨w.heap.size, 0, none⟩) (.inr (Nat.le_refl _)) _)).setCell (p := ⟨w.heap.size, 5, none⟩) (.inr (Nat.le_refl _)) _
  replace hm := hid hm; replace hp1 := hid hp1; replace hT1 := hid hT1; replace hk1 := hid hk1; replace hsz := hid hsz; replace hFX := hid hFX; replace hGet := hid hGet; replace hGm := hid hGm
  go_region_held3 (fun W => W.cell? ⟨p, 0, none⟩ = some (.pointer (some ⟨C.t, 0, none⟩)) ∧ W.cell? ⟨w.heap.size, 1, none⟩ = some (.int .i64 blk)) (first | with_reducible exact ⟨p0, m1⟩ | with_reducible exact ⟨q0, q1⟩) (first
    | (go_at_call 58; refine hGet.out.mono ?_; intro e w2 hr; obtain ⟨g, k, rfl, q0, q1, qf, ⟨v0, v5, qv0, qv5⟩, qR⟩ := hGm.out _ _ hr; clear hr; replace qR := hid qR))
  all_goals
    have qv := cell_setCell_ne (p := ⟨w.heap.size, 0, none⟩) (a := ⟨w.heap.size, 5, none⟩) qv5
    go_wp2_with (go_at_call 53; refine (pdemand_ok _).mono ?_; rintro e w3 ⟨rfl, rfl⟩)
    go_ret
    exact qR.out

/-- What is fresh belongs to the client. -/
def fresh (X : Nat → Prop) (n : Nat) (i : Nat) : Prop := X i ∨ n ≤ i
theorem TxRep.fresh (h : TxRep w C M false X) : TxRep w C M false (fresh X w.heap.size) := h.client (fun _ hi => hi)
theorem ReadM.back {W : World} {e : Ending} {w' : World} (x : Keeps (fun _ => False) w W) (h : ReadM W C M (fresh X w.heap.size) p blk lo top first e w') : ∃ m, e = .returned (.pointer (some ⟨m, 0, none⟩)) ∧ ReadM w C M X p blk lo top first e w' := by
  obtain ⟨m, g, k, h1, h2, h3, h4, h5, h6, h7, h8, h9⟩ := h
  have := x.size
  exact ⟨m, h1, m, g, k, h1, by omega, by omega, h4, h5, h6, h7, h8.client (fun i hi => .inl (.inl hi)), (x.mono (fun _ _ f => f.elim)).step h9⟩

set_option maxRecDepth 100000 in
theorem blocks_m (hp : Blk w p (poolO C.t)) (hpX : X p) (hT : TxRep w C M false X) (h0 : txState M.D C.G.life M.sp false = 0) (hb : 0 < C.G.blocks) :
    Calls Tryz.prog 54 #[.pointer (some ⟨p, 0, none⟩)] w (ReadM w C M X p 0 (2 + C.G.n / 4) C.G.blocks 0) := by
  have hL : Calls Tryz.prog 90 #[.pointer (some ⟨C.t, 0, none⟩)] w fun e w' => e = .returned (.agg (layoutL C.G.s C.G.lg C.G.n).toArray) ∧ Keeps (fun _ => False) w w' := by
    obtain ⟨own, xc, h1, _⟩ := hT
    exact layout_w h1.ht h1.hs
  unfold layoutL at hL
  have hbl : C.G.s - (3 + C.G.lg) = C.G.blocks := rfl
  rw [hbl] at hL
  have hR := fun W (x : Keeps (fun _ => False) w W) => read_m (X := fresh X w.heap.size) (blk := 0) (lo := (2 + C.G.n / 4)) (top := C.G.blocks) (first := 0) (x.blk hp (fun f => f)) (.inl hpX) (hT.fresh.quiet x (fun _ f => f.elim)) h0 hb
  have hP := fun W (x : Keeps (fun _ => False) w W) e w' => ReadM.back (w' := w') (X := X) (M := M) (C := C) (p := p) (blk := 0) (lo := (2 + C.G.n / 4)) (top := C.G.blocks) (first := 0) (e := e) x
  generalize 2 + C.G.n / 4 = dt at hL hR hP ⊢
  generalize 3 + C.G.lg = v1 at hL
  generalize C.G.blocks = bl at hL hR hP ⊢
  generalize C.G.n = gn at hL hR hP ⊢
  generalize ReadM w C M X p 0 (dt) bl 0 = Post at hP ⊢
  have p0 := hp.cell 0
  simp at p0
  have hfd : ∀ (a b c d e : Value) (w : World), (Instr.field 124 (.agg #[a, b, c, d, e]) 3).run Tryz.prog w = .ok d w := fun a b c d e w => by kernel_rfl
  replace hp := hid hp; replace hpX := hid hpX; replace hT := hid hT; replace hR := hid hR; replace hP := hid hP; replace hL := hid hL
  go_enter Tryz.func54, Tryz.ntmps54
  go_wp2_with (first
    | (go_at_call 90; refine hL.out.mono ?_; rintro e w1 ⟨rfl, hk1⟩; have p1 := hk1.cellF p0 (fun f => f); replace hk1 := hid hk1)
    | (go_at_call 96; refine (hR.out _ (by first | exact hk1.out.alloc _ | exact hk1.out)).mono ?_; intro e w2 hr; obtain ⟨m, rfl, hr⟩ := hP.out _ (by first | exact hk1.out.alloc _ | exact hk1.out) _ _ hr; replace hr := hid hr))
  exact hr.out

set_option maxRecDepth 100000 in
theorem nodes_m (hp : Blk w p (poolO C.t)) (hpX : X p) (hT : TxRep w C M false X) (h0 : txState M.D C.G.life M.sp false = 0) (hb : 1 < C.G.blocks) :
    Calls Tryz.prog 56 #[.pointer (some ⟨p, 0, none⟩)] w (ReadM w C M X p 1 0 C.G.n 1) := by
  have hL : Calls Tryz.prog 90 #[.pointer (some ⟨C.t, 0, none⟩)] w fun e w' => e = .returned (.agg (layoutL C.G.s C.G.lg C.G.n).toArray) ∧ Keeps (fun _ => False) w w' := by
    obtain ⟨own, xc, h1, _⟩ := hT
    exact layout_w h1.ht h1.hs
  unfold layoutL at hL
  have hbl : C.G.s - (3 + C.G.lg) = C.G.blocks := rfl
  rw [hbl] at hL
  have hR := fun W (x : Keeps (fun _ => False) w W) => read_m (X := fresh X w.heap.size) (blk := 1) (lo := 0) (top := C.G.n) (first := 1) (x.blk hp (fun f => f)) (.inl hpX) (hT.fresh.quiet x (fun _ f => f.elim)) h0 hb
  have hP := fun W (x : Keeps (fun _ => False) w W) e w' => ReadM.back (w' := w') (X := X) (M := M) (C := C) (p := p) (blk := 1) (lo := 0) (top := C.G.n) (first := 1) (e := e) x
  generalize 2 + C.G.n / 4 = dt at hL hR hP ⊢
  generalize 3 + C.G.lg = v1 at hL
  generalize C.G.blocks = bl at hL hR hP ⊢
  generalize C.G.n = gn at hL hR hP ⊢
  generalize ReadM w C M X p 1 0 gn 1 = Post at hP ⊢
  have p0 := hp.cell 0
  simp at p0
  have hfd : ∀ (a b c d e : Value) (w : World), (Instr.field 124 (.agg #[a, b, c, d, e]) 3).run Tryz.prog w = .ok d w := fun a b c d e w => by kernel_rfl
  replace hp := hid hp; replace hpX := hid hpX; replace hT := hid hT; replace hR := hid hR; replace hP := hid hP; replace hL := hid hL
  go_enter Tryz.func56, Tryz.ntmps56
  go_wp2_with (first
    | (go_at_call 90; refine hL.out.mono ?_; rintro e w1 ⟨rfl, hk1⟩; have p1 := hk1.cellF p0 (fun f => f); replace hk1 := hid hk1)
    | (go_at_call 96; refine (hR.out _ (by first | exact hk1.out.alloc _ | exact hk1.out)).mono ?_; intro e w2 hr; obtain ⟨m, rfl, hr⟩ := hP.out _ (by first | exact hk1.out.alloc _ | exact hk1.out) _ _ hr; replace hr := hid hr))
  exact hr.out

end
end Go.Vk

namespace Go.Vk
open Go.RowKit Go.Proofs


theorem spoil_60 {w : World} {C : TxC} {D : DM} {own : List OEnt} {xc sp : Nat} {X : Nat → Prop} (h : TxAt w C D own xc sp false X) (h0 : txState D C.G.life sp false = 0) : Calls Tryz.prog 119 #[.pointer (some ⟨C.t, 0, none⟩), .int .i64 60] w fun e w' =>
    ∃ m, e = .returned (.int .i64 60) ∧ w' = (w.drewN m).setCell ⟨C.t, 2, none⟩ (.int .i64 (60 : Nat)) := by
  have hst := state_w h.ht h.hs h.hd
  rw [h0] at hst
  have hfr := fun n => (h.ht.drewN n).frz 2
  have c2 := h.ht.cell 2
  simp at c2
  replace h := hid h; replace h0 := hid h0; replace hst := hid hst
  go_enter Tryz.func119, Tryz.ntmps119
  go_wp2_with (go_at_call 18; refine hst.out.mono ?_; rintro e w' ⟨rfl, m, rfl⟩; have hfm := hfr m)
  go_ret
  exact ⟨m, rfl, rfl⟩

theorem spoil_61 {w : World} {C : TxC} {D : DM} {own : List OEnt} {xc sp : Nat} {X : Nat → Prop} (h : TxAt w C D own xc sp false X) (h0 : txState D C.G.life sp false = 0) : Calls Tryz.prog 119 #[.pointer (some ⟨C.t, 0, none⟩), .int .i64 61] w fun e w' =>
    ∃ m, e = .returned (.int .i64 61) ∧ w' = (w.drewN m).setCell ⟨C.t, 2, none⟩ (.int .i64 (61 : Nat)) := by
  have hst := state_w h.ht h.hs h.hd
  rw [h0] at hst
  have hfr := fun n => (h.ht.drewN n).frz 2
  have c2 := h.ht.cell 2
  simp at c2
  replace h := hid h; replace h0 := hid h0; replace hst := hid hst
  go_enter Tryz.func119, Tryz.ntmps119
  go_wp2_with (go_at_call 18; refine hst.out.mono ?_; rintro e w' ⟨rfl, m, rfl⟩; have hfm := hfr m)
  go_ret
  exact ⟨m, rfl, rfl⟩

/-- The transaction is spoilt by an error. -/
theorem TxRep.spoilt {w : World} {C : TxC} {M : TxM} {X : Nat → Prop} (h : TxRep w C M false X) (m c : Nat) : TxRep ((w.drewN m).setCell ⟨C.t, 2, none⟩ (.int .i64 c)) C { M with sp := c } false X := by
  obtain ⟨own, xc, h1, h2, h3⟩ := h.drewN m
  exact ⟨own, xc, h1.spoil c, h2, h3⟩
theorem spoil_m {w : World} {C : TxC} {M : TxM} {X : Nat → Prop} (h : TxRep w C M false X) (h0 : txState M.D C.G.life M.sp false = 0) (c : Nat) (hc : c = 60 ∨ c = 61) : Calls Tryz.prog 119 #[.pointer (some ⟨C.t, 0, none⟩), .int .i64 c] w fun e w' =>
    e = .returned (.int .i64 c) ∧ TxRep w' C { M with sp := c } false X ∧ Keeps (fun i => i = C.t) w w' := by
  obtain ⟨own, xc, h1, h2, h3⟩ := id h
  have fin : ∀ m, Keeps (fun i => i = C.t) w ((w.drewN m).setCell ⟨C.t, 2, none⟩ (.int .i64 c)) := fun m => ((Keeps.refl (fun i => i = C.t) w).drewN m).setCell (p := ⟨C.t, 2, none⟩) (.inl rfl) _
  rcases hc with rfl | rfl
  · refine (spoil_60 h1 h0).mono ?_
    rintro e w' ⟨m, rfl, rfl⟩
    exact ⟨rfl, h.spoilt m 60, fin m⟩
  · refine (spoil_61 h1 h0).mono ?_
    rintro e w' ⟨m, rfl, rfl⟩
    exact ⟨rfl, h.spoilt m 61, fin m⟩

def TakeM (w : World) (C : TxC) (r : Nat × TxM) (X : Nat → Prop) (g v : Nat) (e : Ending) (w' : World) : Prop :=
  (e = if r.1 = 0 then .returned (.int .i64 v) else .panicked [{ v := refV r.1, recovered := false }]) ∧ TxRep w' C r.2 false X ∧ Keeps (fun i => i ∈ C.F ∨ i = C.t ∨ i = C.mx ∨ i = g) w w'
section
variable {w : World} {m p blk lo top first g k : Nat} {bs : List UInt8} {C : TxC} {M : TxM} {X : Nat → Prop}
theorem TurnM.drewN {r : Nat × TxM} {bs : List UInt8} {e : Ending} {w' : World} {n : Nat} (h : TurnM (w.drewN n) C r X g bs k e w') : TurnM w C r X g bs k e w' :=
  ⟨h.1, h.2.1, h.2.2.1, ((Keeps.refl _ w).drewN n).step h.2.2.2⟩

set_option maxHeartbeats 1600000 in
theorem take_found (hm : Blk w m (bmO p blk lo top first g (512 + k))) (hp : Blk w p (poolO C.t)) (hg : Blk w g (bytesO (bs ++ zeros k))) (hl : bs.length = 512) (none_ : Int)
    (hT : TxRep w C M false X) (h0 : txState M.D C.G.life M.sp false = 0) (hX : ∀ i, X i → i < w.heap.size) (hb : blk < C.G.blocks) (hXm : X m) (hXp : X p) (hXg : X g) (hmg : m ≠ g) (hpg : p ≠ g) (hf : first ≤ 4096)
    (i0 : Nat) (h1 : lo ≤ i0) (h2 : i0 < top) (h3 : top ≤ 4096) (hfr : bitOf bs i0 = false) (hset : ∀ j, lo ≤ j → j < i0 → bitOf bs j = true) :
    Calls Tryz.prog 92 #[.pointer (some ⟨m, 0, none⟩), .int .i64 none_] w (TakeM w C (M.put C blk (flipB bs i0)) X g (i0 + first)) := by
  have hH := fun n i hi => has_w (hm.drewN n) (hg.drewN n) hl i hi
  have hTu := fun n => (bturn_w (hm.drewN n) (hp.drewN n) (hg.drewN n) hl i0 (by omega) (hT.drewN n) h0 (by intro i hi; exact hX i hi) hb hXm hXp hXg hmg hpg)
  have hTM : ∀ n e W, TurnM (w.drewN n) C (M.put C blk (flipB bs i0)) X g (flipB bs i0) k e W → TurnM w C (M.put C blk (flipB bs i0)) X g (flipB bs i0) k e W := fun n e W h => h.drewN
  have hmW : ∀ W, Keeps (fun i => i ∈ C.F ∨ i = C.t ∨ i = C.mx ∨ i = g) w W → W.cell? ⟨m, 4, none⟩ = some (.int .i64 first) := fun W hk => by
    have hno : ¬ (m ∈ C.F ∨ m = C.t ∨ m = C.mx ∨ m = g) := by
      obtain ⟨own, xc, hh, _⟩ := hT
      obtain ⟨a1, _, a3, _, a5⟩ := hh.xX m hXm
      rintro (x | x | x | x)
      · exact a3 x
      · exact a1 x
      · exact a5 (by simp [mapFoot, x])
      · exact hmg x
    have := (hk.blk hm hno).cell 4
    simpa using this
  have c2 := hm.cell 2
  have c3 := hm.cell 3
  simp at c2 c3
  replace hm := hid hm; replace hp := hid hp; replace hg := hid hg; replace hT := hid hT; replace hX := hid hX; replace hH := hid hH; replace hTu := hid hTu; replace hset := hid hset; replace hTM := hid hTM; replace hmW := hid hmW
  go_enter Tryz.func92, Tryz.ntmps92
  go_wp2
  go_loopw [5] (fun i wr => ∃ k n : Nat, lo ≤ k ∧ k ≤ i0 ∧ i = .int .i64 k ∧ wr = w.drewN n) (fun i _ => i0 + 1 - (intOf i).toNat)
  case atStart => exact ⟨lo, 0, by omega, by omega, rfl, rfl⟩
  case round =>
    obtain ⟨k1, n, hk1, hk2, rfl, rfl⟩ := hrel
    have hki : (k1 : Int) < (top : Int) := by omega
    by_cases hlt2 : k1 < i0
    · have hHk := hH.out n k1 (by omega)
      rw [hset.out k1 hk1 hlt2] at hHk
      replace hHk := hid hHk
      go_wp2_with (go_at_call 98; refine hHk.out.mono ?_; rintro e w' ⟨rfl, n2, rfl⟩)
      exact ⟨⟨k1 + 1, n + n2, by omega, by omega, by go_num, rfl⟩, by simp [intOf]; omega⟩
    · obtain rfl : k1 = i0 := by omega
      have hHk := hH.out n k1 (by omega)
      rw [hfr] at hHk
      replace hHk := hid hHk
      go_wp2_with (go_at_call 98; refine hHk.out.mono ?_; rintro e w' ⟨rfl, n2, rfl⟩)
      have hTk := hTu.out (n + n2)
      refine hTk.mono ?_
      intro e w2 ht
      obtain ⟨rfl, t1, t2, t3⟩ := hTM.out _ _ _ ht
      have m4 := hmW.out _ t3
      clear ht hTk
      by_cases hz : (M.put C blk (flipB bs k1)).1 = 0
      · rw [if_pos hz]
        have hP : TakeM w C (M.put C blk (flipB bs k1)) X g (k1 + first) (.returned (.int .i64 (k1 + first : Nat))) w2 := ⟨by rw [if_pos hz], t1, t3⟩
        have hsum : IntKind.i64.wrap ((k1 : Int) + (first : Int)) = ((k1 + first : Nat) : Int) := by rw [wrap_small (by omega) (by omega)]; omega
        replace hP := hid hP; replace t1 := hid t1; replace t2 := hid t2; replace t3 := hid t3; replace hz := hid hz
        go_wp2
        go_ret
        exact hP.out
      · rw [if_neg hz]
        have hP : TakeM w C (M.put C blk (flipB bs k1)) X g (k1 + first) (.panicked [{ v := refV (M.put C blk (flipB bs k1)).1, recovered := false }]) w2 := ⟨by rw [if_neg hz], t1, t3⟩
        replace hP := hid hP; replace t1 := hid t1; replace t2 := hid t2; replace t3 := hid t3; replace hz := hid hz
        go_wp2
        exact ⟨rfl, hP.out⟩

set_option maxHeartbeats 1600000 in
theorem take_none (hm : Blk w m (bmO p blk lo top first g (512 + k))) (hp : Blk w p (poolO C.t)) (hg : Blk w g (bytesO (bs ++ zeros k))) (hl : bs.length = 512) (c : Nat) (hc : c = 60 ∨ c = 61)
    (hT : TxRep w C M false X) (h0 : txState M.D C.G.life M.sp false = 0) (h1 : lo ≤ top) (h3 : top ≤ 4096) (hset : ∀ j, lo ≤ j → j < top → bitOf bs j = true) :
    Calls Tryz.prog 92 #[.pointer (some ⟨m, 0, none⟩), .int .i64 c] w fun e w' => e = .panicked [{ v := refV c, recovered := false }] ∧ TxRep w' C { M with sp := c } false X ∧ Keeps (fun i => i = C.t) w w' := by
  have hH := fun n i hi => has_w (hm.drewN n) (hg.drewN n) hl i hi
  have hS := fun n => (spoil_m (hT.drewN n) h0 c hc).mono (R' := fun e w' => e = .returned (.int .i64 c) ∧ TxRep w' C { M with sp := c } false X ∧ Keeps (fun i => i = C.t) w w') (fun e w' h => ⟨h.1, h.2.1, ((Keeps.refl _ w).drewN n).step h.2.2⟩)
  have c0 := hm.cell 0
  have c2 := hm.cell 2
  have c3 := hm.cell 3
  have p0 := hp.cell 0
  simp at c0 c2 c3 p0
  have hi : ((c : Int) != 0) = true := by simp; omega
  have hP : ∀ w', TxRep w' C { M with sp := c } false X → Keeps (fun i => i = C.t) w w' → (Ending.panicked [{ v := .iface 153 (.agg #[.int .i64 c]), recovered := false }] = .panicked [{ v := refV c, recovered := false }] ∧ TxRep w' C { M with sp := c } false X ∧ Keeps (fun i => i = C.t) w w') := fun w' x y => ⟨rfl, x, y⟩
  replace hm := hid hm; replace hp := hid hp; replace hg := hid hg; replace hT := hid hT; replace hH := hid hH; replace hS := hid hS; replace hset := hid hset; replace hc := hid hc; replace hP := hid hP
  go_enter Tryz.func92, Tryz.ntmps92
  go_wp2
  go_loopw [5] (fun i wr => ∃ k n : Nat, lo ≤ k ∧ k ≤ top ∧ i = .int .i64 k ∧ wr = w.drewN n) (fun i _ => top - (intOf i).toNat)
  case atStart => exact ⟨lo, 0, by omega, by omega, rfl, rfl⟩
  case round =>
    obtain ⟨k1, n, hk1, hk2, rfl, rfl⟩ := hrel
    by_cases hlt2 : k1 < top
    · have hki : (k1 : Int) < (top : Int) := by omega
      have hHk := hH.out n k1 (by omega)
      rw [hset.out k1 hk1 hlt2] at hHk
      replace hHk := hid hHk
      go_wp2_with (go_at_call 98; refine hHk.out.mono ?_; rintro e w' ⟨rfl, n2, rfl⟩)
      exact ⟨⟨k1 + 1, n + n2, by omega, by omega, by go_num, rfl⟩, by simp [intOf]; omega⟩
    · have hki : ¬ (k1 : Int) < (top : Int) := by omega
      go_wp2_with (go_at_call 119; refine (hS.out _).mono ?_; rintro e w' ⟨rfl, t1, t2⟩; replace t1 := hid t1; replace t2 := hid t2)
      exact ⟨rfl, hP.out _ t1.out t2.out⟩
end
end Go.Vk

namespace Go.Vk
open Go.RowKit Go.Proofs

def firstFree (bs : List UInt8) (lo top : Nat) : Option Nat := (List.range' lo (top - lo)).find? fun i => !bitOf bs i
theorem firstFree_some {bs : List UInt8} {lo top i : Nat} (h : firstFree bs lo top = some i) : lo ≤ i ∧ i < top ∧ bitOf bs i = false ∧ ∀ j, lo ≤ j → j < i → bitOf bs j = true := by
  unfold firstFree at h
  have hm := List.mem_of_find?_eq_some h
  have hp := List.find?_some h
  rw [List.mem_range'_1] at hm
  refine ⟨hm.1, by omega, by simpa using hp, fun j h1 h2 => ?_⟩
  rw [List.find?_range'_eq_some] at h
  simpa using h.2.2 j h1 h2
theorem firstFree_none {bs : List UInt8} {lo top : Nat} (h : firstFree bs lo top = none) : ∀ j, lo ≤ j → j < top → bitOf bs j = true := by
  unfold firstFree at h
  rw [List.find?_eq_none] at h
  intro j h1 h2
  simpa using h j (by rw [List.mem_range'_1]; omega)

/-- A take of the lowest free one of a bitmap that was read: the number, the error. -/
def TxM.takeR (C : TxC) (M : TxM) (bs : List UInt8) (blk lo top first no : Nat) : (Nat × Nat) × TxM :=
  match firstFree bs lo top with
  | some i => ((if (M.put C blk (flipB bs i)).1 = 0 then i + first else 0, (M.put C blk (flipB bs i)).1), (M.put C blk (flipB bs i)).2)
  | none => ((0, no), { M with sp := no })
def TakeR (w : World) (C : TxC) (r : (Nat × Nat) × TxM) (X : Nat → Prop) (g : Nat) (e : Ending) (w' : World) : Prop :=
  (e = if r.1.2 = 0 then .returned (.int .i64 r.1.1) else .panicked [{ v := refV r.1.2, recovered := false }]) ∧ TxRep w' C r.2 false X ∧ Keeps (fun i => i ∈ C.F ∨ i = C.t ∨ i = C.mx ∨ i = g) w w' ∧ (r.1.2 ≠ 0 → r.1.1 = 0)
section
variable {w : World} {m p blk lo top first g k : Nat} {bs : List UInt8} {C : TxC} {M : TxM} {X : Nat → Prop}
theorem take_m (hm : Blk w m (bmO p blk lo top first g (512 + k))) (hp : Blk w p (poolO C.t)) (hg : Blk w g (bytesO (bs ++ zeros k))) (hl : bs.length = 512) (no : Nat) (hc : no = 60 ∨ no = 61)
    (hT : TxRep w C M false X) (h0 : txState M.D C.G.life M.sp false = 0) (hX : ∀ i, X i → i < w.heap.size) (hb : blk < C.G.blocks) (hXm : X m) (hXp : X p) (hXg : X g) (hmg : m ≠ g) (hpg : p ≠ g) (hf : first ≤ 4096)
    (h1 : lo ≤ top) (h3 : top ≤ 4096) :
    Calls Tryz.prog 92 #[.pointer (some ⟨m, 0, none⟩), .int .i64 no] w (TakeR w C (M.takeR C bs blk lo top first no) X g) := by
  unfold TxM.takeR
  cases hF : firstFree bs lo top with
  | some i =>
    obtain ⟨a1, a2, a3, a4⟩ := firstFree_some hF
    refine (take_found hm hp hg hl no hT h0 hX hb hXm hXp hXg hmg hpg hf i a1 a2 h3 a3 a4).mono ?_
    rintro e w' ⟨x1, x2, x3⟩
    refine ⟨?_, x2, x3, ?_⟩
    · rw [x1]
      by_cases hz : (M.put C blk (flipB bs i)).1 = 0
      · simp only [if_pos hz]
      · simp only [if_neg hz]
    · dsimp only
      exact fun hz => if_neg hz
  | none =>
    refine (take_none hm hp hg hl no hc hT h0 h1 h3 (firstFree_none hF)).mono ?_
    rintro e w' ⟨x1, x2, x3⟩
    refine ⟨?_, x2, x3.mono fun i _ hi => .inr (.inl hi), fun _ => rfl⟩
    rw [x1, if_neg (by dsimp only; omega)]

theorem drop_set (hm : Blk w m (bmO p blk lo top first g (512 + k))) (hp : Blk w p (poolO C.t)) (hg : Blk w g (bytesO (bs ++ zeros k))) (hl : bs.length = 512)
    (hT : TxRep w C M false X) (h0 : txState M.D C.G.life M.sp false = 0) (hX : ∀ i, X i → i < w.heap.size) (hb : blk < C.G.blocks) (hXm : X m) (hXp : X p) (hXg : X g) (hmg : m ≠ g) (hpg : p ≠ g)
    (i : Nat) (h3 : i < 4096) (_ : first ≤ 4096) (hset : bitOf bs i = true) :
    Calls Tryz.prog 104 #[.pointer (some ⟨m, 0, none⟩), .int .i64 (i + first : Nat)] w (TurnM w C (M.put C blk (flipB bs i)) X g (flipB bs i) k) := by
  have hH := has_w hm hg hl i h3
  rw [hset] at hH
  have hTu := fun n => (bturn_w (hm.drewN n) (hp.drewN n) (hg.drewN n) hl i h3 (hT.drewN n) h0 (by intro i hi; exact hX i hi) hb hXm hXp hXg hmg hpg).mono (R' := TurnM w C (M.put C blk (flipB bs i)) X g (flipB bs i) k) (fun e W h => h.drewN)
  have hTs : ∀ e W, TurnM w C (M.put C blk (flipB bs i)) X g (flipB bs i) k e W → e = (if (M.put C blk (flipB bs i)).1 = 0 then .returned (.tuple #[]) else .panicked [{ v := refV (M.put C blk (flipB bs i)).1, recovered := false }]) := fun e W h => h.1
  have c4 := hm.cell 4
  simp at c4
  have hsub : IntKind.i64.wrap (((i + first : Nat) : Int) - (first : Int)) = (i : Int) := by rw [wrap_small (by omega) (by omega)]; omega
  generalize hs : i + first = s at hsub ⊢
  generalize TurnM w C (M.put C blk (flipB bs i)) X g (flipB bs i) k = Post at hTu hTs ⊢
  by_cases hz : (M.put C blk (flipB bs i)).1 = 0
  · rw [if_pos hz] at hTs
    replace hm := hid hm; replace hp := hid hp; replace hg := hid hg; replace hT := hid hT; replace hX := hid hX; replace hH := hid hH; replace hTu := hid hTu; replace hTs := hid hTs; replace hz := hid hz; replace hs := hid hs
    go_enter Tryz.func104, Tryz.ntmps104
    go_wp2_with (first
      | (go_at_call 98; refine hH.out.mono ?_; rintro e w' ⟨rfl, n2, rfl⟩)
      | (go_at_call 149; refine (hTu.out _).mono ?_; intro e w' ht; obtain rfl := hTs.out _ _ ht; replace ht := hid ht))
    go_end0
    exact ht.out
  · rw [if_neg hz] at hTs
    replace hm := hid hm; replace hp := hid hp; replace hg := hid hg; replace hT := hid hT; replace hX := hid hX; replace hH := hid hH; replace hTu := hid hTu; replace hTs := hid hTs; replace hz := hid hz; replace hs := hid hs
    go_enter Tryz.func104, Tryz.ntmps104
    go_wp2_with (first
      | (go_at_call 98; refine hH.out.mono ?_; rintro e w' ⟨rfl, n2, rfl⟩)
      | (go_at_call 149; refine (hTu.out _).mono ?_; intro e w' ht; obtain rfl := hTs.out _ _ ht; replace ht := hid ht))
    exact ⟨rfl, ht.out⟩
theorem drop_free (hm : Blk w m (bmO p blk lo top first g (512 + k))) (hg : Blk w g (bytesO (bs ++ zeros k))) (hl : bs.length = 512)
    (i : Nat) (h3 : i < 4096) (_ : first ≤ 4096) (hset : bitOf bs i = false) :
    Calls Tryz.prog 104 #[.pointer (some ⟨m, 0, none⟩), .int .i64 (i + first : Nat)] w fun e w' => e = .panicked [{ v := refV 62, recovered := false }] ∧ ∃ n, w' = w.drewN n := by
  have hH := has_w hm hg hl i h3
  rw [hset] at hH
  have c4 := hm.cell 4
  simp at c4
  have hsub : IntKind.i64.wrap (((i + first : Nat) : Int) - (first : Int)) = (i : Int) := by rw [wrap_small (by omega) (by omega)]; omega
  generalize hs : i + first = s at hsub ⊢
  replace hm := hid hm; replace hg := hid hg; replace hH := hid hH; replace hs := hid hs
  go_enter Tryz.func104, Tryz.ntmps104
  go_wp2_with (first
      | (go_at_call 98; refine hH.out.mono ?_; rintro e w' ⟨rfl, n2, rfl⟩))
  exact ⟨rfl, rfl, n2, rfl⟩
end
end Go.Vk
