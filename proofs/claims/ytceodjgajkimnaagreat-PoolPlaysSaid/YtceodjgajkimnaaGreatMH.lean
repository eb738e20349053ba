/- A transaction in memory; the walks of gone, State, at, Layout. The walks of committed of package store and of Get of a transaction. A transaction of a store, bundled: where it lies, what it tells; what reading and putting do to it. The walks of Begin of a store, Spoil and Put of a transaction. The walk of Put of a transaction. The walks of caughtBy, demand, On of package pool, and of its deferred closures. -/
import Derived.Test.YtceodjgajkimnaaGreatMG
set_option linter.unusedVariables false

namespace Go.Vk
open Go.RowKit Go.Proofs

/-- A geometry. -/
structure Geom where
  s : Nat
  lg : Nat
  n : Nat
  life : Int
def Geom.blocks (G : Geom) : Nat := G.s - (3 + G.lg)
def Geom.home (G : Geom) : Nat := 3 + G.lg
def Geom.data (G : Geom) : Nat := 2 + G.n / 4
def txO (sb mx : Nat) (sp : Nat) (en : Bool) : Obj := .cells #[.pointer (some ⟨sb, 0, none⟩), .map (some mx), .int .i64 sp, .bool en] 106 (0, 0)
def goneB (D : DM) (life : Int) : Bool := D.burnt || (D.life != life)
def txState (D : DM) (life : Int) (sp : Nat) (en : Bool) : Nat := if goneB D life then 3 else if en then 4 else sp

section
variable {w : World} {t sb d l mo mx : Nat} {D : DM} {F : List Nat} {G : Geom} {op en : Bool} {sp : Nat}

theorem gone_w (hs : Blk w sb (storeO d l mo G.s G.lg G.n G.life op)) (h : DiskRep w d D F) : Calls Tryz.prog 50 #[.pointer (some ⟨sb, 0, none⟩)] w fun e w' =>
    e = .returned (.bool (goneB D G.life)) ∧ ∃ m, w' = w.drewN m := by
  have c0 := hs.cell 0
  have c7 := hs.cell 7
  simp at c0 c7
  have hB := fun n => burnt_w (h.drewN n)
  have hL := fun n => life_w (h.drewN n)
  have hE : goneB D G.life = (D.burnt || (D.life != G.life)) := rfl
  cases hb : D.burnt with
  | true =>
    rw [hb] at hB hE
    rw [Bool.true_or] at hE
    replace hs := hid hs; replace h := hid h; replace hB := hid hB; replace hL := hid hL; replace hE := hid hE
    go_enter Tryz.func50, Tryz.ntmps50
    go_upto_region 1 with fail
    go_quiet (first | (go_at_call 94; exact (hB.out _).mono (fun e w' h => ⟨h.1, _, h.2.symm⟩)) | (go_at_call 95; exact (hL.out _).mono (fun e w' h => ⟨h.1, _, h.2.symm⟩)))
    go_wp2
    go_ret
    exact ⟨by rw [hE.out]; rfl, nq, rfl⟩
  | false =>
    rw [hb] at hB hE
    rw [Bool.false_or] at hE
    generalize hx : (D.life != G.life) = x at hE
    replace hs := hid hs; replace h := hid h; replace hB := hid hB; replace hL := hid hL; replace hE := hid hE
    go_enter Tryz.func50, Tryz.ntmps50
    go_upto_region 1 with fail
    go_quiet (first | (go_at_call 94; exact (hB.out _).mono (fun e w' h => ⟨h.1, _, h.2.symm⟩)) | (go_at_call 95; exact (hL.out _).mono (fun e w' h => ⟨h.1, _, h.2.symm⟩)))
    go_wp2
    go_ret
    exact ⟨by rw [hE.out]; rfl, nq, rfl⟩

theorem state_w (ht : Blk w t (txO sb mx sp en)) (hs : Blk w sb (storeO d l mo G.s G.lg G.n G.life op)) (h : DiskRep w d D F) : Calls Tryz.prog 18 #[.pointer (some ⟨t, 0, none⟩)] w fun e w' =>
    e = .returned (.int .i64 (txState D G.life sp en : Nat)) ∧ ∃ m, w' = w.drewN m := by
  have c0 := ht.cell 0
  have c2 := ht.cell 2
  have c3 := ht.cell 3
  simp at c0 c2 c3
  have hg := gone_w hs h
  have hE : txState D G.life sp en = if goneB D G.life then 3 else if en then 4 else sp := rfl
  generalize goneB D G.life = gn at hg hE
  cases gn with
  | true =>
    rw [if_pos rfl] at hE
    replace ht := hid ht; replace hs := hid hs; replace h := hid h; replace hg := hid hg; replace hE := hid hE
    go_enter Tryz.func18, Tryz.ntmps18
    go_wp2_with (go_at_call 50; refine hg.out.mono ?_; rintro e w' ⟨rfl, m, rfl⟩)
    go_ret
    exact ⟨by rw [hE.out]; rfl, m, rfl⟩
  | false =>
    rw [if_neg (by decide)] at hE
    cases en with
    | true =>
      rw [if_pos rfl] at hE
      replace ht := hid ht; replace hs := hid hs; replace h := hid h; replace hg := hid hg; replace hE := hid hE
      go_enter Tryz.func18, Tryz.ntmps18
      go_wp2_with (go_at_call 50; refine hg.out.mono ?_; rintro e w' ⟨rfl, m, rfl⟩)
      go_ret
      exact ⟨by rw [hE.out]; rfl, m, rfl⟩
    | false =>
      rw [if_neg (by decide)] at hE
      replace ht := hid ht; replace hs := hid hs; replace h := hid h; replace hg := hid hg; replace hE := hid hE
      go_enter Tryz.func18, Tryz.ntmps18
      go_wp2_with (go_at_call 50; refine hg.out.mono ?_; rintro e w' ⟨rfl, m, rfl⟩)
      go_ret
      exact ⟨by rw [hE.out]; rfl, m, rfl⟩

/-- May a block be asked for. -/
def txAt (D : DM) (G : Geom) (sp : Nat) (en : Bool) (b : Int) : Nat := if txState D G.life sp en ≠ 0 then txState D G.life sp en else if b < 0 ∨ (G.blocks : Int) ≤ b then 11 else 0
theorem tat_w (ht : Blk w t (txO sb mx sp en)) (hs : Blk w sb (storeO d l mo G.s G.lg G.n G.life op)) (h : DiskRep w d D F) (b : Int) : Calls Tryz.prog 100 #[.pointer (some ⟨t, 0, none⟩), .int .i64 b] w fun e w' =>
    e = .returned (.int .i64 (txAt D G sp en b : Nat)) ∧ ∃ m, w' = w.drewN m := by
  have c0 := ht.cell 0
  have s4 := hs.cell 4
  simp at c0 s4
  have hst := state_w ht hs h
  have hE : txAt D G sp en b = if txState D G.life sp en ≠ 0 then txState D G.life sp en else if b < 0 ∨ (G.blocks : Int) ≤ b then 11 else 0 := rfl
  replace s4 : w.cell? ⟨sb, 4, none⟩ = some (.int .i64 (G.blocks : Nat)) := s4
  generalize txState D G.life sp en = st at hst hE
  generalize G.blocks = bl at s4 hE
  by_cases h0 : st = 0
  · subst h0
    rw [if_neg (by decide)] at hE
    by_cases hb1 : b < 0
    · rw [if_pos (.inl hb1)] at hE
      replace ht := hid ht; replace hs := hid hs; replace h := hid h; replace hst := hid hst; replace hE := hid hE
      go_enter Tryz.func100, Tryz.ntmps100
      go_wp2_with (go_at_call 18; refine hst.out.mono ?_; rintro e w' ⟨rfl, m, rfl⟩)
      go_ret
      exact ⟨by rw [hE.out]; rfl, m, rfl⟩
    · by_cases hb2 : (bl : Int) ≤ b
      · rw [if_pos (.inr hb2)] at hE
        replace ht := hid ht; replace hs := hid hs; replace h := hid h; replace hst := hid hst; replace hE := hid hE
        go_enter Tryz.func100, Tryz.ntmps100
        go_wp2_with (go_at_call 18; refine hst.out.mono ?_; rintro e w' ⟨rfl, m, rfl⟩)
        go_ret
        exact ⟨by rw [hE.out]; rfl, m, rfl⟩
      · rw [if_neg (by omega)] at hE
        replace ht := hid ht; replace hs := hid hs; replace h := hid h; replace hst := hid hst; replace hE := hid hE
        go_enter Tryz.func100, Tryz.ntmps100
        go_wp2_with (go_at_call 18; refine hst.out.mono ?_; rintro e w' ⟨rfl, m, rfl⟩)
        go_ret
        exact ⟨by rw [hE.out]; rfl, m, rfl⟩
  · rw [if_pos h0] at hE
    have hi : ((st : Int) != 0) = true := by simp; exact h0
    replace ht := hid ht; replace hs := hid hs; replace h := hid h; replace hst := hid hst; replace hE := hid hE; replace h0 := hid h0
    go_enter Tryz.func100, Tryz.ntmps100
    go_wp2_with (go_at_call 18; refine hst.out.mono ?_; rintro e w' ⟨rfl, m, rfl⟩)
    go_ret
    exact ⟨by rw [hE.out]; rfl, m, rfl⟩

theorem layout_w (ht : Blk w t (txO sb mx sp en)) (hs : Blk w sb (storeO d l mo G.s G.lg G.n G.life op)) : Calls Tryz.prog 90 #[.pointer (some ⟨t, 0, none⟩)] w fun e w' =>
    e = .returned (.agg (layoutL G.s G.lg G.n).toArray) ∧ Keeps (fun _ => False) w w' := by
  have c0 := ht.cell 0
  unfold layoutL
  have hs1 := hs
  unfold storeO at hs1
  generalize 3 + G.lg = v1 at hs1 ⊢
  generalize G.s - v1 = v2 at hs1 ⊢
  generalize 2 + G.n / 4 = v3 at hs1 ⊢
  have s2 := hs1.cell 2
  have s3 := hs1.cell 3
  have s4 := hs1.cell 4
  have s5 := hs1.cell 5
  have s6 := hs1.cell 6
  simp at c0 s2 s3 s4 s5 s6
  have htl := ht.lt
  have hsl := hs.lt
  replace hs1 := hid hs1
  replace ht := hid ht; replace hs := hid hs
  go_enter Tryz.func90, Tryz.ntmps90
  go_wp2
  exact bodyPost_ret (v := .agg #[.int .i64 G.lg, .int .i64 v1, .int .i64 v2, .int .i64 G.n, .int .i64 v3]) (by simp [results, Tryz.results90, go_sem]) rfl ⟨rfl, (Keeps.refl _ _).alloc _⟩
end
end Go.Vk

namespace Go.Vk
open Go.RowKit Go.Proofs

theorem und138 : Tryz.prog.underlying 104 = some (.map 3 57) := by kernel_rfl
theorem zero22 (w : World) : (zeroValue 57).run Tryz.prog w = .ok (.slice none 0 0) w := by kernel_rfl
theorem look_oents (es : List OEnt) (k : Nat) : look (es.map OEnt.ent) k = (es.find? (·.key == k)).map OEnt.val := by
  unfold look
  rw [List.find?_map]
  cases h : es.find? ((fun x : Ent => x.1 == k) ∘ OEnt.ent) with
  | none =>
    have : es.find? (·.key == k) = none := h
    rw [this]; rfl
  | some e =>
    have : es.find? (·.key == k) = some e := h
    rw [this]; rfl
theorem MapAt.look_none {w : World} {m : Nat} {es : List OEnt} {clock : Nat} (h : MapAt w m es clock) {k : Nat} (hf : es.find? (·.key == k) = none) :
    (Instr.lookup 104 (.map (some m)) (.int .i64 k) true).run Tryz.prog w = .ok (.tuple #[.slice none 0 0, .bool false]) w := by
  have := run_lookup_ok (k := k) und138 undInt h.hm (zero22 w)
  rw [look_oents, hf] at this
  exact this
theorem MapAt.look_some {w : World} {m : Nat} {es : List OEnt} {clock : Nat} (h : MapAt w m es clock) {k : Nat} {e : OEnt} (hf : es.find? (·.key == k) = some e) :
    (Instr.lookup 104 (.map (some m)) (.int .i64 k) true).run Tryz.prog w = .ok (.tuple #[e.val, .bool true]) w := by
  have := run_lookup_ok (k := k) und138 undInt h.hm (zero22 w)
  rw [look_oents, hf] at this
  exact this
theorem ovOf_none {es : List OEnt} {k : Nat} (hf : es.find? (·.key == k) = none) : ovOf es k = none := by unfold ovOf; rw [hf]; rfl
theorem ovOf_some {es : List OEnt} {k : Nat} {e : OEnt} (hf : es.find? (·.key == k) = some e) : ovOf es k = some e.data := by unfold ovOf; rw [hf]; rfl

theorem Keeps.cellF {G : Nat → Prop} {w w' : World} (k : Keeps G w w') {a : Addr} {v : Value} (h : w.cell? a = some v) (hG : ¬ G a.block) : w'.cell? a = some v := by
  have hb := World.block_lt_of_cell? w a h
  have := k.block a.block hb hG
  unfold World.cell? at *
  rw [this]; exact h

/-- What a look at a block tells: fresh bytes. -/
def GotPost (w : World) (d : Nat) (F : List Nat) (D' : DM) (bs : List UInt8) (e : Ending) (w' : World) : Prop :=
  ∃ g k, e = .returned (.tuple #[.slice (some ⟨g, 0, none⟩) 512 (512 + k), .int .i64 0]) ∧ w.heap.size ≤ g ∧ Blk w' g (bytesO (bs ++ zeros k)) ∧ DiskRep w' d D' F ∧ Keeps (· ∈ F) w w'
def cmtB (D : DM) (ov : Nat → Option (List UInt8)) (home b : Nat) : List UInt8 := (ov b).getD (D.now (home + b))
def cmtD (D : DM) (ov : Nat → Option (List UInt8)) (b : Nat) : DM := if (ov b).isSome then D else D.readed

section
variable {w : World} {t sb d l mo mx : Nat} {D : DM} {F : List Nat} {G : Geom} {op en : Bool} {sp : Nat} {ov own : List OEnt} {oc xc : Nat}

theorem clone_ent {e : OEnt} (h : e.ok w) : Calls Tryz.prog 101 #[e.val] w fun r w' => ∃ b k, w.heap.size ≤ b ∧ r = .returned (.slice (some ⟨b, 0, none⟩) 512 (512 + k)) ∧ Blk w' b (bytesO (e.data ++ zeros k)) ∧ Keeps (fun _ => False) w w' := by
  have := clone_w w 5 e.blk 0 512 e.cap (e.data ++ zeros (e.cap - 512)) h.blk (by rw [List.length_append, h.len]; omega) (by decide) (by decide)
  rw [List.drop_zero, List.take_left' h.len] at this
  exact this

theorem committed_w (hs : Blk w sb (storeO d l mo G.s G.lg G.n G.life op)) (h : DiskRep w d D F) (ho : MapAt w mo ov oc) (hb : D.burnt = false) (b : Nat) (_ : b < G.blocks) (hg : G.home + b < D.n) (hn : D.n ≤ 2048) (hsF : sb ∉ F) :
    Calls Tryz.prog 102 #[.pointer (some ⟨sb, 0, none⟩), .int .i64 b] w (GotPost w d F (cmtD D (ovOf ov) b) (cmtB D (ovOf ov) G.home b)) := by
  have c0 := hs.cell 0
  have c8 := hs.cell 8
  have hs3 := hs.cell 3
  simp at c0 c8
  replace hs3 : w.cell? ⟨sb, 3, none⟩ = some (.int .i64 (G.home : Nat)) := hs3
  unfold cmtB cmtD
  cases hf : ov.find? (·.key == b) with
  | some e =>
    have hlk := ho.look_some hf
    rw [ovOf_some hf]
    have he := List.mem_of_find?_eq_some hf
    have hcl := clone_ent (ho.ok e he)
    have hP : ∀ g k W, w.heap.size ≤ g → Blk W g (bytesO (e.data ++ zeros k)) → Keeps (fun _ => False) w W → GotPost w d F D e.data (.returned (.tuple #[.slice (some ⟨g, 0, none⟩) 512 (512 + k), .int .i64 0])) W :=
      fun g k W x1 x2 x3 => ⟨g, k, rfl, x1, x2, h.keeps x3 (fun _ _ f => f), x3.mono (fun _ _ f => f.elim)⟩
    show Calls _ _ _ _ (GotPost w d F D e.data)
    generalize GotPost w d F D e.data = Post at hP ⊢
    unfold OEnt.val at hlk hcl
    generalize e.cap = ec at hlk hcl
    generalize e.blk = eb at hlk hcl
    replace hs := hid hs; replace h := hid h; replace ho := hid ho; replace hP := hid hP; replace hcl := hid hcl; replace hf := hid hf; replace he := hid he
    go_enter Tryz.func102, Tryz.ntmps102
    go_wp2_with (go_at_call 101; refine hcl.out.mono ?_; rintro r w2 ⟨g, k, hg, rfl, hB, k2⟩; replace hg := hid hg; replace hB := hid hB; replace k2 := hid k2)
    exact hP.out g k w2 hg.out hB.out k2.out
  | none =>
    have hlk := ho.look_none hf
    rw [ovOf_none hf]
    have hP : ∀ g W, w.heap.size ≤ g → Blk W g (bytesO (D.now (G.home + b))) → DiskRep W d D.readed F → Keeps (· ∈ F) w W → GotPost w d F D.readed (D.now (G.home + b)) (.returned (.tuple #[.slice (some ⟨g, 0, none⟩) 512 512, .int .i64 0])) W :=
      fun g W x1 x2 x3 x4 => ⟨g, 0, rfl, x1, by simpa [zeros] using x2, x3, x4⟩
    show Calls _ _ _ _ (GotPost w d F D.readed (D.now (G.home + b)))
    generalize GotPost w d F D.readed (D.now (G.home + b)) = Post at hP ⊢
    have hR := read_ok h.drew hb ((G.home : Int) + (b : Int)) (by omega) (by omega)
    rw [show ((G.home : Int) + (b : Int)).toNat = G.home + b by omega] at hR
    have hp1 : IntKind.i64.wrap ((G.home : Int) + (b : Int)) = (G.home : Int) + (b : Int) := wrap_small (by omega) (by omega)
    have c0d : w.drew.cell? ⟨sb, 0, none⟩ = some (.pointer (some ⟨d, 0, none⟩)) := c0
    have hs3d : w.drew.cell? ⟨sb, 3, none⟩ = some (.int .i64 (G.home : Nat)) := hs3
    have hsd : Blk w.drew sb (storeO d l mo G.s G.lg G.n G.life op) := hs
    generalize G.home = hm at *
    replace hs := hid hs; replace h := hid h; replace ho := hid ho; replace hP := hid hP; replace hR := hid hR; replace hf := hid hf; replace hsd := hid hsd
    go_enter Tryz.func102, Tryz.ntmps102
    go_upto_region 4 with fail
    go_region_held3 (fun W => W.cell? ⟨sb, 0, none⟩ = some (.pointer (some ⟨d, 0, none⟩)) ∧ W.cell? ⟨sb, 3, none⟩ = some (.int .i64 hm)) (first | with_reducible exact ⟨c0d, hs3d⟩ | with_reducible exact ⟨q0, q3⟩) (first
      | (go_at_call 142; refine hR.out.mono ?_; rintro e w2 ⟨g, rfl, hg, hB, hD2, k2⟩; have hs2 := k2.blk hsd.out hsF; have q0 : w2.cell? ⟨sb, 0, none⟩ = some (.pointer (some ⟨d, 0, none⟩)) := k2.cellF c0d hsF; have q3 : w2.cell? ⟨sb, 3, none⟩ = some (.int .i64 hm) := k2.cellF hs3d hsF; replace hg := hid hg; replace hB := hid hB; replace hD2 := hid hD2; replace k2 := hid k2; replace hs2 := hid hs2))
    all_goals
      have hX := hP.out g w2 hg.out hB.out hD2.out (((Keeps.refl (· ∈ F) w).drew).step k2.out)
      replace hX := hid hX
      go_wp2
      exact hX.out
def getB (D : DM) (ov own : Nat → Option (List UInt8)) (home b : Nat) : List UInt8 := (own b).getD (cmtB D ov home b)
def getD' (D : DM) (ov own : Nat → Option (List UInt8)) (b : Nat) : DM := if (own b).isSome then D else cmtD D ov b
theorem DiskRep.drewN_same (h : DiskRep w d D F) (m : Nat) : DiskRep (w.drewN m) d D F := h.drewN m
theorem MapAt.drewN {w : World} {m : Nat} {es : List OEnt} {clock : Nat} (h : MapAt w m es clock) (n : Nat) : MapAt (w.drewN n) m es clock := h.keep (fun _ _ => rfl)

theorem get_bad (ht : Blk w t (txO sb mx sp en)) (hs : Blk w sb (storeO d l mo G.s G.lg G.n G.life op)) (h : DiskRep w d D F) (b : Int) (hbad : txAt D G sp en b ≠ 0) :
    Calls Tryz.prog 58 #[.pointer (some ⟨t, 0, none⟩), .int .i64 b] w fun e w' => e = .returned (.tuple #[.slice none 0 0, .int .i64 (txAt D G sp en b : Nat)]) ∧ ∃ m, w' = w.drewN m := by
  have hA := tat_w ht hs h b
  generalize txAt D G sp en b = c at hA hbad ⊢
  have hci : ((c : Int) != 0) = true := by simp; exact hbad
  replace ht := hid ht; replace hs := hid hs; replace h := hid h; replace hA := hid hA; replace hbad := hid hbad
  go_enter Tryz.func58, Tryz.ntmps58
  go_wp2_with (go_at_call 100; refine hA.out.mono ?_; rintro e w' ⟨rfl, m, rfl⟩)
  go_ret2
  exact ⟨rfl, m, rfl⟩

theorem txAt_ok (h0 : txState D G.life sp en = 0) (b : Nat) (hb1 : b < G.blocks) : txAt D G sp en (b : Int) = 0 := by
  unfold txAt
  rw [h0, if_neg (by decide), if_neg (by omega)]
theorem txState_burnt (h0 : txState D G.life sp en = 0) : D.burnt = false := by
  unfold txState goneB at h0
  cases hb : D.burnt with
  | false => rfl
  | true => rw [hb, Bool.true_or, if_pos rfl] at h0; cases h0

theorem get_ok (ht : Blk w t (txO sb mx sp en)) (hs : Blk w sb (storeO d l mo G.s G.lg G.n G.life op)) (h : DiskRep w d D F) (ho : MapAt w mo ov oc) (hx : MapAt w mx own xc) (h0 : txState D G.life sp en = 0)
    (b : Nat) (hb1 : b < G.blocks) (hg : G.home + b < D.n) (hn : D.n ≤ 2048) (hsF : sb ∉ F) :
    Calls Tryz.prog 58 #[.pointer (some ⟨t, 0, none⟩), .int .i64 b] w (GotPost w d F (getD' D (ovOf ov) (ovOf own) b) (getB D (ovOf ov) (ovOf own) G.home b)) := by
  have hA := tat_w ht hs h b
  rw [txAt_ok h0 b hb1] at hA
  have c0 := ht.cell 0
  have c1 := ht.cell 1
  simp at c0 c1
  unfold getB getD'
  cases hf : own.find? (·.key == b) with
  | some e =>
    have hlk := fun m => (hx.drewN m).look_some hf
    rw [ovOf_some hf]
    have he := List.mem_of_find?_eq_some hf
    have hcl := fun m => clone_ent (w := w.drewN m) ⟨(hx.ok e he).len, (hx.ok e he).blk.drewN m, (hx.ok e he).cap⟩
    have hP : ∀ m g k W, w.heap.size ≤ g → Blk W g (bytesO (e.data ++ zeros k)) → Keeps (fun _ => False) (w.drewN m) W → GotPost w d F D e.data (.returned (.tuple #[.slice (some ⟨g, 0, none⟩) 512 (512 + k), .int .i64 0])) W :=
      fun m g k W x1 x2 x3 => ⟨g, k, rfl, x1, x2, (h.drewN m).keeps x3 (fun _ _ f => f), ((Keeps.refl (fun _ => False) w).drewN m).step x3 |>.mono (fun _ _ f => f.elim)⟩
    show Calls _ _ _ _ (GotPost w d F D e.data)
    generalize GotPost w d F D e.data = Post at hP ⊢
    unfold OEnt.val at hlk hcl
    generalize e.cap = ec at hlk hcl
    generalize e.blk = eb at hlk hcl
    replace ht := hid ht; replace hs := hid hs; replace h := hid h; replace ho := hid ho; replace hx := hid hx; replace hA := hid hA; replace hP := hid hP; replace hcl := hid hcl; replace hf := hid hf; replace he := hid he; replace h0 := hid h0
    go_enter Tryz.func58, Tryz.ntmps58
    go_wp2_with (first
      | (go_at_call 100; refine hA.out.mono ?_; rintro r w' ⟨rfl, m, rfl⟩)
      | (go_at_call 101; refine (hcl.out _).mono ?_; rintro r w2 ⟨g, k, hg, rfl, hB, k2⟩; replace hg := hid hg; replace hB := hid hB; replace k2 := hid k2))
    exact hP.out _ g k w2 hg.out hB.out k2.out
  | none =>
    have hlk := fun m => (hx.drewN m).look_none hf
    rw [ovOf_none hf]
    have hcm := fun m => committed_w (w := w.drewN m) (hs.drewN m) (h.drewN m) (ho.drewN m) (txState_burnt h0) b hb1 hg hn hsF
    have hP : ∀ m e W, GotPost (w.drewN m) d F (cmtD D (ovOf ov) b) (cmtB D (ovOf ov) G.home b) e W → GotPost w d F (cmtD D (ovOf ov) b) (cmtB D (ovOf ov) G.home b) e W := by
      rintro m e W ⟨g, k, x1, x2, x3, x4, x5⟩
      exact ⟨g, k, x1, x2, x3, x4, ((Keeps.refl (· ∈ F) w).drewN m).step x5⟩
    have hS : ∀ W e m, GotPost (w.drewN m) d F (cmtD D (ovOf ov) b) (cmtB D (ovOf ov) G.home b) e W → ∃ g k, e = .returned (.tuple #[.slice (some ⟨g, 0, none⟩) 512 (512 + k), .int .i64 0]) := fun W e m x => by
      obtain ⟨g, k, x1, _⟩ := x
      exact ⟨g, k, x1⟩
    show Calls _ _ _ _ (GotPost w d F (cmtD D (ovOf ov) b) (cmtB D (ovOf ov) G.home b))
    generalize GotPost w d F (cmtD D (ovOf ov) b) (cmtB D (ovOf ov) G.home b) = Post at hP ⊢
    replace ht := hid ht; replace hs := hid hs; replace h := hid h; replace ho := hid ho; replace hx := hid hx; replace hA := hid hA; replace hP := hid hP; replace hcm := hid hcm; replace hf := hid hf; replace h0 := hid h0; replace hS := hid hS
    go_enter Tryz.func58, Tryz.ntmps58
    go_wp2_with (first
      | (go_at_call 100; refine hA.out.mono ?_; rintro r w' ⟨rfl, m, rfl⟩)
      | (go_at_call 102; refine (hcm.out _).mono ?_; intro r w2 hr; obtain ⟨g, k, rfl⟩ := hS.out _ _ _ hr; replace hr := hid (hP.out _ _ _ hr)))
    exact hr.out
end
end Go.Vk

namespace Go.Vk
open Go.RowKit Go.Proofs

/-- What stays the same while a transaction runs: where all lies, and what is committed. -/
structure TxC where
  t : Nat
  sb : Nat
  d : Nat
  l : Nat
  mo : Nat
  mx : Nat
  F : List Nat
  G : Geom
  op : Bool
  ov : List OEnt
  oc : Nat

structure TxAt (w : World) (C : TxC) (D : DM) (own : List OEnt) (xc sp : Nat) (en : Bool) (X : Nat → Prop) : Prop where
  ht : Blk w C.t (txO C.sb C.mx sp en)
  hs : Blk w C.sb (storeO C.d C.l C.mo C.G.s C.G.lg C.G.n C.G.life C.op)
  hd : DiskRep w C.d D C.F
  ho : MapAt w C.mo C.ov C.oc
  hx : MapAt w C.mx own xc
  tF : C.t ∉ C.F
  sF : C.sb ∉ C.F
  oF : ∀ k ∈ mapFoot C.mo C.ov, k ∉ C.F
  xF : ∀ k ∈ mapFoot C.mx own, k ∉ C.F
  ts : C.t ≠ C.sb
  tO : C.t ∉ mapFoot C.mo C.ov
  tX : C.t ∉ mapFoot C.mx own
  sO : C.sb ∉ mapFoot C.mo C.ov
  sX : C.sb ∉ mapFoot C.mx own
  xO : ∀ k ∈ mapFoot C.mx own, k ∉ mapFoot C.mo C.ov
  mb : ∀ e ∈ own, e.blk ≠ C.mx
  kb : ∀ e ∈ own, e.key < C.G.blocks
  gn : C.G.home + C.G.blocks ≤ D.n
  n2 : D.n ≤ 2048
  xX : ∀ k, X k → k ≠ C.t ∧ k ≠ C.sb ∧ k ∉ C.F ∧ k ∉ mapFoot C.mo C.ov ∧ k ∉ mapFoot C.mx own

section
variable {w w' : World} {C : TxC} {D D' : DM} {own : List OEnt} {xc sp : Nat} {en : Bool} {X : Nat → Prop}

/-- What changes only the disk's own blocks and the client's. -/
theorem TxAt.keep (h : TxAt w C D own xc sp en X) {Gf : Nat → Prop} (k : Keeps Gf w w') (hG : ∀ i, Gf i → i ∈ C.F ∨ X i) (hD : DiskRep w' C.d D' C.F) (hn : D'.n = D.n) : TxAt w' C D' own xc sp en X where
  ht := k.blk h.ht fun g => (hG _ g).elim h.tF fun x => (h.xX _ x).1 rfl
  hs := k.blk h.hs fun g => (hG _ g).elim h.sF fun x => (h.xX _ x).2.1 rfl
  hd := hD
  ho := h.ho.keeps k fun i hi g => (hG _ g).elim (h.oF i hi) fun x => (h.xX _ x).2.2.2.1 hi
  hx := h.hx.keeps k fun i hi g => (hG _ g).elim (h.xF i hi) fun x => (h.xX _ x).2.2.2.2 hi
  tF := h.tF
  sF := h.sF
  oF := h.oF
  xF := h.xF
  ts := h.ts
  tO := h.tO
  tX := h.tX
  sO := h.sO
  sX := h.sX
  xO := h.xO
  mb := h.mb
  kb := h.kb
  gn := by rw [hn]; exact h.gn
  n2 := by rw [hn]; exact h.n2
  xX := h.xX
theorem TxAt.quiet (h : TxAt w C D own xc sp en X) {Gf : Nat → Prop} (k : Keeps Gf w w') (hG : ∀ i, Gf i → X i) (hF : ∀ i, X i → i ∉ C.F) : TxAt w' C D own xc sp en X :=
  h.keep k (fun i g => .inr (hG i g)) (h.hd.keeps k fun i hi g => hF i (hG i g) hi) rfl
/-- What the client may write is his to choose among what the transaction does not use. -/
theorem TxAt.client (h : TxAt w C D own xc sp en X) {Y : Nat → Prop} (hY : ∀ i, Y i → X i ∨ w.heap.size ≤ i) : TxAt w C D own xc sp en Y :=
  { h with
    xX := fun k hk => by
      rcases hY k hk with x | x
      · exact h.xX k x
      · exact ⟨fun e => by have := h.ht.lt; omega, fun e => by have := h.hs.lt; omega, fun e => by have := h.hd.lt k e; omega, fun e => by have := h.ho.lt k e; omega, fun e => by have := h.hx.lt k e; omega⟩ }

def putE (own : List OEnt) (xc b g cap : Nat) (data : List UInt8) : List OEnt :=
  match own.find? (·.key == b) with
  | some _ => own.map fun e => if e.key == b then { e with blk := g, cap := cap, data := data } else e
  | none => own ++ [⟨b, xc, g, cap, data⟩]
def putC (own : List OEnt) (xc b : Nat) : Nat := match own.find? (·.key == b) with | some _ => xc | none => xc + 1
def putLen (own : List OEnt) (b : Nat) : Nat := if (ovOf own b).isSome then own.length else own.length + 1

theorem run_put {W : World} (h : Blk W C.mx (mapO (own.map OEnt.ent) xc)) (hk : (own.map (·.key)).Nodup) (b g cap : Nat) (data : List UInt8) :
    (Instr.mapUpdate 104 (.map (some C.mx)) (.int .i64 b) (.slice (some ⟨g, 0, none⟩) 512 cap)).run Tryz.prog W =
      .ok () (W.setBlk C.mx (mapO ((putE own xc b g cap data).map OEnt.ent) (putC own xc b))) := by
  have hk' : ((own.map OEnt.ent).map (·.1)).Nodup := by simpa [Function.comp_def, OEnt.ent] using hk
  cases hf : own.find? (·.key == b) with
  | none =>
    have hl : look (own.map OEnt.ent) b = none := by rw [look_oents, hf]; rfl
    rw [run_update_new und138 undInt h hl]
    simp [putE, putC, hf, OEnt.ent, OEnt.val]
  | some p =>
    have hl : look (own.map OEnt.ent) b = some p.val := by rw [look_oents, hf]; rfl
    rw [run_update_old und138 undInt h hk' hl]
    have e : setAt (own.map OEnt.ent) b (.slice (some ⟨g, 0, none⟩) 512 cap) = (putE own xc b g cap data).map OEnt.ent := by
      simp only [setAt, putE, hf, List.map_map]
      refine List.map_congr_left fun q hq => ?_
      by_cases hqk : q.key = b
      · simp [OEnt.ent, hqk, OEnt.val]
      · simp [OEnt.ent, hqk]
    rw [e]
    simp [putC, hf]

theorem find_map_key (f : OEnt → OEnt) (hf : ∀ e, (f e).key = e.key) (l : List OEnt) (k : Nat) : (l.map f).find? (·.key == k) = (l.find? (·.key == k)).map f := by
  rw [List.find?_map]
  have : ((fun x : OEnt => x.key == k) ∘ f) = fun x => x.key == k := by funext x; simp [hf]
  rw [this]
theorem ovOf_put (own : List OEnt) (xc b g cap : Nat) (data : List UInt8) (k : Nat) : ovOf (putE own xc b g cap data) k = if k = b then some data else ovOf own k := by
  unfold ovOf putE
  cases hf : own.find? (·.key == b) with
  | some p =>
    dsimp only
    rw [find_map_key _ (fun e => by split <;> rfl)]
    have hpk : p.key = b := by simpa using List.find?_some hf
    by_cases hk : k = b
    · subst hk
      rw [hf, if_pos rfl]
      simp [hpk]
    · rw [if_neg hk]
      cases hq : own.find? (·.key == k) with
      | none => rfl
      | some q =>
        have hqk : q.key = k := by simpa using List.find?_some hq
        have : ¬ q.key = b := by omega
        simp [this]
  | none =>
    dsimp only
    rw [List.find?_append]
    by_cases hk : k = b
    · subst hk
      rw [hf, if_pos rfl]
      simp
    · rw [if_neg hk]
      have : ¬ b = k := fun e => hk e.symm
      cases own.find? (·.key == k) <;> simp [this]
theorem putE_length (own : List OEnt) (xc b g cap : Nat) (data : List UInt8) : (putE own xc b g cap data).length = putLen own b := by
  unfold putE putLen ovOf
  cases own.find? (·.key == b) <;> simp
theorem putE_mem {own : List OEnt} {xc b g cap : Nat} {data : List UInt8} {e : OEnt} (h : e ∈ putE own xc b g cap data) :
    e ∈ own ∨ (e.key = b ∧ e.blk = g ∧ e.cap = cap ∧ e.data = data ∧ (e.born = xc ∧ own.find? (·.key == b) = none ∨ ∃ q ∈ own, q.born = e.born)) := by
  unfold putE at h
  cases hf : own.find? (·.key == b) with
  | some p =>
    rw [hf] at h
    dsimp only at h
    obtain ⟨q, hq, rfl⟩ := List.mem_map.1 h
    by_cases hqk : q.key = b
    · simp [hqk]; exact .inr ⟨q, hq, rfl⟩
    · simp [hqk, hq]
  | none =>
    rw [hf] at h
    dsimp only at h
    rcases List.mem_append.1 h with h | h
    · exact .inl h
    · simp at h; subst h; exact .inr ⟨rfl, rfl, rfl, rfl, .inl ⟨rfl, rfl⟩⟩

theorem MapAt.put {W : World} {m : Nat} (h : MapAt W m own xc) {b g cap : Nat} {data : List UInt8} (hl : data.length = 512) (hc : 512 ≤ cap) (hg : Blk W g (bytesO (data ++ zeros (cap - 512)))) (hgm : g ≠ m) (hmb : ∀ e ∈ own, e.blk ≠ m) :
    MapAt (W.setBlk m (mapO ((putE own xc b g cap data).map OEnt.ent) (putC own xc b))) m (putE own xc b g cap data) (putC own xc b) where
  hm := h.hm.setBlk _
  ok := fun e he => by
    rcases putE_mem he with h1 | ⟨_, h2, h3, h4, _⟩
    · exact ⟨(h.ok e h1).len, (h.ok e h1).blk.setBlk_ne (hmb e h1) _, (h.ok e h1).cap⟩
    · exact ⟨by rw [h4]; exact hl, by rw [h2, h3, h4]; exact hg.setBlk_ne hgm _, by rw [h3]; exact hc⟩
  keys := by
    unfold putE
    cases hf : own.find? (·.key == b) with
    | some p =>
      dsimp only
      rw [List.map_map, show ((fun e : OEnt => e.key) ∘ fun e : OEnt => if e.key == b then { e with blk := g, cap := cap, data := data } else e) = (·.key) from by funext e; simp only [Function.comp]; split <;> rfl]
      exact h.keys
    | none =>
      dsimp only
      rw [List.map_append, List.nodup_append]
      refine ⟨h.keys, by simp, fun a ha c hc e => ?_⟩
      obtain ⟨q, hq, rfl⟩ := List.mem_map.1 ha
      simp at hc
      have := List.find?_eq_none.1 hf q hq
      simp at this
      omega
  borns := by
    unfold putE
    cases hf : own.find? (·.key == b) with
    | some p =>
      dsimp only
      rw [List.map_map, show ((fun e : OEnt => e.born) ∘ fun e : OEnt => if e.key == b then { e with blk := g, cap := cap, data := data } else e) = (·.born) from by funext e; simp only [Function.comp]; split <;> rfl]
      exact h.borns
    | none =>
      dsimp only
      rw [List.map_append, List.nodup_append]
      refine ⟨h.borns, by simp, fun a ha c hc e => ?_⟩
      obtain ⟨q, hq, rfl⟩ := List.mem_map.1 ha
      simp at hc
      have := h.clk q hq
      omega
  clk := fun e he => by
    have hcc : xc ≤ putC own xc b := by unfold putC; split <;> omega
    rcases putE_mem he with h1 | ⟨_, _, _, _, h5⟩
    · have := h.clk e h1; omega
    · rcases h5 with ⟨h5, h6⟩ | ⟨q, hq, h5⟩
      · unfold putC; rw [h6]; dsimp only; omega
      · have := h.clk q hq; omega

theorem putE_foot {m : Nat} {own : List OEnt} {xc b g cap : Nat} {data : List UInt8} {k : Nat} (h : k ∈ mapFoot m (putE own xc b g cap data)) : k ∈ mapFoot m own ∨ k = g := by
  simp only [mapFoot, List.mem_cons, List.mem_map] at h ⊢
  rcases h with rfl | ⟨e, he, rfl⟩
  · exact .inl (.inl rfl)
  · rcases putE_mem he with h1 | ⟨_, h2, _⟩
    · exact .inl (.inr ⟨e, h1, rfl⟩)
    · exact .inr h2
/-- An own block is put: the bytes lie in a fresh block. -/
theorem TxAt.put (h : TxAt w C D own xc sp en X) {b g cap : Nat} {data : List UInt8} (hb : b < C.G.blocks) (hl : data.length = 512) (hc : 512 ≤ cap) (hg : Blk w g (bytesO (data ++ zeros (cap - 512))))
    (g1 : g ≠ C.t) (g2 : g ≠ C.sb) (g3 : g ∉ C.F) (g4 : g ∉ mapFoot C.mo C.ov) (g5 : g ∉ mapFoot C.mx own) (g6 : ¬ X g) :
    TxAt (w.setBlk C.mx (mapO ((putE own xc b g cap data).map OEnt.ent) (putC own xc b))) C D (putE own xc b g cap data) (putC own xc b) sp en X where
  ht := h.ht.setBlk_ne (fun e => h.tX (by simp [mapFoot, e])) _
  hs := h.hs.setBlk_ne (fun e => h.sX (by simp [mapFoot, e])) _
  hd := h.hd.keeps (keeps_setBlk _ _ _) fun i hi e => h.xF C.mx (by simp [mapFoot]) (e ▸ hi)
  ho := h.ho.keeps (keeps_setBlk _ _ _) fun i hi e => h.xO C.mx (by simp [mapFoot]) (e ▸ hi)
  hx := h.hx.put hl hc hg (fun e => g5 (by simp [mapFoot, e])) h.mb
  tF := h.tF
  sF := h.sF
  oF := h.oF
  xF := fun k hk => (putE_foot hk).elim (h.xF k) fun e => e ▸ g3
  ts := h.ts
  tO := h.tO
  tX := fun hk => (putE_foot hk).elim h.tX fun e => g1 e.symm
  sO := h.sO
  sX := fun hk => (putE_foot hk).elim h.sX fun e => g2 e.symm
  xO := fun k hk => (putE_foot hk).elim (h.xO k) fun e => e ▸ g4
  mb := fun e he => by
    rcases putE_mem he with h1 | ⟨_, h2, _⟩
    · exact h.mb e h1
    · rw [h2]; exact fun e => g5 (by simp [mapFoot, e])
  kb := fun e he => by
    rcases putE_mem he with h1 | ⟨h2, _⟩
    · exact h.kb e h1
    · rw [h2]; exact hb
  gn := h.gn
  n2 := h.n2
  xX := fun k hk => by
    obtain ⟨a1, a2, a3, a4, a5⟩ := h.xX k hk
    exact ⟨a1, a2, a3, a4, fun hk' => (putE_foot hk').elim a5 fun e => g6 (e ▸ hk)⟩
theorem TxAt.spoil (h : TxAt w C D own xc sp false X) (c : Nat) : TxAt (w.setCell ⟨C.t, 2, none⟩ (.int .i64 c)) C D own xc c false X :=
  have k : Keeps (· = C.t) w (w.setCell ⟨C.t, 2, none⟩ (.int .i64 c)) := (Keeps.refl (· = C.t) w).setCell (p := ⟨C.t, 2, none⟩) (.inl rfl) _
  { h with
    ht := by
      have := h.ht.setCell 2 (.int .i64 c)
      simpa [txO] using this
    hs := k.blk h.hs fun e => h.ts e.symm
    hd := h.hd.keeps k fun i hi e => h.tF (e ▸ hi)
    ho := h.ho.keeps k fun i hi e => h.tO (e ▸ hi)
    hx := h.hx.keeps k fun i hi e => h.tX (e ▸ hi) }
end
end Go.Vk

namespace Go.Vk
open Go.RowKit Go.Proofs

section
variable {w : World} {sb d l mo : Nat} {D : DM} {F : List Nat} {G : Geom}

theorem begin_ok (hs : Blk w sb (storeO d l mo G.s G.lg G.n G.life false)) (h : DiskRep w d D F) (hg : goneB D G.life = false) : Calls Tryz.prog 29 #[.pointer (some ⟨sb, 0, none⟩)] w fun e w' =>
    ∃ t mx, e = .returned (.tuple #[.pointer (some ⟨t, 0, none⟩), .int .i64 0]) ∧ w.heap.size ≤ t ∧ w.heap.size ≤ mx ∧ t ≠ mx ∧ Blk w' t (txO sb mx 0 false) ∧ MapAt w' mx [] 0 ∧ Blk w' sb (storeO d l mo G.s G.lg G.n G.life true) ∧ Keeps (· = sb) w w' := by
  have c9 := hs.cell 9
  simp at c9
  have hgo := gone_w hs h
  rw [hg] at hgo
  have hfr := fun n => (hs.drewN n).frz 9
  have hlt := hs.lt
  have hmm : ∀ w, (Instr.makeMap 104 none).run Tryz.prog w = .ok (.map (some w.heap.size)) (w.alloc (mapO [] 0)) := fun w => run_makeMap _ w
  have hB : ∀ n, Blk ((w.drewN n).setCell ⟨sb, 9, none⟩ (.bool true)) sb (storeO d l mo G.s G.lg G.n G.life true) := fun n => by
    have := (hs.drewN n).setCell 9 (.bool true)
    simpa [storeO] using this
  have hK : ∀ n, Keeps (· = sb) w ((w.drewN n).setCell ⟨sb, 9, none⟩ (.bool true)) := fun n => ((Keeps.refl (· = sb) w).drewN n).setCell (p := ⟨sb, 9, none⟩) (.inl rfl) _
  replace h := hid h; replace hs := hid hs; replace hB := hid hB; replace hK := hid hK; replace hgo := hid hgo; replace hlt := hid hlt
  go_enter Tryz.func29, Tryz.ntmps29
  go_wp2_with (go_at_call 50; refine hgo.out.mono ?_; rintro e w' ⟨rfl, m, rfl⟩; have hfm := hfr m)
  go_ret2
  exact ⟨w.heap.size + 1, w.heap.size, rfl, Nat.le_succ _, Nat.le_refl _, by omega, by
    have := Blk.new (((w.drewN m).setCell ⟨sb, 9, none⟩ (.bool true)).alloc (mapO [] 0)) (txO sb w.heap.size 0 false)
    rw [World.size_alloc, World.size_setCell] at this
    exact this, ((by
    have := MapAt.new ((w.drewN m).setCell ⟨sb, 9, none⟩ (.bool true))
    rw [World.size_setCell] at this
    exact this : MapAt (((w.drewN m).setCell ⟨sb, 9, none⟩ (.bool true)).alloc (mapO [] 0)) w.heap.size [] 0)).keeps ((Keeps.refl (fun _ => False) _).alloc _) (fun _ _ f => f), ((hB.out m).alloc _).alloc _, ((hK.out m).alloc _).alloc _⟩
end

section
variable {w : World} {C : TxC} {D : DM} {own : List OEnt} {xc sp : Nat} {X : Nat → Prop}
theorem spoil_ok (h : TxAt w C D own xc sp false X) (h0 : txState D C.G.life sp false = 0) : Calls Tryz.prog 119 #[.pointer (some ⟨C.t, 0, none⟩), .int .i64 50] w fun e w' =>
    ∃ m, e = .returned (.int .i64 50) ∧ w' = (w.drewN m).setCell ⟨C.t, 2, none⟩ (.int .i64 (50 : Nat)) := by
  have hst := state_w h.ht h.hs h.hd
  rw [h0] at hst
  have hfr := fun n => (h.ht.drewN n).frz 2
  have c2 := h.ht.cell 2
  simp at c2
  replace h := hid h; replace h0 := hid h0; replace hst := hid hst
  go_enter Tryz.func119, Tryz.ntmps119
  go_wp2_with (go_at_call 18; refine hst.out.mono ?_; rintro e w' ⟨rfl, m, rfl⟩; have hfm := hfr m)
  go_ret
  exact ⟨m, rfl, rfl⟩
end
end Go.Vk

namespace Go.Vk
open Go.RowKit Go.Proofs

/-- What a transaction tells. -/
structure TxM where
  D : DM
  own : Nat → Option (List UInt8)
  cnt : Nat
  sp : Nat
def TxM.get (C : TxC) (M : TxM) (b : Nat) : List UInt8 := getB M.D (ovOf C.ov) M.own C.G.home b
def TxM.read (C : TxC) (M : TxM) (b : Nat) : TxM := { M with D := getD' M.D (ovOf C.ov) M.own b }
def TxM.putC (M : TxM) (b : Nat) (data : List UInt8) : TxM := { M with own := fun k => if k = b then some data else M.own k, cnt := if (M.own b).isSome then M.cnt else M.cnt + 1 }
def TxM.put (C : TxC) (M : TxM) (b : Nat) (data : List UInt8) : Nat × TxM :=
  if M.get C b = data then (0, M.read C b)
  else if M.own b = none ∧ 16 ≤ M.cnt then (50, { M.read C b with sp := 50 })
  else (0, (M.read C b).putC b data)
def TxRep (w : World) (C : TxC) (M : TxM) (en : Bool) (X : Nat → Prop) : Prop :=
  ∃ own xc, TxAt w C M.D own xc M.sp en X ∧ (∀ k, ovOf own k = M.own k) ∧ own.length = M.cnt

theorem getD'_n (D : DM) (ov own : Nat → Option (List UInt8)) (b : Nat) : (getD' D ov own b).n = D.n := by
  unfold getD' cmtD; split
  · rfl
  · split <;> rfl
theorem getD'_life (D : DM) (ov own : Nat → Option (List UInt8)) (b : Nat) : (getD' D ov own b).life = D.life := by
  unfold getD' cmtD; split
  · rfl
  · split <;> rfl
theorem getD'_burnt (D : DM) (ov own : Nat → Option (List UInt8)) (b : Nat) : (getD' D ov own b).burnt = D.burnt := by
  unfold getD' cmtD; split
  · rfl
  · split <;> rfl

section
variable {w w' : World} {C : TxC} {M : TxM} {X : Nat → Prop} {en : Bool}
theorem TxRep.client (h : TxRep w C M en X) {Y : Nat → Prop} (hY : ∀ i, Y i → X i ∨ w.heap.size ≤ i) : TxRep w C M en Y := by
  obtain ⟨own, xc, h1, h2, h3⟩ := h
  exact ⟨own, xc, h1.client hY, h2, h3⟩
theorem TxRep.quiet (h : TxRep w C M en X) {Gf : Nat → Prop} (k : Keeps Gf w w') (hG : ∀ i, Gf i → X i) : TxRep w' C M en X := by
  obtain ⟨own, xc, h1, h2, h3⟩ := h
  exact ⟨own, xc, h1.quiet k hG (fun i hi => (h1.xX i hi).2.2.1), h2, h3⟩
theorem TxRep.drewN (h : TxRep w C M en X) (n : Nat) : TxRep (w.drewN n) C M en X := h.quiet (((Keeps.refl (fun _ => False) w)).drewN n) (fun _ f => f.elim)

/-- What a look at a block leaves. -/
def GetM (w : World) (C : TxC) (M : TxM) (b : Nat) (en : Bool) (X : Nat → Prop) (e : Ending) (w' : World) : Prop :=
  ∃ g k, e = .returned (.tuple #[.slice (some ⟨g, 0, none⟩) 512 (512 + k), .int .i64 0]) ∧ w.heap.size ≤ g ∧ Blk w' g (bytesO (M.get C b ++ zeros k)) ∧ TxRep w' C (M.read C b) en (fun i => X i ∨ w.heap.size ≤ i) ∧ Keeps (· ∈ C.F) w w'
theorem get_m (h : TxRep w C M en X) (h0 : txState M.D C.G.life M.sp en = 0) (b : Nat) (hb : b < C.G.blocks) : Calls Tryz.prog 58 #[.pointer (some ⟨C.t, 0, none⟩), .int .i64 b] w (GetM w C M b en X) := by
  obtain ⟨own, xc, h1, h2, h3⟩ := h
  have hov : ovOf own = M.own := funext h2
  have := get_ok h1.ht h1.hs h1.hd h1.ho h1.hx h0 b hb (by have := h1.gn; omega) h1.n2 h1.sF
  rw [hov] at this
  refine this.mono ?_
  rintro e w2 ⟨g, k, x1, x2, x3, x4, x5⟩
  refine ⟨g, k, x1, x2, x3, ⟨own, xc, ?_, h2, h3⟩, x5⟩
  have h1' := h1.client (Y := fun i => X i ∨ w.heap.size ≤ i) (fun i hi => hi)
  exact h1'.keep x5 (fun i g => .inl g) x4 (getD'_n _ _ _ _)

/-- What a put leaves. -/
def PutM (w : World) (C : TxC) (r : Nat × TxM) (X : Nat → Prop) (e : Ending) (w' : World) : Prop :=
  e = .returned (.int .i64 r.1) ∧ TxRep w' C r.2 false X ∧ Keeps (fun i => i ∈ C.F ∨ i = C.t ∨ i = C.mx) w w'
set_option maxRecDepth 100000 in
theorem put_m (h : TxRep w C M false X) (h0 : txState M.D C.G.life M.sp false = 0) (hX : ∀ i, X i → i < w.heap.size) (b : Nat) (hb : b < C.G.blocks) (g0 o0 c0 : Nat) (bs data : List UInt8) (hg0 : Blk w g0 (bytesO bs)) (hgX : X g0)
    (hl : o0 + 512 ≤ bs.length) (hdata : (bs.drop o0).take 512 = data) :
    Calls Tryz.prog 66 #[.pointer (some ⟨C.t, 0, none⟩), .int .i64 b, .slice (some ⟨g0, o0, none⟩) 512 c0] w (PutM w C (M.put C b data) X) := by
  have hdl : data.length = 512 := by rw [← hdata, List.length_take, List.length_drop]; omega
  have hA : Calls Tryz.prog 100 #[.pointer (some ⟨C.t, 0, none⟩), .int .i64 b] w fun e w' => e = .returned (.int .i64 0) ∧ ∃ m, w' = w.drewN m := by
    obtain ⟨own, xc, h1, h2, h3⟩ := h
    have := tat_w h1.ht h1.hs h1.hd b
    rw [txAt_ok h0 b hb] at this
    exact this
  have hG := fun n => get_m (h.drewN n) h0 b hb
  have hgF : g0 ∉ C.F := by
    obtain ⟨own, xc, h1, _⟩ := h
    exact (h1.xX _ hgX).2.2.1
  have hsz : ∀ n, (w.drewN n).heap.size = w.heap.size := fun _ => rfl
  have hEq : ∀ n e w2, GetM (w.drewN n) C M b false X e w2 → ∃ g k, e = .returned (.tuple #[.slice (some ⟨g, 0, none⟩) 512 (512 + k), .int .i64 0]) ∧ w2.heap.size = w2.heap.size ∧
      (Calls Tryz.prog 118 #[.slice (some ⟨g, 0, none⟩) 512 (512 + k), .slice (some ⟨g0, o0, none⟩) 512 c0] w2 fun e w' => e = .returned (.bool (decide (M.get C b = data))) ∧ w2 = w') ∧
      Blk w2 g0 (bytesO bs) ∧ TxRep w2 C (M.read C b) false X ∧ Keeps (· ∈ C.F) w w2 := by
    rintro n e w2 ⟨g, k, x1, x2, x3, x4, x5⟩
    have hB : Blk w2 g0 (bytesO bs) := x5.blk (hg0.drewN n) hgF
    have hml : (M.get C b).length = 512 := by
      obtain ⟨own, xc, h1, h2, h3⟩ := h
      have hov : ovOf own = M.own := funext h2
      unfold TxM.get getB cmtB
      rw [← hov]
      unfold ovOf
      cases hf : own.find? (·.key == b) with
      | some e => exact (h1.hx.ok e (List.mem_of_find?_eq_some hf)).len
      | none =>
        cases hf' : C.ov.find? (·.key == b) with
        | some e => exact (h1.ho.ok e (List.mem_of_find?_eq_some hf')).len
        | none => exact h1.hd.now_length _ (by have := h1.gn; omega)
    refine ⟨g, k, x1, rfl, ?_, hB, x4.client (fun i hi => .inl (.inl hi)), ((Keeps.refl (· ∈ C.F) w).drewN n).step x5⟩
    refine (equal_w w2 g 0 512 (512 + k) g0 o0 512 c0 _ _ x3 hB (by rw [List.length_append]; omega) hl).mono ?_
    rintro e w' ⟨rfl, rfl⟩
    rw [List.drop_zero, List.take_left' hml, hdata]
    exact ⟨rfl, rfl⟩
  unfold TxM.put
  by_cases hq : M.get C b = data
  · rw [if_pos hq]
    have hP : ∀ W, TxRep W C (M.read C b) false X → Keeps (· ∈ C.F) w W → PutM w C (0, M.read C b) X (.returned (.int .i64 0)) W := fun W x y => ⟨rfl, x, y.mono fun i _ hi => .inl hi⟩
    rw [decide_eq_true hq] at hEq
    generalize PutM w C (0, M.read C b) X = Post at hP ⊢
    replace h := hid h; replace h0 := hid h0; replace hX := hid hX; replace hb := hid hb; replace hg0 := hid hg0; replace hgX := hid hgX; replace hl := hid hl; replace hdata := hid hdata; replace hdl := hid hdl; replace hA := hid hA; replace hG := hid hG; replace hgF := hid hgF; replace hEq := hid hEq; replace hP := hid hP; replace hq := hid hq; replace hsz := hid hsz
    go_enter Tryz.func66, Tryz.ntmps66
    go_wp2_with (first
      | (go_at_call 100; refine hA.out.mono ?_; rintro e w' ⟨rfl, m, rfl⟩)
      | (go_at_call 58; refine (hG.out _).mono ?_; intro e w2 hr; obtain ⟨g, k, rfl, hz, he, hB, hR, hk⟩ := hEq.out _ _ _ hr; clear hr; replace he := hid he; replace hB := hid hB; replace hR := hid hR; replace hk := hid hk)
      | (go_at_call 118; refine he.out.mono ?_; rintro e w' ⟨rfl, rfl⟩))
    exact hP.out w2 hR.out hk.out
  · rw [if_neg hq]
    rw [decide_eq_false hq] at hEq
    have h0' : txState (M.read C b).D C.G.life M.sp false = 0 := by
      rw [← h0]; unfold txState goneB TxM.read; rw [getD'_burnt, getD'_life]
    by_cases hs : M.own b = none ∧ 16 ≤ M.cnt
    · rw [if_pos hs]
      have hP : ∀ W, TxRep W C { M.read C b with sp := 50 } false X → Keeps (fun i => i ∈ C.F ∨ i = C.t ∨ i = C.mx) w W → PutM w C (50, { M.read C b with sp := 50 }) X (.returned (.int .i64 50)) W := fun W x y => ⟨rfl, x, y⟩
      have hR2 : ∀ W, TxRep W C (M.read C b) false X → Keeps (· ∈ C.F) w W → W.cell? ⟨C.t, 1, none⟩ = some (.map (some C.mx)) ∧
          (Instr.lookup 104 (.map (some C.mx)) (.int .i64 b) true).run Tryz.prog W = .ok (.tuple #[.slice none 0 0, .bool false]) W ∧
          (∃ n : Nat, (Builtin.len_ #[104] 3 #[.map (some C.mx)]).run Tryz.prog W = .ok (.int .i64 n) W ∧ (16 : Int) ≤ n) ∧
          Calls Tryz.prog 119 #[.pointer (some ⟨C.t, 0, none⟩), .int .i64 50] W (fun e w' => e = .returned (.int .i64 50) ∧ PutM w C (50, { M.read C b with sp := 50 }) X e w') := by
        rintro W ⟨own, xc, h1, h2, h3⟩ y
        have hn : own.find? (·.key == b) = none := by
          have := h2 b
          rw [show (M.read C b).own b = M.own b from rfl, hs.1] at this
          unfold ovOf at this
          simpa using this
        refine ⟨by have := h1.ht.cell 1; simpa using this, h1.hx.look_none hn, ⟨own.length, ?_, by have := hs.2; have : own.length = M.cnt := h3; omega⟩, ?_⟩
        · have := run_len_map (P := Tryz.prog) W 104 3 C.mx _ _ (by kernel_rfl) h1.hx.hm
          simpa [mapO, goInt] using this
        · refine (spoil_ok h1 h0').mono ?_
          rintro e w' ⟨m, rfl, rfl⟩
          have h1m : TxAt (W.drewN m) C (M.read C b).D own xc M.sp false X := h1.quiet ((Keeps.refl (fun _ => False) W).drewN m) (fun _ f => f.elim) (fun i hi => (h1.xX i hi).2.2.1)
          exact ⟨rfl, hP _ ⟨own, xc, h1m.spoil 50, h2, h3⟩ (((y.mono (fun i _ hi => .inl hi)).drewN m).setCell (p := ⟨C.t, 2, none⟩) (.inl (.inr (.inl rfl))) _)⟩
      generalize PutM w C (50, { M.read C b with sp := 50 }) X = Post at hP hR2 ⊢
      replace h := hid h; replace h0 := hid h0; replace hX := hid hX; replace hb := hid hb; replace hg0 := hid hg0; replace hgX := hid hgX; replace hl := hid hl; replace hdata := hid hdata; replace hdl := hid hdl; replace hA := hid hA; replace hG := hid hG; replace hgF := hid hgF; replace hEq := hid hEq; replace hP := hid hP; replace hq := hid hq; replace hsz := hid hsz; replace h0' := hid h0'; replace hs := hid hs; replace hR2 := hid hR2
      go_enter Tryz.func66, Tryz.ntmps66
      go_wp2_with (first
        | (go_at_call 100; refine hA.out.mono ?_; rintro e w' ⟨rfl, m, rfl⟩)
        | (go_at_call 58; refine (hG.out _).mono ?_; intro e w2 hr; obtain ⟨g, k, rfl, hz, he, hB, hR, hk⟩ := hEq.out _ _ _ hr; clear hr; obtain ⟨q1, q2, ⟨n, q3, q6⟩, q4⟩ := hR2.out w2 hR hk; replace he := hid he; replace hB := hid hB; replace hR := hid hR; replace hk := hid hk; replace q4 := hid q4)
        | (go_at_call 118; refine he.out.mono ?_; rintro e w' ⟨rfl, rfl⟩)
        | (go_at_call 119; refine q4.out.mono ?_; rintro e w3 ⟨rfl, q5⟩; replace q5 := hid q5))
      exact q5.out
    · rw [if_neg hs]
      have hP : ∀ W, TxRep W C ((M.read C b).putC b data) false X → Keeps (fun i => i ∈ C.F ∨ i = C.t ∨ i = C.mx) w W → PutM w C (0, (M.read C b).putC b data) X (.returned (.int .i64 0)) W := fun W x y => ⟨rfl, x, y⟩
      have hR2 : ∀ W, TxRep W C (M.read C b) false X → Keeps (· ∈ C.F) w W → ∃ own xc, TxAt W C (M.read C b).D own xc M.sp false X ∧ W.cell? ⟨C.t, 1, none⟩ = some (.map (some C.mx)) ∧
          (∃ v ok, (Instr.lookup 104 (.map (some C.mx)) (.int .i64 b) true).run Tryz.prog W = .ok (.tuple #[v, .bool ok]) W ∧
          (∃ n : Nat, (Builtin.len_ #[104] 3 #[.map (some C.mx)]).run Tryz.prog W = .ok (.int .i64 n) W ∧ (ok = (M.own b).isSome ∧ (M.own b = none → ¬ (16 : Int) ≤ n)))) ∧
          (∀ W' g' k', Keeps (fun _ => False) W W' → W.heap.size ≤ g' → Blk W' g' (bytesO (data ++ zeros k')) →
             ∃ W3, (Instr.mapUpdate 104 (.map (some C.mx)) (.int .i64 b) (.slice (some ⟨g', 0, none⟩) 512 (512 + k'))).run Tryz.prog W' = .ok () W3 ∧ W3.cell? ⟨C.t, 1, none⟩ = some (.map (some C.mx)) ∧ PutM w C (0, (M.read C b).putC b data) X (.returned (.int .i64 0)) W3) := by
        rintro W ⟨own, xc, h1, h2, h3⟩ y
        have h2b : ovOf own b = M.own b := h2 b
        refine ⟨own, xc, h1, by have := h1.ht.cell 1; simpa using this, ?_, ?_⟩
        · have hlen := run_len_map (P := Tryz.prog) W 104 3 C.mx _ _ (by kernel_rfl) h1.hx.hm
          cases hn : own.find? (·.key == b) with
          | none =>
            refine ⟨_, _, h1.hx.look_none hn, own.length, by simpa [mapO, goInt] using hlen, by rw [← h2b, ovOf_none hn]; rfl, ?_⟩
            intro hs1
            have : own.length = M.cnt := h3
            have : ¬ 16 ≤ M.cnt := fun c => hs ⟨hs1, c⟩
            omega
          | some e => exact ⟨_, _, h1.hx.look_some hn, own.length, by simpa [mapO, goInt] using hlen, by rw [← h2b, ovOf_some hn]; rfl, fun c => by rw [← h2b, ovOf_some hn] at c; cases c⟩
        · intro W' g' k' kk hge hB
          refine ⟨_, run_put (h1.hx.keeps kk (fun _ _ f => f)).hm h1.hx.keys b g' (512 + k') data, cell_setBlk_ne (kk.cellF (by have := h1.ht.cell 1; simpa using this) (fun f => f)) (fun e => h1.tX (by simp [mapFoot]; exact .inl e)) _, ?_⟩
          have h1' := h1.quiet kk (fun _ f => f.elim) (fun i hi => (h1.xX i hi).2.2.1)
          have hl0 : ∀ k, k < W.heap.size → k ≠ g' := fun k hk => by omega
          refine hP _ ⟨_, _, h1'.put hb hdl (Nat.le_add_right _ _) (by rw [Nat.add_sub_cancel_left]; exact hB) ?_ ?_ ?_ ?_ ?_ ?_, ?_, ?_⟩ ?_
          · exact fun e => hl0 _ h1.ht.lt e.symm
          · exact fun e => hl0 _ h1.hs.lt e.symm
          · exact fun e => hl0 _ (h1.hd.lt _ e) rfl
          · exact fun e => hl0 _ (h1.ho.lt _ e) rfl
          · exact fun e => hl0 _ (h1.hx.lt _ e) rfl
          · exact fun e => by have := hX _ e; have := y.size; omega
          · intro k
            rw [ovOf_put]
            have : ovOf own k = M.own k := h2 k
            rw [this]
            rfl
          · rw [putE_length]
            unfold putLen
            rw [h2b, h3]
            rfl
          · exact ((y.mono (fun i _ hi => .inl hi)).step (kk.mono fun _ _ f => f.elim)).step ((keeps_setBlk _ _ _).mono fun i _ e => .inr (.inr e))
      generalize PutM w C (0, (M.read C b).putC b data) X = Post at hP hR2 ⊢
      have hcl : ∀ W W' : World, Keeps (fun _ => False) W W' → Blk W g0 (bytesO bs) → Calls Tryz.prog 101 #[.slice (some ⟨g0, o0, none⟩) 512 c0] W' fun e w' => ∃ b k, e = .returned (.slice (some ⟨b, 0, none⟩) 512 (512 + k)) ∧ W.heap.size ≤ b ∧ Blk w' b (bytesO (data ++ zeros k)) ∧ Keeps (fun _ => False) W w' := fun W W' kk hB => by
        refine (clone_w W' 5 g0 o0 512 c0 bs (kk.blk hB (fun f => f)) hl (by decide) (by decide)).mono ?_
        rintro e w' ⟨g', k, x1, rfl, x2, x3⟩
        rw [hdata] at x2
        exact ⟨g', k, rfl, Nat.le_trans kk.size x1, x2, kk.step x3⟩
      have hkd : ∀ W : World, Keeps (fun _ => False) W W.drew := fun W => (Keeps.refl _ _).drew
      cases hown : M.own b with
      | none =>
        rw [hown] at hR2
        replace h := hid h; replace h0 := hid h0; replace hX := hid hX; replace hb := hid hb; replace hg0 := hid hg0; replace hgX := hid hgX; replace hl := hid hl; replace hdata := hid hdata; replace hdl := hid hdl; replace hA := hid hA; replace hG := hid hG; replace hgF := hid hgF; replace hEq := hid hEq; replace hP := hid hP; replace hq := hid hq; replace hsz := hid hsz; replace h0' := hid h0'; replace hs := hid hs; replace hR2 := hid hR2; replace hcl := hid hcl; replace hkd := hid hkd; replace hown := hid hown
        go_enter Tryz.func66, Tryz.ntmps66
        go_wp2_with (first
          | (go_at_call 100; refine hA.out.mono ?_; rintro e w' ⟨rfl, m, rfl⟩)
          | (go_at_call 58; refine (hG.out _).mono ?_; intro e w2 hr; obtain ⟨g, k, rfl, hz, he, hB, hR, hk⟩ := hEq.out _ _ _ hr; clear hr; obtain ⟨own, xc, hT, q1, ⟨v, ok, qlk, n, qln, qok⟩, q4⟩ := hR2.out w2 hR hk; obtain ⟨qo, qn⟩ := qok; replace qo : ok = false := qo; subst qo; replace qn := qn (by first | rfl | trivial); replace he := hid he; replace hB := hid hB; replace hR := hid hR; replace hk := hid hk; replace q4 := hid q4; replace hT := hid hT)
          | (go_at_call 118; refine he.out.mono ?_; rintro e w' ⟨rfl, rfl⟩))
        have q1d : w2.drew.cell? ⟨C.t, 1, none⟩ = some (.map (some C.mx)) := q1
        have hCl := hcl.out w2 w2.drew (hkd.out w2) hB.out
        have hne : ∀ W g' k', Keeps (fun _ => False) w2 W → w2.heap.size ≤ g' → Blk W g' (bytesO (data ++ zeros k')) → W.cell? ⟨C.t, 1, none⟩ = some (.map (some C.mx)) := fun W g' k' x _ _ => x.cellF q1 (fun f => f)
        replace hCl := hid hCl; replace hne := hid hne
        go_region_held3 (fun W => W.cell? ⟨C.t, 1, none⟩ = some (.map (some C.mx))) (first | with_reducible exact q1d | with_reducible exact q1e | with_reducible exact q1f) (first
          | (go_at_call 101; refine hCl.out.mono ?_; rintro e w3 ⟨g', k', rfl, hg', hB', hk'⟩; have q1e := hne.out _ _ _ hk' hg' hB'; obtain ⟨W3, hup, q1f, hpo⟩ := q4.out _ _ _ hk' hg' hB'; replace hpo := hid hpo; replace hg' := hid hg'; replace hB' := hid hB'; replace hk' := hid hk'))
        all_goals
          go_wp2
          exact hpo.out
      | some dd =>
        rw [hown] at hR2
        replace h := hid h; replace h0 := hid h0; replace hX := hid hX; replace hb := hid hb; replace hg0 := hid hg0; replace hgX := hid hgX; replace hl := hid hl; replace hdata := hid hdata; replace hdl := hid hdl; replace hA := hid hA; replace hG := hid hG; replace hgF := hid hgF; replace hEq := hid hEq; replace hP := hid hP; replace hq := hid hq; replace hsz := hid hsz; replace h0' := hid h0'; replace hs := hid hs; replace hR2 := hid hR2; replace hcl := hid hcl; replace hkd := hid hkd; replace hown := hid hown
        go_enter Tryz.func66, Tryz.ntmps66
        go_wp2_with (first
          | (go_at_call 100; refine hA.out.mono ?_; rintro e w' ⟨rfl, m, rfl⟩)
          | (go_at_call 58; refine (hG.out _).mono ?_; intro e w2 hr; obtain ⟨g, k, rfl, hz, he, hB, hR, hk⟩ := hEq.out _ _ _ hr; clear hr; obtain ⟨own, xc, hT, q1, ⟨v, ok, qlk, n, qln, qok⟩, q4⟩ := hR2.out w2 hR hk; obtain ⟨qo, qn⟩ := qok; replace qo : ok = true := qo; subst qo; clear qn; replace he := hid he; replace hB := hid hB; replace hR := hid hR; replace hk := hid hk; replace q4 := hid q4; replace hT := hid hT)
          | (go_at_call 118; refine he.out.mono ?_; rintro e w' ⟨rfl, rfl⟩))
        have q1d : w2.drew.cell? ⟨C.t, 1, none⟩ = some (.map (some C.mx)) := q1
        have hCl := hcl.out w2 w2.drew (hkd.out w2) hB.out
        have hne : ∀ W g' k', Keeps (fun _ => False) w2 W → w2.heap.size ≤ g' → Blk W g' (bytesO (data ++ zeros k')) → W.cell? ⟨C.t, 1, none⟩ = some (.map (some C.mx)) := fun W g' k' x _ _ => x.cellF q1 (fun f => f)
        replace hCl := hid hCl; replace hne := hid hne
        go_region_held3 (fun W => W.cell? ⟨C.t, 1, none⟩ = some (.map (some C.mx))) (first | with_reducible exact q1d | with_reducible exact q1e | with_reducible exact q1f) (first
          | (go_at_call 101; refine hCl.out.mono ?_; rintro e w3 ⟨g', k', rfl, hg', hB', hk'⟩; have q1e := hne.out _ _ _ hk' hg' hB'; obtain ⟨W3, hup, q1f, hpo⟩ := q4.out _ _ _ hk' hg' hB'; replace hpo := hid hpo; replace hg' := hid hg'; replace hB' := hid hB'; replace hk' := hid hk'))
        all_goals
          go_wp2
          exact hpo.out
end
end Go.Vk

namespace Go.Vk
open Go.RowKit Go.Proofs

def refV (c : Nat) : Value := .iface 153 (.agg #[.int .i64 c])
def errO (x : Int) : Obj := .cells #[.int .i64 x] 34 (0, 0)

theorem caught_nil (p : Addr) (w : World) : Calls Tryz.prog 52 #[.nilIface, .pointer (some p)] w fun e w' => e = .returned (.tuple #[]) ∧ w' = w := by
  have hty : (binOp BinOp.eql 20 .nilIface .nilIface).run Tryz.prog w = .ok (.bool true) w := by kernel_rfl
  go_enter Tryz.func52, Tryz.ntmps52
  go_wp2
  go_end0
  exact ⟨rfl, rfl⟩
theorem caught_ref (b : Nat) (x : Int) (c : Nat) (w : World) (hb : Blk w b (errO x)) : Calls Tryz.prog 52 #[refV c, .pointer (some ⟨b, 0, none⟩)] w fun e w' =>
    e = .returned (.tuple #[]) ∧ Blk w' b (errO c) ∧ Keeps (· = b) w w' := by
  have hty : ∀ w, (binOp BinOp.eql 20 (.iface 153 (.agg #[.int .i64 (c : Int)])) .nilIface).run Tryz.prog w = .ok (.bool false) w := fun w => by kernel_rfl
  have hta : ∀ w, (Instr.typeAssert (.iface 153 (.agg #[.int .i64 (c : Int)])) 20 153 true).run Tryz.prog w = .ok (.tuple #[.agg #[.int .i64 (c : Int)], .bool true]) w := by intro w; kernel_rfl
  unfold errO at hb ⊢
  unfold refV
  have hb2 := hb.alloc (.cells #[.int .i64 c] 153 (0, 0))
  have hb3 := (hb.setCell 0 (.int .i64 c)).alloc (.cells #[.int .i64 c] 153 (0, 0))
  have hk3 := ((Keeps.refl (· = b) w).setCell (p := ⟨b, 0, none⟩) (.inl rfl) (.int .i64 c)).alloc (.cells #[.int .i64 c] 153 (0, 0))
  have hc := hb2.cell 0
  have hz := hb2.frz 0
  simp at hc hb3
  clear hb2
  have hlt := hb.lt
  replace hb3 := hid hb3; replace hk3 := hid hk3; replace hb := hid hb
  go_enter Tryz.func52, Tryz.ntmps52
  go_wp2
  go_end0
  exact ⟨rfl, hb3.out, hk3.out⟩
theorem pdemand_ok (w : World) : Calls Tryz.prog 53 #[.int .i64 0] w fun e w' => e = .returned (.tuple #[]) ∧ w = w' := by
  go_enter Tryz.func53, Tryz.ntmps53
  go_wp2
  go_end0
  exact ⟨rfl, rfl⟩
theorem pdemand_bad (w : World) (c : Nat) (h : c ≠ 0) : Calls Tryz.prog 53 #[.int .i64 c] w fun e w' => e = .panicked [{ v := refV c, recovered := false }] ∧ w = w' := by
  have hi : ((c : Int) != 0) = true := by simp; exact h
  unfold refV
  go_enter Tryz.func53, Tryz.ntmps53
  go_wp2
  exact ⟨rfl, rfl, rfl⟩
theorem on_w (w : World) (t : Nat) : Calls Tryz.prog 82 #[.pointer (some ⟨t, 0, none⟩)] w fun e w' => ∃ p, e = .returned (.pointer (some ⟨p, 0, none⟩)) ∧ w.heap.size ≤ p ∧ Blk w' p (.cells #[.pointer (some ⟨t, 0, none⟩)] 43 (0, 0)) ∧ Keeps (fun _ => False) w w' := by
  go_enter Tryz.func82, Tryz.ntmps82
  go_wp2
  go_ret
  exact ⟨_, rfl, Nat.le_refl _, Blk.new _ _, (Keeps.refl _ _).alloc _⟩

set_option maxRecDepth 20000 in
theorem left_idle (p : Addr) (w : World) : CallsD Tryz.prog 51 #[.pointer (some p)] .returning w fun e u' w' => e = .returned (.tuple #[]) ∧ u' = .returning ∧ w' = w := by
  refine callsD_of_wpS Tryz.func51 rfl fun c₀ cs hu => ?_
  apply wpS_region
  simp [wpOpsS, go_sem, recoverD, hu, Tryz.ntmps51]
  refine (caught_nil p w).mono ?_
  rintro e w' ⟨rfl, rfl⟩
  cases c₀
  simp_all [bodyPostS, results, Tryz.results51]
set_option maxRecDepth 20000 in
theorem left_ref (b : Nat) (x : Int) (c : Nat) (w : World) (hb : Blk w b (errO x)) : CallsD Tryz.prog 51 #[.pointer (some ⟨b, 0, none⟩)] (.panicking [{ v := refV c, recovered := false }]) w fun e u' w' =>
    e = .returned (.tuple #[]) ∧ u' = .panicking [{ v := refV c, recovered := true }] ∧ Blk w' b (errO c) ∧ Keeps (· = b) w w' := by
  refine callsD_of_wpS Tryz.func51 rfl fun c₀ cs hu => ?_
  apply wpS_region
  simp [wpOpsS, go_sem, recoverD, hu, Tryz.ntmps51]
  refine (caught_ref b x c w hb).mono ?_
  rintro e w' ⟨rfl, h1, h2⟩
  simp [bodyPostS, results, Tryz.results51]
  exact ⟨h1, h2⟩

set_option maxRecDepth 20000 in
theorem clear_idle (p : Addr) (w : World) : CallsD Tryz.prog 89 #[.pointer (some p)] .returning w fun e u' w' => e = .returned (.tuple #[]) ∧ u' = .returning ∧ w' = w := by
  refine callsD_of_wpS Tryz.func89 rfl fun c₀ cs hu => ?_
  apply wpS_region
  simp [wpOpsS, go_sem, recoverD, hu, Tryz.ntmps89]
  refine (caught_nil p w).mono ?_
  rintro e w' ⟨rfl, rfl⟩
  cases c₀
  simp_all [bodyPostS, results, Tryz.results89]
set_option maxRecDepth 20000 in
theorem clear_ref (b : Nat) (x : Int) (c : Nat) (w : World) (hb : Blk w b (errO x)) : CallsD Tryz.prog 89 #[.pointer (some ⟨b, 0, none⟩)] (.panicking [{ v := refV c, recovered := false }]) w fun e u' w' =>
    e = .returned (.tuple #[]) ∧ u' = .panicking [{ v := refV c, recovered := true }] ∧ Blk w' b (errO c) ∧ Keeps (· = b) w w' := by
  refine callsD_of_wpS Tryz.func89 rfl fun c₀ cs hu => ?_
  apply wpS_region
  simp [wpOpsS, go_sem, recoverD, hu, Tryz.ntmps89]
  refine (caught_ref b x c w hb).mono ?_
  rintro e w' ⟨rfl, h1, h2⟩
  simp [bodyPostS, results, Tryz.results89]
  exact ⟨h1, h2⟩

set_option maxRecDepth 20000 in
theorem takeN_idle (p : Addr) (w : World) : CallsD Tryz.prog 91 #[.pointer (some p)] .returning w fun e u' w' => e = .returned (.tuple #[]) ∧ u' = .returning ∧ w' = w := by
  refine callsD_of_wpS Tryz.func91 rfl fun c₀ cs hu => ?_
  apply wpS_region
  simp [wpOpsS, go_sem, recoverD, hu, Tryz.ntmps91]
  refine (caught_nil p w).mono ?_
  rintro e w' ⟨rfl, rfl⟩
  cases c₀
  simp_all [bodyPostS, results, Tryz.results91]
set_option maxRecDepth 20000 in
theorem takeN_ref (b : Nat) (x : Int) (c : Nat) (w : World) (hb : Blk w b (errO x)) : CallsD Tryz.prog 91 #[.pointer (some ⟨b, 0, none⟩)] (.panicking [{ v := refV c, recovered := false }]) w fun e u' w' =>
    e = .returned (.tuple #[]) ∧ u' = .panicking [{ v := refV c, recovered := true }] ∧ Blk w' b (errO c) ∧ Keeps (· = b) w w' := by
  refine callsD_of_wpS Tryz.func91 rfl fun c₀ cs hu => ?_
  apply wpS_region
  simp [wpOpsS, go_sem, recoverD, hu, Tryz.ntmps91]
  refine (caught_ref b x c w hb).mono ?_
  rintro e w' ⟨rfl, h1, h2⟩
  simp [bodyPostS, results, Tryz.results91]
  exact ⟨h1, h2⟩

set_option maxRecDepth 20000 in
theorem takeB_idle (p : Addr) (w : World) : CallsD Tryz.prog 93 #[.pointer (some p)] .returning w fun e u' w' => e = .returned (.tuple #[]) ∧ u' = .returning ∧ w' = w := by
  refine callsD_of_wpS Tryz.func93 rfl fun c₀ cs hu => ?_
  apply wpS_region
  simp [wpOpsS, go_sem, recoverD, hu, Tryz.ntmps93]
  refine (caught_nil p w).mono ?_
  rintro e w' ⟨rfl, rfl⟩
  cases c₀
  simp_all [bodyPostS, results, Tryz.results93]
set_option maxRecDepth 20000 in
theorem takeB_ref (b : Nat) (x : Int) (c : Nat) (w : World) (hb : Blk w b (errO x)) : CallsD Tryz.prog 93 #[.pointer (some ⟨b, 0, none⟩)] (.panicking [{ v := refV c, recovered := false }]) w fun e u' w' =>
    e = .returned (.tuple #[]) ∧ u' = .panicking [{ v := refV c, recovered := true }] ∧ Blk w' b (errO c) ∧ Keeps (· = b) w w' := by
  refine callsD_of_wpS Tryz.func93 rfl fun c₀ cs hu => ?_
  apply wpS_region
  simp [wpOpsS, go_sem, recoverD, hu, Tryz.ntmps93]
  refine (caught_ref b x c w hb).mono ?_
  rintro e w' ⟨rfl, h1, h2⟩
  simp [bodyPostS, results, Tryz.results93]
  exact ⟨h1, h2⟩

set_option maxRecDepth 20000 in
theorem dropN_idle (p : Addr) (w : World) : CallsD Tryz.prog 103 #[.pointer (some p)] .returning w fun e u' w' => e = .returned (.tuple #[]) ∧ u' = .returning ∧ w' = w := by
  refine callsD_of_wpS Tryz.func103 rfl fun c₀ cs hu => ?_
  apply wpS_region
  simp [wpOpsS, go_sem, recoverD, hu, Tryz.ntmps103]
  refine (caught_nil p w).mono ?_
  rintro e w' ⟨rfl, rfl⟩
  cases c₀
  simp_all [bodyPostS, results, Tryz.results103]
set_option maxRecDepth 20000 in
theorem dropN_ref (b : Nat) (x : Int) (c : Nat) (w : World) (hb : Blk w b (errO x)) : CallsD Tryz.prog 103 #[.pointer (some ⟨b, 0, none⟩)] (.panicking [{ v := refV c, recovered := false }]) w fun e u' w' =>
    e = .returned (.tuple #[]) ∧ u' = .panicking [{ v := refV c, recovered := true }] ∧ Blk w' b (errO c) ∧ Keeps (· = b) w w' := by
  refine callsD_of_wpS Tryz.func103 rfl fun c₀ cs hu => ?_
  apply wpS_region
  simp [wpOpsS, go_sem, recoverD, hu, Tryz.ntmps103]
  refine (caught_ref b x c w hb).mono ?_
  rintro e w' ⟨rfl, h1, h2⟩
  simp [bodyPostS, results, Tryz.results103]
  exact ⟨h1, h2⟩

set_option maxRecDepth 20000 in
theorem dropB_idle (p : Addr) (w : World) : CallsD Tryz.prog 105 #[.pointer (some p)] .returning w fun e u' w' => e = .returned (.tuple #[]) ∧ u' = .returning ∧ w' = w := by
  refine callsD_of_wpS Tryz.func105 rfl fun c₀ cs hu => ?_
  apply wpS_region
  simp [wpOpsS, go_sem, recoverD, hu, Tryz.ntmps105]
  refine (caught_nil p w).mono ?_
  rintro e w' ⟨rfl, rfl⟩
  cases c₀
  simp_all [bodyPostS, results, Tryz.results105]
set_option maxRecDepth 20000 in
theorem dropB_ref (b : Nat) (x : Int) (c : Nat) (w : World) (hb : Blk w b (errO x)) : CallsD Tryz.prog 105 #[.pointer (some ⟨b, 0, none⟩)] (.panicking [{ v := refV c, recovered := false }]) w fun e u' w' =>
    e = .returned (.tuple #[]) ∧ u' = .panicking [{ v := refV c, recovered := true }] ∧ Blk w' b (errO c) ∧ Keeps (· = b) w w' := by
  refine callsD_of_wpS Tryz.func105 rfl fun c₀ cs hu => ?_
  apply wpS_region
  simp [wpOpsS, go_sem, recoverD, hu, Tryz.ntmps105]
  refine (caught_ref b x c w hb).mono ?_
  rintro e w' ⟨rfl, h1, h2⟩
  simp [bodyPostS, results, Tryz.results105]
  exact ⟨h1, h2⟩
end Go.Vk
