/- The log: its model, and the walks of place, pair of package wal. The walk of anchor of package wal. The walks of at, free, alive, ready, Room, number of package wal. The walk of number of package wal (and of package store, which has one like it). The walk of Format of package wal. -/
import Derived.Test.YtceodjgajkimnaaGreatMB
import Derived.Test.YtceodjgajkimnaaGreatMD
set_option linter.unusedVariables false

namespace Go.Vk
open Go.RowKit Go.Proofs

/-- A write, a flush: the error's number and the disk behind it. -/
def DM.wr (D : DM) (k : Nat) (bs : List UInt8) : Nat × DM := if D.burnt then (3, D) else (0, (D.wrote k bs).spent)
def DM.fl (D : DM) : Nat × DM := if D.burnt then (3, D) else (0, D.flushed)
/-- One step behind another, if that went well. -/
def okThen (x : Nat × DM) (f : DM → Nat × DM) : Nat × DM := if x.1 = 0 then f x.2 else x

section
variable {w : World} {d : Nat} {D : DM} {F : List Nat}
theorem writeT_w (h : DiskRep w d D F) (k : Nat) (hk : k < D.n) (hw : D.writes < 1099511627776)
    (g off c : Nat) (T2 : TypeId) (src : List UInt8) (hg : Blk w g (bytesT T2 src)) (hlen : off + 512 ≤ src.length) :
    Calls Tryz.prog 110 #[.pointer (some ⟨d, 0, none⟩), .int .i64 k, .slice (some ⟨g, off, none⟩) 512 c] w fun e w' =>
      e = .returned (.int .i64 ((D.wr k ((src.drop off).take 512)).1 : Nat)) ∧ DPost w d F (D.wr k ((src.drop off).take 512)).2 w' := by
  cases hb : D.burnt with
  | true =>
    refine (write_dead h hb k _).mono ?_
    rintro e w' ⟨rfl, rfl⟩
    unfold DM.wr
    rw [hb]
    exact ⟨rfl, DPost.refl h⟩
  | false =>
    refine (write_ok h hb k (by omega) (by omega) hw g off c T2 src hg hlen).mono ?_
    rintro e w' ⟨rfl, h2⟩
    unfold DM.wr
    rw [hb]
    exact ⟨rfl, h2⟩
theorem flushT_w (h : DiskRep w d D F) : Calls Tryz.prog 111 #[.pointer (some ⟨d, 0, none⟩)] w fun e w' =>
      e = .returned (.int .i64 (D.fl.1 : Nat)) ∧ DPost w d F D.fl.2 w' := by
  cases hb : D.burnt with
  | true =>
    refine (flush_dead h hb).mono ?_
    rintro e w' ⟨rfl, rfl⟩
    unfold DM.fl
    rw [hb]
    exact ⟨rfl, DPost.refl h⟩
  | false =>
    refine (flush_ok h hb).mono ?_
    rintro e w' ⟨rfl, h2⟩
    unfold DM.fl
    rw [hb]
    exact ⟨rfl, h2⟩
theorem place_dead (h : DiskRep w d D F) (hb : D.burnt = true) (f n : Int) : Calls Tryz.prog 155 #[.pointer (some ⟨d, 0, none⟩), .int .i64 f, .int .i64 n] w fun e w' =>
    e = .returned (.int .i64 3) ∧ w = w' := by
  replace h := hid h
  go_enter Tryz.func155, Tryz.ntmps155
  go_wp2_with (first | (go_at_call 107; refine (sectors_w h.out).mono ?_; rintro e w' ⟨rfl, rfl⟩) | (go_at_call 94; refine (burnt_w h.out).mono ?_; rintro e w' ⟨rfl, rfl⟩))
  go_ret
  exact ⟨rfl, rfl⟩
theorem place_ok (h : DiskRep w d D F) (hb : D.burnt = false) (f n : Nat) (h1 : 18 ≤ n) (h2 : n ≤ 256) (h3 : f + 2 + n ≤ D.n) (h4 : D.n ≤ 2048) : Calls Tryz.prog 155 #[.pointer (some ⟨d, 0, none⟩), .int .i64 f, .int .i64 n] w fun e w' =>
    e = .returned (.int .i64 0) ∧ w = w' := by
  replace h := hid h
  go_enter Tryz.func155, Tryz.ntmps155
  go_wp2_with (first | (go_at_call 107; refine (sectors_w h.out).mono ?_; rintro e w' ⟨rfl, rfl⟩) | (go_at_call 94; refine (burnt_w h.out).mono ?_; rintro e w' ⟨rfl, rfl⟩))
  go_ret
  exact ⟨rfl, rfl⟩
end

/-- A log. -/
structure LM where
  first : Nat
  n : Nat
  life : Int
  epoch : Nat
  top : Nat
  tail : Nat
  head : Nat
  started : Bool
def logO (d : Nat) (L : LM) : Obj := .cells #[.pointer (some ⟨d, 0, none⟩), .int .i64 L.first, .int .i64 L.n, .int .i64 L.life, .int .i64 L.epoch, .int .i64 L.top, .int .i64 L.tail, .int .i64 L.head, .bool L.started] 173 (0, 0)

section
variable {w : World} {d l : Nat} {D : DM} {F : List Nat} {L : LM}
theorem lpair_dead (hl : Blk w l (logO d L)) (h : DiskRep w d D F) (hb : D.burnt = true) : Calls Tryz.prog 183 #[.pointer (some ⟨l, 0, none⟩)] w fun e w' =>
    e = .returned (.tuple #[.slice none 0 0, .slice none 0 0, .int .i64 3]) ∧ Keeps (fun _ => False) w w' := by
  have c0 := hl.cell 0
  have c1 := hl.cell 1
  simp at c0 c1
  have c0d : w.drew.cell? ⟨l, 0, none⟩ = some (.pointer (some ⟨d, 0, none⟩)) := c0
  have c1d : w.drew.cell? ⟨l, 1, none⟩ = some (.int .i64 L.first) := c1
  have hR := read_dead (w := w.drew) (d := d) (h.keep (w' := w.drew) (fun _ _ => rfl)) hb
  have hkw : Keeps (fun _ => False) w w.drew := (Keeps.refl _ w).drew
  replace h := hid h; replace hl := hid hl; replace hR := hid hR; replace hkw := hid hkw
  go_enter Tryz.func183, Tryz.ntmps183
  go_upto_region 1 with fail
  go_region_held3 (fun W => W.cell? ⟨l, 0, none⟩ = some (.pointer (some ⟨d, 0, none⟩)) ∧ W.cell? ⟨l, 1, none⟩ = some (.int .i64 L.first)) (first | with_reducible exact ⟨c0d, c1d⟩ | with_reducible exact ⟨q0, q1⟩) (first
    | (go_at_call 142; refine (hR.out _).mono ?_; rintro e w2 ⟨rfl, hw2⟩; have q0 := c0d; have q1 := c1d; rw [hw2] at q0 q1; replace hw2 := hid hw2))
  all_goals
    have hk2 := hkw.out
    rw [hw2.out] at hk2
    clear q0 q1
    replace hk2 := hid hk2
    go_wp2
    exact bodyPost_ret (v := .tuple #[.slice none 0 0, .slice none 0 0, .int .i64 3]) (by simp [results, Tryz.results183, go_sem]) rfl ⟨rfl, hk2.out⟩
def LPairPost (w : World) (d : Nat) (D : DM) (F : List Nat) (f : Nat) (e : Ending) (w' : World) : Prop :=
  ∃ b1 b2, e = .returned (.tuple #[.slice (some ⟨b1, 0, none⟩) 512 512, .slice (some ⟨b2, 0, none⟩) 512 512, .int .i64 0]) ∧ w.heap.size ≤ b1 ∧ w.heap.size ≤ b2 ∧
    Blk w' b1 (bytesO (D.now f)) ∧ Blk w' b2 (bytesO (D.now (f + 1))) ∧ DiskRep w' d D.readed.readed F ∧ Keeps (· ∈ F) w w'

theorem lpair_ok (hl : Blk w l (logO d L)) (h : DiskRep w d D F) (hlF : l ∉ F) (hb : D.burnt = false) (hf : L.first + 1 < D.n) (hn : D.n ≤ 2048) :
    Calls Tryz.prog 183 #[.pointer (some ⟨l, 0, none⟩)] w (LPairPost w d D F L.first) := by
  have c0 := hl.cell 0
  have c1 := hl.cell 1
  simp at c0 c1
  have c0d : w.drew.cell? ⟨l, 0, none⟩ = some (.pointer (some ⟨d, 0, none⟩)) := c0
  have c1d : w.drew.cell? ⟨l, 1, none⟩ = some (.int .i64 L.first) := c1
  have hd1 : DiskRep w.drew d D F := h.keep (w' := w.drew) (fun _ _ => rfl)
  have hR := read_ok hd1 hb L.first (by omega) (by omega)
  have hlt := h.lt
  have hkw : Keeps (· ∈ F) w w.drew := (Keeps.refl _ w).drew
  have hld : Blk w.drew l (logO d L) := hl
  have hP : ∀ b1 b2 W, w.heap.size ≤ b1 → w.heap.size ≤ b2 → Blk W b1 (bytesO (D.now L.first)) → Blk W b2 (bytesO (D.now (L.first + 1))) → DiskRep W d D.readed.readed F → Keeps (· ∈ F) w W →
      LPairPost w d D F L.first (.returned (.tuple #[.slice (some ⟨b1, 0, none⟩) 512 512, .slice (some ⟨b2, 0, none⟩) 512 512, .int .i64 0])) W := fun b1 b2 W x1 x2 x3 x4 x5 x6 => ⟨b1, b2, rfl, x1, x2, x3, x4, x5, x6⟩
  generalize LPairPost w d D F L.first = Post at hP ⊢
  rw [Int.toNat_natCast] at hR
  replace h := hid h; replace hl := hid hl; replace hR := hid hR; replace hkw := hid hkw; replace hd1 := hid hd1; replace hlt := hid hlt; replace hP := hid hP; replace hld := hid hld; replace hb := hid hb
  go_enter Tryz.func183, Tryz.ntmps183
  go_upto_region 1 with fail
  go_region_held3 (fun W => W.cell? ⟨l, 0, none⟩ = some (.pointer (some ⟨d, 0, none⟩)) ∧ W.cell? ⟨l, 1, none⟩ = some (.int .i64 L.first)) (first | with_reducible exact ⟨c0d, c1d⟩ | with_reducible exact ⟨q0, q1⟩) (first
    | (go_at_call 142; refine hR.out.mono ?_; rintro e w2 ⟨b1, rfl, hb1, hB1, hD2, k2⟩; have hl2 := k2.blk hld.out hlF; have q0 := hl2.cell 0; have q1 := hl2.cell 1; simp at q0 q1; replace hD2 := hid hD2; replace k2 := hid k2; replace hB1 := hid hB1; replace hl2 := hid hl2; replace hb1 := hid hb1))
  all_goals
    clear c0 c1 c0d c1d hR
    have hb1' : w.heap.size ≤ b1 := hb1.out
    have hB1F : b1 ∉ F := fun hm => by have := hlt.out b1 hm; omega
    have hk2 : Keeps (· ∈ F) w w2 := hkw.out.step k2.out
    have hD2d : DiskRep w2.drew d D.readed F := hD2.out.keep (w' := w2.drew) (fun _ _ => rfl)
    have c0d : w2.drew.cell? ⟨l, 0, none⟩ = some (.pointer (some ⟨d, 0, none⟩)) := q0
    have c1d : w2.drew.cell? ⟨l, 1, none⟩ = some (.int .i64 L.first) := q1
    have hR := read_ok hD2d hb.out ((L.first : Int) + 1) (by omega) (by show _ < ((D.n : Nat) : Int); omega)
    rw [show ((L.first : Int) + 1).toNat = L.first + 1 by omega] at hR
    have hp1 : IntKind.i64.wrap ((L.first : Int) + 1) = (L.first : Int) + 1 := wrap_small (by omega) (by omega)
    have hl2d : Blk w2.drew l (logO d L) := hl2.out
    clear hb1 k2 hkw hld hD2 hd1 q0 q1
    replace hb1' := hid hb1'; replace hk2 := hid hk2; replace hD2d := hid hD2d; replace hR := hid hR; replace hl2d := hid hl2d
    go_upto_region 4 with fail
    have q0 := c0d
    have q1 := c1d
    replace q0 : w2.cell? ⟨l, 0, none⟩ = some (.pointer (some ⟨d, 0, none⟩)) := q0
    replace q1 : w2.cell? ⟨l, 1, none⟩ = some (.int .i64 L.first) := q1
    go_region_held3 (fun W => W.cell? ⟨l, 0, none⟩ = some (.pointer (some ⟨d, 0, none⟩)) ∧ W.cell? ⟨l, 1, none⟩ = some (.int .i64 L.first)) (first | with_reducible exact ⟨c0d, c1d⟩ | with_reducible exact ⟨r0, r1⟩) (first
      | (go_at_call 142; refine hR.out.mono ?_; rintro e w3 ⟨b2, rfl, hb2, hB2, hD3, k3⟩; have hl3 := k3.blk hl2d.out hlF; have r0 := hl3.cell 0; have r1 := hl3.cell 1; simp at r0 r1; replace hD3 := hid hD3; replace k3 := hid k3; replace hB2 := hid hB2; replace hb2 := hid hb2; clear hl3))
    all_goals
      have hk3 : Keeps (· ∈ F) w w3 := hk2.out.drew.step k3.out
      have hb2' : w.heap.size ≤ b2 := Nat.le_trans hk2.out.size hb2.out
      have hB1' : Blk w3 b1 (bytesO (D.now L.first)) := (k3.out).blk (w := w2.drew) hB1.out hB1F
      have hX := hP.out b1 b2 w3 hb1'.out hb2' hB1' hB2.out hD3.out hk3
      clear q0 q1 c0d c1d r0 r1
      replace hX := hid hX
      go_wp2
      exact bodyPost_ret (v := .tuple #[.slice (some ⟨b1, 0, none⟩) 512 512, .slice (some ⟨b2, 0, none⟩) 512 512, .int .i64 0]) (by simp [results, Tryz.results183, go_sem]) rfl hX.out
end
end Go.Vk

namespace Go.Vk
open Go.RowKit Go.Proofs

theorem DiskRep.now_length {w : World} {d : Nat} {D : DM} {F : List Nat} (h : DiskRep w d D F) (k : Nat) (hk : k < D.n) : (D.now k).length = 512 := by
  obtain ⟨dur, m, ps, clock, h1, rfl, h3⟩ := h
  exact DM.now_length h1 k hk
theorem DiskRep.drew {w : World} {d : Nat} {D : DM} {F : List Nat} (h : DiskRep w d D F) : DiskRep w.drew d D F := h.keep (fun _ _ => rfl)

/-- The next anchor: the error's number and the disk. -/
def anchorM (D : DM) (f e t : Nat) : Nat × DM :=
  if D.burnt then (3, D)
  else if e * 4294967296 + t ≤ max (anchorN (D.now f)) (anchorN (D.now (f + 1))) then (6, D.readed.readed)
  else ((D.readed.readed.wrote (f + renewTo (D.now f) (D.now (f + 1))) (renewS (D.now f) (D.now (f + 1)) (e * 4294967296 + t))).spent).fl
/-- What a call leaves of a log and its disk, which lay in F. -/
def LPost (w : World) (d l : Nat) (F : List Nat) (c : Nat) (D' : DM) (L' : LM) (e : Ending) (w' : World) : Prop :=
  e = .returned (.int .i64 c) ∧ ∃ F', DiskRep w' d D' F' ∧ (∀ k ∈ F', k ∈ F ∨ w.heap.size ≤ k) ∧ Blk w' l (logO d L') ∧ Keeps (fun k => k ∈ F ∨ k = l) w w'

theorem renewTo_le (s1 s2 : List UInt8) : renewTo s1 s2 ≤ 1 := by unfold renewTo; split <;> omega
theorem renewS_length (s1 s2 : List UInt8) (no : Nat) : (renewS s1 s2 no).length = 512 := length_layB _ _

section
variable {w : World} {d l : Nat} {D : DM} {F : List Nat} {L : LM}
set_option maxHeartbeats 1000000 in
theorem anchor_w (hl : Blk w l (logO d L)) (h : DiskRep w d D F) (hlF : l ∉ F) (hf : L.first + 1 < D.n) (hn : D.n ≤ 2048) (hw : D.writes < 1099511627776)
    (e t : Nat) (he : 1 ≤ e) (he2 : e < 2147483648) (ht : t < 4294967296) :
    Calls Tryz.prog 156 #[.pointer (some ⟨l, 0, none⟩), .int .i64 e, .int .i64 t] w
      (LPost w d l F (anchorM D L.first e t).1 (anchorM D L.first e t).2 (if (anchorM D L.first e t).1 = 0 then { L with epoch := e, tail := t } else L)) := by
  cases hb : D.burnt with
  | true =>
    have hA : anchorM D L.first e t = (3, D) := by unfold anchorM; rw [hb, if_pos rfl]
    rw [hA]
    have hpd := lpair_dead hl h hb
    have hX : ∀ W, Keeps (fun _ => False) w W → LPost w d l F 3 D L (.returned (.int .i64 (3 : Nat))) W := fun W k =>
      ⟨rfl, F, h.keeps k (fun _ _ f => f), fun _ hk => .inl hk, k.blk hl (fun f => f), k.mono (fun _ _ f => f.elim)⟩
    dsimp only
    rw [if_neg (show ¬ (3 : Nat) = 0 by decide)]
    generalize LPost w d l F 3 D L = Post at hX ⊢
    clear hA
    replace h := hid h; replace hl := hid hl; replace hpd := hid hpd; replace hX := hid hX
    go_enter Tryz.func156, Tryz.ntmps156
    go_wp2_with (go_at_call 183; refine hpd.out.mono ?_; rintro e w2 ⟨rfl, k2⟩; replace k2 := hid k2)
    exact hX.out _ k2.out
  | false =>
    have hA : anchorM D L.first e t = if e * 4294967296 + t ≤ max (anchorN (D.now L.first)) (anchorN (D.now (L.first + 1))) then (6, D.readed.readed) else ((D.readed.readed.wrote (L.first + renewTo (D.now L.first) (D.now (L.first + 1))) (renewS (D.now L.first) (D.now (L.first + 1)) (e * 4294967296 + t))).spent).fl := by
      unfold anchorM; rw [hb, if_neg (by decide)]
    rw [hA]
    clear hA
    have hpd := lpair_ok hl h hlF hb hf hn
    have hs1 := h.now_length L.first (by omega)
    have hs2 := h.now_length (L.first + 1) (by omega)
    have hto := renewTo_le (D.now L.first) (D.now (L.first + 1))
    have hsl := renewS_length (D.now L.first) (D.now (L.first + 1)) (e * 4294967296 + t)
    have hRn := fun W (b1 b2 : Nat) h1 h2 => renew_w W b1 512 5 (D.now L.first) h1 hs1 b2 512 5 (D.now (L.first + 1)) h2 hs2 (e * 4294967296 + t) (by omega) (by omega)
    unfold LPairPost at hpd
    unfold RenewPost at hRn
    generalize hto' : renewTo (D.now L.first) (D.now (L.first + 1)) = sl at *
    generalize hsl' : renewS (D.now L.first) (D.now (L.first + 1)) (e * 4294967296 + t) = sec at *
    generalize hmx : max (anchorN (D.now L.first)) (anchorN (D.now (L.first + 1))) = mx at *
    clear hto' hsl' hmx
    generalize D.now L.first = s1 at *
    generalize D.now (L.first + 1) = s2 at *
    have hlt := h.lt
    have hll := hl.lt
    have hbD : D.readed.readed.burnt = false := hb
    have hw2 : D.readed.readed.writes < 1099511627776 := hw
    have hn2 : D.readed.readed.n = D.n := rfl
    have hn2' : L.first + 1 < D.readed.readed.n := hf
    have hsh : (e : Int) * 4294967296 + (t : Int) = ((e * 4294967296 + t : Nat) : Int) := by omega
    have hsb : e * 4294967296 + t < 9223372036854775808 := by omega
    generalize e * 4294967296 + t = no at hRn hsh hsb ⊢
    generalize D.readed.readed = D2 at *
    replace h := hid h; replace hl := hid hl; replace hpd := hid hpd; replace hRn := hid hRn; replace hlt := hid hlt; replace hll := hid hll; replace hs1 := hid hs1; replace hs2 := hid hs2; replace hb := hid hb; replace hbD := hid hbD; replace hw2 := hid hw2; replace hn2 := hid hn2; replace hsl := hid hsl
    by_cases hst : no ≤ mx
    · rw [if_pos hst]
      dsimp only
      rw [if_neg (show ¬ (6 : Nat) = 0 by decide)]
      have hX : ∀ W, DiskRep W d D2 F → Keeps (· ∈ F) w W → LPost w d l F 6 D2 L (.returned (.int .i64 (6 : Nat))) W := fun W hd k =>
        ⟨rfl, F, hd, fun _ hk => .inl hk, k.blk hl.out hlF, k.mono (fun _ _ f => .inl f)⟩
      generalize LPost w d l F 6 D2 L = Post at hX ⊢
      replace hst := hid hst; replace hX := hid hX
      go_enter Tryz.func156, Tryz.ntmps156
      go_wp2_with (first
        | (go_at_call 183; refine hpd.out.mono ?_; rintro e w2 ⟨b1, b2, rfl, hb1, hb2, hB1, hB2, hD2, k2⟩; replace k2 := hid k2; replace hB1 := hid hB1; replace hB2 := hid hB2; replace hD2 := hid hD2; replace hb1 := hid hb1; replace hb2 := hid hb2)
        | (go_at_call 190; refine (hRn.out _ _ _ hB1.out hB2.out).mono ?_; rintro e w3 ⟨g, hg, k3, hif⟩; rw [if_pos hst.out] at hif; subst hif; replace k3 := hid k3))
      have hk3 := hX.out _ (hD2.out.keeps k3.out (fun _ _ f => f)) (k2.out.trans k3.out (fun _ _ f => f.elim))
      exact hk3
    · rw [if_neg hst]
      generalize hD3 : (D2.wrote (L.first + sl) sec).spent = D3
      have hX : ∀ W c D' L', c = D3.fl.1 → D' = D3.fl.2 → L' = (if D3.fl.1 = 0 then { L with epoch := e, tail := t } else L) →
          (∃ F', DiskRep W d D' F' ∧ (∀ k ∈ F', k ∈ F ∨ w.heap.size ≤ k) ∧ Blk W l (logO d L') ∧ Keeps (fun k => k ∈ F ∨ k = l) w W) →
          LPost w d l F D3.fl.1 D3.fl.2 (if D3.fl.1 = 0 then { L with epoch := e, tail := t } else L) (.returned (.int .i64 c)) W := by
        rintro W c D' L' rfl rfl rfl h
        exact ⟨rfl, h⟩
      generalize LPost w d l F D3.fl.1 D3.fl.2 (if D3.fl.1 = 0 then { L with epoch := e, tail := t } else L) = Post at hX ⊢
      have hfl : DM.fl D3 = if D3.burnt then (3, D3) else (0, D3.flushed) := rfl
      replace hst := hid hst; replace hX := hid hX; replace hD3 := hid hD3; replace hfl := hid hfl
      go_enter Tryz.func156, Tryz.ntmps156
      go_upto_region 7 with (first
        | (go_at_call 183; refine hpd.out.mono ?_; rintro e w2 ⟨b1, b2, rfl, hb1, hb2, hB1, hB2, hD2, k2⟩; replace k2 := hid k2; replace hB1 := hid hB1; replace hB2 := hid hB2; replace hD2 := hid hD2; replace hb1 := hid hb1; replace hb2 := hid hb2)
        | (go_at_call 190; refine (hRn.out _ _ _ hB1.out hB2.out).mono ?_; rintro e w3 ⟨g, hg, k3, hif⟩; rw [if_neg hst.out] at hif; obtain ⟨rfl, hBg⟩ := hif; replace k3 := hid k3; replace hBg := hid hBg; replace hg := hid hg))
      have hD2' : DiskRep w3 d D2 F := hD2.out.keeps k3.out (fun _ _ f => f)
      have hk3 : Keeps (· ∈ F) w w3 := k2.out.trans k3.out (fun _ _ f => f.elim)
      have hl3 : Blk w3 l (logO d L) := hk3.blk hl.out hlF
      have c0 := hl3.cell 0
      have c1 := hl3.cell 1
      simp at c0 c1
      have c0d : w3.drew.cell? ⟨l, 0, none⟩ = some (.pointer (some ⟨d, 0, none⟩)) := c0
      have c1d : w3.drew.cell? ⟨l, 1, none⟩ = some (.int .i64 L.first) := c1
      have hp1 : IntKind.i64.wrap ((L.first : Int) + (sl : Int)) = (L.first : Int) + (sl : Int) := wrap_small (by omega) (by omega)
      have hW := write_ok hD2'.drew hbD.out ((L.first : Int) + (sl : Int)) (by omega) (by omega) hw2.out g 0 512 238 sec hBg.out.drew (by rw [hsl.out]; decide)
      rw [List.drop_zero, List.take_of_length_le (by rw [hsl.out]; decide), show ((L.first : Int) + (sl : Int)).toNat = L.first + sl by omega, hD3.out] at hW
      have hl3d : Blk w3.drew l (logO d L) := hl3
      have hsz : w.heap.size ≤ w3.heap.size := hk3.size
      replace hD2' := hid hD2'; replace hk3 := hid hk3; replace hl3 := hid hl3; replace hW := hid hW; replace hl3d := hid hl3d; replace hsz := hid hsz
      go_region_held3 (fun W => W.cell? ⟨l, 0, none⟩ = some (.pointer (some ⟨d, 0, none⟩)) ∧ W.cell? ⟨l, 1, none⟩ = some (.int .i64 L.first)) (first | with_reducible exact ⟨c0d, c1d⟩ | with_reducible exact ⟨q0, q1⟩) (first
        | (go_at_call 110; refine hW.out.mono ?_; rintro e w4 ⟨rfl, F4, hD4, k4, hF4⟩; have hl4 := k4.blk hl3d.out hlF; have q0 := hl4.cell 0; have q1 := hl4.cell 1; simp at q0 q1; replace hD4 := hid hD4; replace k4 := hid k4; replace hF4 := hid hF4; replace hl4 := hid hl4))
      all_goals
        clear c0 c1 c0d c1d q1
        have hk4 : Keeps (· ∈ F) w w4 := hk3.out.drew.step k4.out
        have hF4' : ∀ k ∈ F4, k ∈ F ∨ w.heap.size ≤ k := fun k hk => by
          rcases hF4.out k hk with a | a
          · exact .inl a
          · exact .inr (Nat.le_trans hsz.out a)
        have hlF4 : l ∉ F4 := fun hm => by
          rcases hF4' l hm with a | a
          · exact hlF a
          · have := hll.out; omega
        clear k4 hF4
        replace hk4 := hid hk4; replace hF4' := hid hF4'
        cases hb3 : D3.burnt with
        | true =>
          have hfd := flush_dead hD4.out hb3
          have hfl3 : D3.fl = (3, D3) := by rw [hfl.out, if_pos hb3]
          have hX3 := fun W hh => hX.out W 3 D3 L (by rw [hfl3]) (by rw [hfl3]) (by rw [hfl3, if_neg (show ¬ (3 : Nat) = 0 by decide)]) hh
          have hXX := hX3 w4 ⟨F4, hD4.out, hF4'.out, hl4.out, hk4.out.mono (fun _ _ f => .inl f)⟩
          clear hX3
          replace hfd := hid hfd; replace hfl3 := hid hfl3; replace hXX := hid hXX
          go_wp2_with (go_at_call 111; refine hfd.out.mono ?_; rintro e w5 ⟨rfl, rfl⟩)
          exact hXX.out
        | false =>
          have hfd := flush_ok hD4.out hb3
          have hfl3 : D3.fl = (0, D3.flushed) := by rw [hfl.out, if_neg (by rw [hb3]; decide)]
          have hX3 := fun W hh => hX.out W 0 D3.flushed { L with epoch := e, tail := t } (by rw [hfl3]) (by rw [hfl3]) (by rw [hfl3, if_pos rfl]) hh
          replace hfd := hid hfd; replace hfl3 := hid hfl3; replace hX3 := hid hX3
          go_wp2_with (go_at_call 111; refine hfd.out.mono ?_; rintro e w5 ⟨rfl, F5, hD5, k5, hF5⟩; have hl5 := k5.blk hl4.out hlF4; have p4 := hl5.cell 4; have p6 := hl5.cell 6; have pf := hl5.frz; simp at p4 p6; replace hD5 := hid hD5; replace k5 := hid k5; replace hF5 := hid hF5; replace hl5 := hid hl5)
          have hlF5 : l ∉ F5 := fun hm => by
            rcases hF5.out l hm with a | a
            · exact hlF4 a
            · have := hl4.out.lt; omega
          have h6 := (hl5.out.setCell 4 (.int .i64 (e : Nat))).setCell 6 (.int .i64 (t : Nat))
          have hk5 : Keeps (fun k => k ∈ F ∨ k = l) w w5 := (hk4.out.mono (fun _ _ f => .inl f)).trans k5.out (fun i hi f => by
            rcases hF4'.out i f with a | a
            · exact .inl a
            · omega)
          have hk6 := (hk5.setCell (p := ⟨l, 4, none⟩) (.inl (.inr rfl)) (.int .i64 (e : Nat))).setCell (p := ⟨l, 6, none⟩) (.inl (.inr rfl)) (.int .i64 (t : Nat))
          have hD6 : DiskRep ((w5.setCell ⟨l, 4, none⟩ (.int .i64 (e : Nat))).setCell ⟨l, 6, none⟩ (.int .i64 (t : Nat))) d D3.flushed F5 := hD5.out.keep (fun k hk => by
            have hne : k ≠ l := fun e => hlF5 (e ▸ hk)
            simp only [World.setCell, Array.getElem?_modify]
            rw [if_neg (by omega), if_neg (by omega)])
          have hF6 : ∀ k ∈ F5, k ∈ F ∨ w.heap.size ≤ k := fun k hk => by
            rcases hF5.out k hk with a | a
            · exact hF4'.out k a
            · exact .inr (Nat.le_trans hk4.out.size a)
          exact hX3.out _ ⟨F5, hD6, hF6, h6, hk6⟩
end
end Go.Vk

namespace Go.Vk
open Go.RowKit Go.Proofs

/-- May the log go on: the error's number. -/
def aliveE (D : DM) (L : LM) : Nat := if D.burnt = true ∨ D.life ≠ L.life then 3 else 0
def readyE (D : DM) (L : LM) : Nat := if aliveE D L ≠ 0 then aliveE D L else if L.started then 0 else 4

section
variable {w : World} {d l : Nat} {D : DM} {F : List Nat} {L : LM}

theorem DiskRep.drewN (h : DiskRep w d D F) (n : Nat) : DiskRep (w.drewN n) d D F := h.keep (fun _ _ => rfl)

theorem at_w (hl : Blk w l (logO d L)) (pos : Nat) (hn : 1 ≤ L.n) (hn2 : L.n ≤ 2048) (hf : L.first ≤ 2048) : Calls Tryz.prog 159 #[.pointer (some ⟨l, 0, none⟩), .int .i64 pos] w fun e w' =>
    e = .returned (.int .i64 (L.first + 2 + pos % L.n : Nat)) ∧ ∃ m, w' = w.drewN m := by
  have c1 := hl.cell 1
  have c2 := hl.cell 2
  simp at c1 c2
  have hlt := Nat.mod_lt pos (show L.n > 0 by omega)
  have hne : ((L.n : Int) == 0) = false := by simp; omega
  have hm1 : (0 : Int) ≤ (pos : Int) % (L.n : Int) := by omega
  have hm2 : (pos : Int) % (L.n : Int) < (L.n : Int) := by omega
  have hcast : (L.first : Int) + 2 + (pos : Int) % (L.n : Int) = ((L.first + 2 + pos % L.n : Nat) : Int) := by simp
  replace hl := hid hl; replace hlt := hid hlt; replace hcast := hid hcast
  go_enter Tryz.func159, Tryz.ntmps159
  go_upto_region 1 with fail
  go_quiet (fail)
  go_wp2
  go_ret
  refine ⟨?_, nq, rfl⟩
  rw [← hcast.out]
  rfl

theorem free_w (hl : Blk w l (logO d L)) (h1 : L.tail ≤ L.head) (h2 : L.head ≤ 4294967295) (hn2 : L.n ≤ 2048) : Calls Tryz.prog 122 #[.pointer (some ⟨l, 0, none⟩)] w fun e w' =>
    e = .returned (.int .i64 ((L.n : Int) - ((L.head : Int) - (L.tail : Int)))) ∧ ∃ m, w' = w.drewN m := by
  have c2 := hl.cell 2
  have c6 := hl.cell 6
  have c7 := hl.cell 7
  simp at c2 c6 c7
  replace hl := hid hl
  go_enter Tryz.func122, Tryz.ntmps122
  go_upto_region 1 with fail
  go_quiet (fail)
  go_wp2
  go_ret
  exact ⟨rfl, nq, rfl⟩

theorem alive_w (hl : Blk w l (logO d L)) (h : DiskRep w d D F) : Calls Tryz.prog 157 #[.pointer (some ⟨l, 0, none⟩)] w fun e w' =>
    e = .returned (.int .i64 (aliveE D L : Nat)) ∧ ∃ m, w' = w.drewN m := by
  have c0 := hl.cell 0
  have c3 := hl.cell 3
  simp at c0 c3
  have hB := fun n => burnt_w (h.drewN n)
  have hL := fun n => life_w (h.drewN n)
  have hE : aliveE D L = if D.burnt = true ∨ D.life ≠ L.life then 3 else 0 := rfl
  cases hb : D.burnt with
  | true =>
    rw [hb] at hB hE
    rw [if_pos (.inl rfl)] at hE
    replace hl := hid hl; replace h := hid h; replace hB := hid hB; replace hL := hid hL; replace hE := hid hE
    go_enter Tryz.func157, Tryz.ntmps157
    go_upto_region 1 with fail
    go_quiet (first | (go_at_call 94; exact (hB.out _).mono (fun e w' h => ⟨h.1, _, h.2.symm⟩)) | (go_at_call 95; exact (hL.out _).mono (fun e w' h => ⟨h.1, _, h.2.symm⟩)))
    go_wp2
    exact bodyPost_ret (v := .int .i64 3) (by simp [results, Tryz.results157, go_sem]) rfl ⟨by rw [hE.out]; rfl, nq, rfl⟩
  | false =>
    rw [hb] at hB hE
    by_cases hli : D.life = L.life
    · rw [if_neg (by rintro (e | e); cases e; exact e hli)] at hE
      rw [hli] at hL
      replace hl := hid hl; replace h := hid h; replace hB := hid hB; replace hL := hid hL; replace hE := hid hE; replace hli := hid hli
      go_enter Tryz.func157, Tryz.ntmps157
      go_upto_region 1 with fail
      go_quiet (first | (go_at_call 94; exact (hB.out _).mono (fun e w' h => ⟨h.1, _, h.2.symm⟩)) | (go_at_call 95; exact (hL.out _).mono (fun e w' h => ⟨h.1, _, h.2.symm⟩)))
      go_wp2
      exact bodyPost_ret (v := .int .i64 0) (by simp [results, Tryz.results157, go_sem]) rfl ⟨by rw [hE.out]; rfl, nq, rfl⟩
    · rw [if_pos (.inr hli)] at hE
      have hne : (D.life != L.life) = true := by simp [hli]
      replace hl := hid hl; replace h := hid h; replace hB := hid hB; replace hL := hid hL; replace hE := hid hE; replace hli := hid hli
      go_enter Tryz.func157, Tryz.ntmps157
      go_upto_region 1 with fail
      go_quiet (first | (go_at_call 94; exact (hB.out _).mono (fun e w' h => ⟨h.1, _, h.2.symm⟩)) | (go_at_call 95; exact (hL.out _).mono (fun e w' h => ⟨h.1, _, h.2.symm⟩)))
      go_wp2
      exact bodyPost_ret (v := .int .i64 3) (by simp [results, Tryz.results157, go_sem]) rfl ⟨by rw [hE.out]; rfl, nq, rfl⟩

theorem ready_w (hl : Blk w l (logO d L)) (h : DiskRep w d D F) : Calls Tryz.prog 121 #[.pointer (some ⟨l, 0, none⟩)] w fun e w' =>
    e = .returned (.int .i64 (readyE D L : Nat)) ∧ ∃ m, w' = w.drewN m := by
  have hA := alive_w hl h
  have c8 := hl.cell 8
  simp at c8
  have hE : readyE D L = if aliveE D L ≠ 0 then aliveE D L else if L.started then 0 else 4 := rfl
  have hcs : aliveE D L = 3 ∨ aliveE D L = 0 := by unfold aliveE; split <;> simp
  generalize aliveE D L = a at *
  rcases hcs with rfl | rfl
  · rw [if_pos (by decide)] at hE
    replace hl := hid hl; replace h := hid h; replace hA := hid hA; replace hE := hid hE
    go_enter Tryz.func121, Tryz.ntmps121
    go_wp2_with (go_at_call 157; refine hA.out.mono ?_; rintro e w2 ⟨rfl, m, rfl⟩)
    go_ret
    exact ⟨by rw [hE.out]; rfl, m, rfl⟩
  · rw [if_neg (by decide)] at hE
    cases hs : L.started with
    | true =>
      rw [hs] at hE c8
      rw [if_pos rfl] at hE
      replace hl := hid hl; replace h := hid h; replace hA := hid hA; replace hE := hid hE
      go_enter Tryz.func121, Tryz.ntmps121
      go_wp2_with (go_at_call 157; refine hA.out.mono ?_; rintro e w2 ⟨rfl, m, rfl⟩)
      go_ret
      exact ⟨by rw [hE.out]; rfl, m, rfl⟩
    | false =>
      rw [hs] at hE c8
      rw [if_neg (by decide)] at hE
      replace hl := hid hl; replace h := hid h; replace hA := hid hA; replace hE := hid hE
      go_enter Tryz.func121, Tryz.ntmps121
      go_wp2_with (go_at_call 157; refine hA.out.mono ?_; rintro e w2 ⟨rfl, m, rfl⟩)
      go_ret
      exact ⟨by rw [hE.out]; rfl, m, rfl⟩
theorem start_w (hl : Blk w l (logO d L)) (h : DiskRep w d D F) (hlF : l ∉ F) (hb : D.burnt = false) (hli : D.life = L.life) (hs : L.started = false)
    (hf : L.first + 1 < D.n) (hn : D.n ≤ 2048) (hw : D.writes < 1099511627776) (ht : L.top + 1 < 2147483648) :
    Calls Tryz.prog 148 #[.pointer (some ⟨l, 0, none⟩)] w
      (LPost w d l F (anchorM D L.first (L.top + 1) 0).1 (anchorM D L.first (L.top + 1) 0).2 (if (anchorM D L.first (L.top + 1) 0).1 = 0 then { L with epoch := L.top + 1, tail := 0, head := 0, started := true } else L)) := by
  have hA := alive_w hl h
  have hE : aliveE D L = 0 := by unfold aliveE; rw [if_neg]; rintro (e | e); rw [hb] at e; cases e; exact e hli
  rw [hE] at hA
  have c5 := hl.cell 5
  have c8 := hl.cell 8
  simp at c5 c8
  rw [hs] at c8
  have hAn := fun m => anchor_w (w := w.drewN m) (e := L.top + 1) (t := 0) (hl.drewN m) (h.drewN m) hlF hf hn hw (by omega) ht (by omega)
  have hlw := hl.lt
  unfold LPost at *
  generalize (anchorM D L.first (L.top + 1) 0).2 = D2 at *
  generalize (anchorM D L.first (L.top + 1) 0).1 = c at *
  have hp1 : IntKind.i64.wrap ((L.top : Int) + 1) = (L.top : Int) + 1 := wrap_small (by omega) (by omega)
  have hcast : ((L.top + 1 : Nat) : Int) = ((L.top : Int) + 1) := by omega
  rw [hcast] at hAn
  by_cases hc : c = 0
  · subst hc
    rw [if_pos rfl] at hAn ⊢
    replace hl := hid hl; replace h := hid h; replace hA := hid hA; replace hE := hid hE; replace hAn := hid hAn; replace hlw := hid hlw; replace hcast := hid hcast
    go_enter Tryz.func148, Tryz.ntmps148
    go_wp2_with (first
      | (go_at_call 157; refine hA.out.mono ?_; rintro e w2 ⟨rfl, m, rfl⟩)
      | (go_at_call 156; refine (hAn.out _).mono ?_; rintro e w3 ⟨rfl, F3, hD3, hF3, hl3, k3⟩; have p7 := hl3.cell 7; have p8 := hl3.cell 8; have pf := hl3.frz; simp at p7 p8; replace hD3 := hid hD3; replace hF3 := hid hF3; replace hl3 := hid hl3; replace k3 := hid k3))
    go_ret
    refine ⟨rfl, F3, ?_, hF3.out, (hl3.out.setCell 7 (.int .i64 0)).setCell 8 (.bool true), (((Keeps.refl (fun k => k ∈ F ∨ k = l) w).drewN m).step k3.out |>.setCell (p := ⟨l, 7, none⟩) (.inl (.inr rfl)) (.int .i64 0)).setCell (p := ⟨l, 8, none⟩) (.inl (.inr rfl)) (.bool true)⟩
    refine hD3.out.keep (fun k hk => ?_)
    have hne : k ≠ l := fun e => by
      rcases hF3.out k hk with a | a
      · exact hlF (e ▸ a)
      · have := hlw.out
        have a' : w.heap.size ≤ k := a
        omega
    simp only [World.setCell, Array.getElem?_modify]
    rw [if_neg (by omega), if_neg (by omega)]
  · rw [if_neg hc] at hAn ⊢
    have hci : ((c : Int) != 0) = true := by simp; omega
    replace hl := hid hl; replace h := hid h; replace hA := hid hA; replace hE := hid hE; replace hAn := hid hAn; replace hlw := hid hlw; replace hcast := hid hcast; replace hc := hid hc
    go_enter Tryz.func148, Tryz.ntmps148
    go_wp2_with (first
      | (go_at_call 157; refine hA.out.mono ?_; rintro e w2 ⟨rfl, m, rfl⟩)
      | (go_at_call 156; refine (hAn.out _).mono ?_; rintro e w3 ⟨rfl, F3, hD3, hF3, hl3, k3⟩; replace hD3 := hid hD3; replace hF3 := hid hF3; replace hl3 := hid hl3; replace k3 := hid k3))
    go_ret
    exact ⟨rfl, F3, hD3.out, hF3.out, hl3.out, ((Keeps.refl (fun k => k ∈ F ∨ k = l) w).drewN m).step k3.out⟩
end
end Go.Vk

namespace Go.Vk
open Go.RowKit Go.Proofs

theorem i64_or_low (v x : Nat) (hx : x < 256) (hv : v < 281474976710656) : bits .or .i64 ((v : Int) * 256) (x : Int) = ((x + 256 * v : Nat) : Int) := by
  have := (bits_nat .i64 62 (by decide) (fun n a b => wrap_small (by omega) (by omega)) (v * 256) x (by omega) (by omega)).2
  rw [or_low v x hx] at this
  have hm : ((v * 256 : Nat) : Int) = (v : Int) * 256 := by omega
  rwa [hm] at this

theorem wal_number_w (w : World) (g off len cap : Nat) (T : TypeId) (src : List UInt8) (hg : Blk w g (bytesT T src)) (n : Nat) (hn : n ≤ 7) (hnl : n ≤ len) (hlen : off + len ≤ src.length) (hl : len ≤ 1048576) :
    Calls Tryz.prog 209 #[.slice (some ⟨g, off, none⟩) len cap, .int .i64 n] w fun e w' => e = .returned (.int .i64 (leVal ((src.drop off).take n) : Nat)) ∧ w' = w := by
  have hS : ((src.drop off).take n).length = n := by rw [List.length_take, List.length_drop]; omega
  have hcell : ∀ m (hm : m < n), w.cell? ⟨g, off + m, none⟩ = some (.int .u8 (((src.drop off).take n).getD m 0).toNat) := fun m hm => by
    rw [List.getD_eq_getElem?_getD, List.getElem?_take, if_pos hm, List.getElem?_drop, List.getElem?_eq_getElem (by omega), Option.getD_some]
    exact bytesT_cell hg (off + m) (by omega)
  generalize (src.drop off).take n = S at hS hcell ⊢
  clear hg
  have hlen' : (n : Int) ≤ (len : Int) := by omega
  replace hS := hid hS; replace hcell := hid hcell
  go_enter Tryz.func209, Tryz.ntmps209
  go_wp2
  go_loop [5, 6] (fun v i => ∃ j : Nat, j ≤ n ∧ i = .int .i64 ((j : Int) - 1) ∧ v = .int .i64 (leVal (S.drop j) : Nat)) (fun _ i => (intOf i + 1).toNat)
  case atStart => exact ⟨n, by omega, by go_num, by rw [List.drop_of_length_le (by rw [hS.out]; omega)]; rfl⟩
  case round =>
    obtain ⟨j, hj, rfl, rfl⟩ := hrel
    cases j with
    | zero =>
      rw [List.drop_zero]
      go_wp2
      go_ret
      exact ⟨rfl, rfl⟩
    | succ m =>
      have e1 : ((m + 1 : Nat) : Int) - 1 = (m : Int) := by omega
      rw [e1]
      have hc := hcell.out m (by omega)
      have hv : leVal (S.drop m) = (S.getD m 0).toNat + 256 * leVal (S.drop (m + 1)) := by
        have hm : m < S.length := by rw [hS.out]; omega
        rw [List.drop_eq_getElem_cons hm, List.getD_eq_getElem?_getD, List.getElem?_eq_getElem hm]; rfl
      have hlt := leVal_lt (S.drop (m + 1))
      have hlt2 : leVal (S.drop (m + 1)) < 2 ^ 48 := Nat.lt_of_lt_of_le hlt (Nat.pow_le_pow_right (by decide) (by rw [List.length_drop, hS.out]; omega))
      have hx : (S.getD m 0).toNat < 256 := (S.getD m 0).toNat_lt
      replace hlt2 : leVal (S.drop (m + 1)) < 281474976710656 := hlt2
      clear hlt e1
      generalize (S.getD m 0).toNat = x at hc hv hx
      generalize hv2 : leVal (S.drop (m + 1)) = v at hv hlt2 ⊢
      have hor : bits .or .i64 ((v : Int) * 256) (x : Int) = (leVal (S.drop m) : Nat) := by
        rw [hv]; exact i64_or_low v x hx hlt2
      generalize hv3 : leVal (S.drop m) = v3 at hor
      have hm1 : (m : Int) < (len : Int) := by omega
      replace hv := hid hv; replace hv2 := hid hv2; replace hv3 := hid hv3
      go_wp2
      exact ⟨⟨m, by omega, rfl, by rw [hv3.out]⟩, by simp [intOf]⟩
end Go.Vk

namespace Go.Vk
open Go.RowKit Go.Proofs

/-- Zeros into c sectors from that one on: the error's number and the disk. -/
def DM.zeroRun : DM → Nat → Nat → Nat × DM
  | D, _, 0 => (0, D)
  | D, at_, c + 1 => if D.burnt then (3, D) else DM.zeroRun (D.wrote at_ (zeros 512)).spent (at_ + 1) c
def walFormatM (D : DM) (f n : Nat) : Nat × DM :=
  if D.burnt then (3, D) else okThen (okThen (D.took.zeroRun f (n + 2)) DM.fl) fun D' => anchorM D' f 1 0

theorem spent_n (D : DM) : D.spent.n = D.n := by unfold DM.spent; split <;> rfl
theorem spent_writes (D : DM) : D.spent.writes = D.writes := by unfold DM.spent; split <;> rfl
theorem wr_n (D : DM) (k : Nat) (bs : List UInt8) : (D.wrote k bs).spent.n = D.n := spent_n _
theorem wr_writes (D : DM) (k : Nat) (bs : List UInt8) : (D.wrote k bs).spent.writes = D.writes + 1 := spent_writes _
theorem DiskRep.flushed_n {w : World} {d : Nat} {D : DM} {F : List Nat} (h : DiskRep w d D F) : D.flushed.n = D.n := by
  unfold DM.flushed
  rw [spent_n]
  have hl := length_secs (n := D.n) (f := D.now) (fun k hk => h.now_length k hk)
  show (secs D.n D.now).length / 512 = D.n
  rw [hl]; omega
theorem flushed_writes (D : DM) : D.flushed.writes = D.writes := spent_writes _
theorem zeroRun_step (D : DM) (a c : Nat) (h : D.burnt = false) : D.zeroRun a (c + 1) = DM.zeroRun (D.wrote a (zeros 512)).spent (a + 1) c := by
  show (if D.burnt = true then (3, D) else _) = _
  rw [h, if_neg (by decide)]
theorem zeroRun_dead (D : DM) (a c : Nat) (h : D.burnt = true) : D.zeroRun a (c + 1) = (3, D) := by
  show (if D.burnt = true then (3, D) else _) = _
  rw [h, if_pos rfl]

/-- Where a disk lies that lay in F: in F, or in what is new. -/
structure DAt (w : World) (d : Nat) (F : List Nat) (D' : DM) (F' : List Nat) (w' : World) : Prop where
  rep : DiskRep w' d D' F'
  sub : ∀ k ∈ F', k ∈ F ∨ w.heap.size ≤ k
  keeps : Keeps (· ∈ F) w w'
theorem DAt.refl {w : World} {d : Nat} {D : DM} {F : List Nat} (h : DiskRep w d D F) : DAt w d F D F w := ⟨h, fun _ hk => .inl hk, .refl _ _⟩
theorem DAt.post {w w' : World} {d : Nat} {D : DM} {F F' : List Nat} (h : DAt w d F D F' w') : DPost w d F D w' := ⟨F', h.rep, h.keeps, h.sub⟩
theorem DAt.trans {w w1 w2 : World} {d : Nat} {D1 D2 : DM} {F F1 F2 : List Nat} (h : DAt w d F D1 F1 w1) (k : DAt w1 d F1 D2 F2 w2) : DAt w d F D2 F2 w2 :=
  ⟨k.rep, fun i hi => by
    rcases k.sub i hi with a | a
    · exact h.sub i a
    · exact .inr (Nat.le_trans h.keeps.size a),
   h.keeps.trans k.keeps (fun i hi f => by
    rcases h.sub i f with a | a
    · exact a
    · omega)⟩
theorem DAt.of {w w' : World} {d : Nat} {D' : DM} {F : List Nat} (h : DPost w d F D' w') : ∃ F', DAt w d F D' F' w' := by
  obtain ⟨F', h1, h2, h3⟩ := h
  exact ⟨F', h1, h3, h2⟩
theorem DAt.out_of {w w' : World} {d : Nat} {D' : DM} {F F' : List Nat} (h : DAt w d F D' F' w') {k : Nat} (hk : k ∉ F) (hlt : k < w.heap.size) : k ∉ F' := fun hm => by
  rcases h.sub k hm with a | a
  · exact hk a
  · omega
theorem DAt.blk {w w' : World} {d : Nat} {D' : DM} {F F' : List Nat} (h : DAt w d F D' F' w') {b : Nat} {o : Obj} (hb : Blk w b o) (hf : b ∉ F) : Blk w' b o := h.keeps.blk hb hf
/-- What else is kept behind it. -/
theorem DAt.step {w w1 w2 : World} {d : Nat} {D1 : DM} {F F1 : List Nat} {G : Nat → Prop} (h : DAt w d F D1 F1 w1) (k : Keeps G w1 w2) (hG : ∀ i ∈ F1, ¬ G i) (hG2 : ∀ i, i < w.heap.size → G i → False) : DAt w d F D1 F1 w2 :=
  ⟨h.rep.keeps k hG, h.sub, h.keeps.trans k (fun i hi g => (hG2 i hi g).elim)⟩

section
variable {w : World} {d : Nat} {D : DM} {F : List Nat}
set_option maxHeartbeats 1000000 in
theorem walFormat_w (h : DiskRep w d D F) (f n : Nat) (h1 : 18 ≤ n) (h2 : n ≤ 256) (h3 : f + 2 + n ≤ D.n) (h4 : D.n ≤ 2048) (hw : D.writes < 1099511620000) :
    Calls Tryz.prog 115 #[.pointer (some ⟨d, 0, none⟩), .int .i64 f, .int .i64 n] w fun e w' =>
      e = .returned (.int .i64 ((walFormatM D f n).1 : Nat)) ∧ DPost w d F (walFormatM D f n).2 w' := by
  have hM : walFormatM D f n = if D.burnt then (3, D) else okThen (okThen (D.took.zeroRun f (n + 2)) DM.fl) fun D' => anchorM D' f 1 0 := rfl
  cases hb : D.burnt with
  | true =>
    rw [hb, if_pos rfl] at hM
    rw [hM]
    have hp := place_dead h hb f n
    replace h := hid h; replace hp := hid hp; replace hM := hid hM
    go_enter Tryz.func115, Tryz.ntmps115
    go_wp2_with (go_at_call 155; refine hp.out.mono ?_; rintro e w2 ⟨rfl, rfl⟩)
    go_ret
    exact ⟨rfl, DPost.refl h.out⟩
  | false =>
    rw [hb, if_neg (by decide)] at hM
    rw [hM]
    clear hM
    have hp := place_ok h hb f n h1 h2 h3 h4
    have hT := take_w h
    have hmk := mk512
    have hlife : wrap64 (D.life + 1) = D.took.life := rfl
    have hbt : D.took.burnt = false := hb
    have hnt : D.took.n = D.n := rfl
    have hwt : D.took.writes = D.writes := rfl
    rw [hlife] at hT
    generalize D.took = D1 at *
    have hlt := h.lt
    have hX : ∀ W c D', c = (okThen (okThen (D1.zeroRun f (n + 2)) DM.fl) fun D' => anchorM D' f 1 0).1 → D' = (okThen (okThen (D1.zeroRun f (n + 2)) DM.fl) fun D' => anchorM D' f 1 0).2 → DPost w d F D' W →
      (Ending.returned (.int .i64 (c : Nat)) = .returned (.int .i64 ((okThen (okThen (D1.zeroRun f (n + 2)) DM.fl) fun D' => anchorM D' f 1 0).1 : Nat)) ∧ DPost w d F (okThen (okThen (D1.zeroRun f (n + 2)) DM.fl) fun D' => anchorM D' f 1 0).2 W) := by
      rintro W c D' rfl rfl h
      exact ⟨rfl, h⟩
    generalize hx : (okThen (okThen (D1.zeroRun f (n + 2)) DM.fl) fun D' => anchorM D' f 1 0) = x at *
    replace h := hid h; replace hp := hid hp; replace hT := hid hT; replace hbt := hid hbt; replace hnt := hid hnt; replace hwt := hid hwt; replace hlife := hid hlife; replace hlt := hid hlt; replace hX := hid hX; replace hx := hid hx; replace hb := hid hb
    go_enter Tryz.func115, Tryz.ntmps115
    go_upto_region 5 with (first
      | (go_at_call 155; refine hp.out.mono ?_; rintro e w2 ⟨rfl, rfl⟩)
      | (go_at_call 108; refine hT.out.mono ?_; rintro e w2 ⟨rfl, hD2, k2⟩; replace hD2 := hid hD2; replace k2 := hid k2))
    have hL4 := (Blk.new w2 (logO d ⟨f, n, D1.life, 0, 0, 0, 0, false⟩)).alloc (bytesO (zeros 512))
    have hZ4 := Blk.new (w2.alloc (logO d ⟨f, n, D1.life, 0, 0, 0, 0, false⟩)) (bytesO (zeros 512))
    rw [World.size_alloc] at hZ4
    have hA4 : DAt w d F D1 F ((w2.alloc (logO d ⟨f, n, D1.life, 0, 0, 0, 0, false⟩)).alloc (bytesO (zeros 512))) :=
      ⟨(hD2.out.keeps (((Keeps.refl (fun _ => False) w2).alloc (logO d ⟨f, n, D1.life, 0, 0, 0, 0, false⟩)).alloc (bytesO (zeros 512))) (fun _ _ f => f)), fun _ hk => .inl hk, (k2.out.alloc _).alloc _⟩
    have hlF : w2.heap.size ∉ F := fun hm => by have := hlt.out _ hm; have := k2.out.size; omega
    have hzF : w2.heap.size + 1 ∉ F := fun hm => by have := hlt.out _ hm; have := k2.out.size; omega
    have hge : w.heap.size ≤ w2.heap.size := k2.out.size
    have h5 : DAt w d F D1 F _ ∧ _ ∧ _ := ⟨hA4, hL4, hZ4⟩
    clear hA4 hL4 hZ4 hD2 k2
    replace h5 := hid h5; replace hlF := hid hlF; replace hzF := hid hzF; replace hge := hid hge
    go_upto_region 6 with fail
    refine wp_gen (fun W => DAt w d F D1 F W ∧ Blk W w2.heap.size (logO d ⟨f, n, D1.life, 0, 0, 0, 0, false⟩) ∧ Blk W (w2.heap.size + 1) (bytesO (zeros 512))) h5.out ?_
    clear h5
    rintro w5 ⟨hA, hl, hz⟩
    have hlne : w2.heap.size ≠ w2.heap.size + 1 := by omega
    have hge2 : w.heap.size ≤ w2.heap.size + 1 := by have := hge.out; omega
    generalize hzz : w2.heap.size + 1 = z at *
    generalize w2.heap.size = l at *
    clear hzz
    clear w2
    replace hA := hid hA; replace hl := hid hl; replace hz := hid hz; replace hlne := hid hlne; replace hge2 := hid hge2
    go_wp2
    go_loopw [10] (fun i wr => ∃ (k : Nat) (Dk : DM) (Fk : List Nat), k ≤ n + 2 ∧ i = .int .i64 (f + k : Nat) ∧ Dk.zeroRun (f + k) (n + 2 - k) = D1.zeroRun f (n + 2) ∧ Dk.n = D.n ∧ Dk.writes = D.writes + k ∧ DAt w d F Dk Fk wr ∧ Blk wr l (logO d ⟨f, n, D1.life, 0, 0, 0, 0, false⟩) ∧ Blk wr z (bytesO (zeros 512)) ∧ l ∉ Fk ∧ z ∉ Fk) (fun i _ => (f + n + 2) - (intOf i).toNat)
    case atStart => exact ⟨0, D1, F, by omega, rfl, rfl, hnt.out, hwt.out, hA.out, hl.out, hz.out, hlF.out, hzF.out⟩
    case round =>
      obtain ⟨k, Dk, Fk, hk, rfl, hrun, hnk, hwk, hA7, hl7, hz7, hlF7, hzF7⟩ := hrel
      clear hA hl hz
      have hcast : ((f + k : Nat) : Int) = (f : Int) + (k : Int) := by omega
      by_cases hlk : k < n + 2
      · obtain ⟨c, hc⟩ : ∃ c, n + 2 - k = c + 1 := ⟨n + 2 - k - 1, by omega⟩
        rw [hc] at hrun
        cases hbk : Dk.burnt with
        | true =>
          rw [zeroRun_dead _ _ _ hbk] at hrun
          have hXX := hX.out wr 3 Dk (by rw [← hx.out, ← hrun]; rfl) (by rw [← hx.out, ← hrun]; rfl) hA7.post
          have hW := write_dead hA7.rep hbk ((f + k : Nat) : Int) (.slice (some ⟨z, 0, none⟩) 512 512)
          replace hrun := hid hrun; replace hA7 := hid hA7; replace hl7 := hid hl7; replace hz7 := hid hz7; replace hW := hid hW; replace hXX := hid hXX; replace hcast := hid hcast
          go_wp2_with (go_at_call 110; refine hW.out.mono ?_; rintro e w8 ⟨rfl, rfl⟩)
          go_ret
          exact hXX.out
        | false =>
          rw [zeroRun_step _ _ _ hbk] at hrun
          have hW := write_ok hA7.rep hbk ((f + k : Nat) : Int) (by omega) (by rw [hnk]; omega) (by omega) z 0 512 5 (zeros 512) hz7 (by rw [length_zeros]; decide)
          rw [List.drop_zero, List.take_of_length_le (by rw [length_zeros]; decide), Int.toNat_natCast] at hW
          replace hrun := hid hrun; replace hA7 := hid hA7; replace hl7 := hid hl7; replace hz7 := hid hz7; replace hW := hid hW; replace hcast := hid hcast
          go_wp2_with (go_at_call 110; refine hW.out.mono ?_; rintro e w8 ⟨rfl, hp8⟩; replace hp8 := hid hp8)
          obtain ⟨F8, hA8⟩ := DAt.of hp8.out
          have hll := hl7.out.lt
          have hzl := hz7.out.lt
          refine ⟨⟨k + 1, (Dk.wrote (f + k) (zeros 512)).spent, F8, by omega, by go_num, ?_, by rw [wr_n]; exact hnk, by rw [wr_writes]; omega, hA7.out.trans hA8, hA8.blk hl7.out hlF7, hA8.blk hz7.out hzF7, hA8.out_of hlF7 hll, hA8.out_of hzF7 hzl⟩, ?_⟩
          · rw [← hrun.out, show n + 2 - (k + 1) = c by omega]; rfl
          · simp [intOf]; omega
      · obtain rfl : k = n + 2 := by omega
        rw [Nat.sub_self] at hrun
        have hrun' : D1.zeroRun f (n + 2) = (0, Dk) := hrun.symm
        have hxe : x = okThen Dk.fl fun D' => anchorM D' f 1 0 := by rw [← hx.out, hrun']; rfl
        have hfl : Dk.fl = if Dk.burnt then (3, Dk) else (0, Dk.flushed) := rfl
        clear hcast
        cases hbk : Dk.burnt with
        | true =>
          have hfd := flush_dead hA7.rep hbk
          rw [hbk, if_pos rfl] at hfl
          have hxx : x = (3, Dk) := by rw [hxe, hfl]; rfl
          have hXX := hX.out wr 3 Dk (by rw [hxx]) (by rw [hxx]) hA7.post
          replace hrun := hid hrun; replace hA7 := hid hA7; replace hl7 := hid hl7; replace hz7 := hid hz7; replace hfd := hid hfd; replace hXX := hid hXX; replace hfl := hid hfl; replace hrun' := hid hrun'; replace hxe := hid hxe; replace hxx := hid hxx
          go_wp2_with (go_at_call 111; refine hfd.out.mono ?_; rintro e w8 ⟨rfl, rfl⟩)
          go_ret
          exact hXX.out
        | false =>
          have hfd := flush_ok hA7.rep hbk
          rw [hbk, if_neg (by decide)] at hfl
          have hxx : x = anchorM Dk.flushed f 1 0 := by rw [hxe, hfl]; rfl
          have hn9 := hA7.rep.flushed_n
          have hw9 := flushed_writes Dk
          replace hrun := hid hrun; replace hA7 := hid hA7; replace hl7 := hid hl7; replace hz7 := hid hz7; replace hfd := hid hfd; replace hfl := hid hfl; replace hrun' := hid hrun'; replace hxe := hid hxe; replace hxx := hid hxx; replace hn9 := hid hn9; replace hw9 := hid hw9
          go_upto_region 15 with (go_at_call 111; refine hfd.out.mono ?_; rintro e w8 ⟨rfl, hp8⟩; replace hp8 := hid hp8)
          obtain ⟨F8, hA8⟩ := DAt.of hp8.out
          have hl8 := hA8.blk hl7.out hlF7
          have hlF8 := hA8.out_of hlF7 hl7.out.lt
          have hAn := anchor_w hl8 hA8.rep hlF8 (by show f + 1 < _; rw [hn9.out, hnk]; omega) (by rw [hn9.out, hnk]; exact h4) (by rw [hw9.out]; omega) 1 0 (by decide) (by decide) (by decide)
          unfold LPost at hAn
          dsimp only at hAn
          rw [← hxx.out] at hAn
          have hA78 := hA7.out.trans hA8
          replace hA8 := hid hA8; replace hl8 := hid hl8; replace hAn := hid hAn; replace hA78 := hid hA78
          go_wp2_with (go_at_call 156; refine hAn.out.mono ?_; rintro e w9 ⟨rfl, F9, hD9, hF9, hl9, k9⟩; replace hD9 := hid hD9; replace hF9 := hid hF9; replace hl9 := hid hl9; replace k9 := hid k9)
          go_ret
          refine hX.out w9 x.1 x.2 rfl rfl ⟨F9, hD9.out, hA78.out.keeps.trans k9.out (fun i hi g => ?_), fun k hk => ?_⟩
          · rcases g with g | g
            · rcases hA78.out.sub i g with a | a
              · exact a
              · omega
            · have := hge.out; omega
          · rcases hF9.out k hk with a | a
            · exact hA78.out.sub k a
            · exact .inr (Nat.le_trans hA78.out.keeps.size a)
end
end Go.Vk
