/- The walk of the reference pool's Abort, of a transaction that is open. The walks of the reference pool's Write onto a block behind the bitmaps, and of Spoil. The walk of the reference pool's Write onto a block behind the bitmaps. The walk of Clear of package pool, where its second put is refused. Clear, whichever put is refused; Spoil by any number. -/
import Derived.Test.YtceodjgajkimnaaGreatMU
import Derived.Test.YtceodjgajkimnaaGreatMJ
import Derived.Test.YtceodjgajkimnaaGreatMS
import Derived.Laws.IdiomStrings
set_option linter.unusedVariables false

namespace Go.Vk
open Go.RowKit Go.Proofs

section
variable {w : World} {m : Nat} {R : RP} {Z : Nat → Prop}
theorem rabort_w (h : RefRep w m R Z) (hd : R.dead = false) (ho : R.op = true) : Calls Tryz.prog 169 #[.pointer (some ⟨m, 0, none⟩)] w fun e w' => e = .returned (.int .i64 0) ∧ RStep w w' m { R with op := false } Z := by
  obtain ⟨V, hV⟩ := h
  have hm := hV.hm
  unfold refO at hm
  have c11 := hm.cell 11
  have c12 := hm.cell 12
  simp at c11 c12
  rw [ho] at c11
  rw [hd] at c12
  have f11 := hm.frz 11
  have hk : Keeps (· = m) w (w.setCell ⟨m, 11, none⟩ (.bool false)) := (Keeps.refl (· = m) w).setCell (p := ⟨m, 11, none⟩) (.inl rfl) _
  have h2 := hV.flag hk R.sp false R.dead (fun e => by cases e) (by
    have := hm.setCell 11 (.bool false)
    simpa [refO] using this)
  have hS : RStep w (w.setCell ⟨m, 11, none⟩ (.bool false)) m { R with op := false } Z := ⟨⟨V, h2.up fun i hi => .inl hi⟩, hk.mono fun i _ e => by rw [e]; exact hV.zm⟩
  have hz := hV.zm
  generalize hR' : ({ R with op := false } : RP) = R' at *
  clear h2 hk hV
  replace hm := hid hm; replace hd := hid hd; replace ho := hid ho; replace hS := hid hS; replace hz := hid hz; replace hR' := hid hR'
  go_enter Tryz.func169, Tryz.ntmps169
  go_wp2
  go_ret
  exact ⟨rfl, hS.out⟩
end
end Go.Vk

namespace Go.Vk
open Go.RowKit Go.Proofs

theorem byteRow_of {w : World} {g n k : Nat} {data rest : List UInt8} (h : Blk w g (bytesO (data ++ rest))) (hl : data.length = n) (hr : rest.length = k) (hm : n + k ≤ maxLen) : ByteRow w 0 (.slice (some ⟨g, 0, none⟩) n (n + k)) data := by
  subst hl hr
  unfold ByteRow
  refine ⟨by simp, .inr ⟨g, data.length + rest.length, ((data ++ rest).map B).toArray, rfl, Nat.zero_le _, h, by omega, hm, by simp, ?_⟩⟩
  simp [List.map_append, List.take_append, B]
section
variable {w w' : World} {m : Nat} {R : RP} {V : RefV} {Z Z' : Nat → Prop}
/-- Another row of bytes for a block. -/
theorem RefAt.setR (h : RefAt w m R V Z) (hop : R.op = true) {gR cR : Nat} (eR : V.R = .slice (some ⟨gR, 0, none⟩) R.raw.length cR) (b : Nat) (hb : b < R.raw.length) (v : Value) (data : List UInt8) (hv : ByteRow w 0 v data) (hl : data.length = 512) (hz : InZ Z v) :
    RefAt (w.setCell ⟨gR, b, none⟩ v) m { R with raw := R.raw.set b data } { V with uR := V.uR.set b v } Z := by
  have k : Keeps (· = gR) w (w.setCell ⟨gR, b, none⟩ v) := (Keeps.refl (· = gR) w).setCell (p := ⟨gR, b, none⟩) (.inl rfl) v
  have hown : V.R.ownBlock = some gR := by rw [eR]; rfl
  have hno : ∀ {e size n : Nat} {y : Value} {xs : List Value}, w.ownsRow 0 e size y n xs → e ≠ 57 → ∀ g, y.ownBlock = some g → ¬ (g = gR) := fun hy h2 g e f => own_ne2 hy h.rr.1 h2 e (f ▸ hown)
  have hrow := h.rr.1
  rw [eR] at hrow
  have hst := (World.ownsRow.stored (g := gR) hrow b v).1
  rw [← eR] at hst
  have hus := h.rr.2.1
  exact
  { hm := k.blk h.hm (fun f => own_ne h.rr.1 h.hm (by decide) (f ▸ hown))
    ob := own_far k h.ob (hno h.ob (by decide))
    on := own_far k h.on (hno h.on (by decide))
    nb := own_far k h.nb (hno h.nb (by decide))
    nn := own_far k h.nn (hno h.nn (by decide))
    orr := h.orr.far k (fun g e f => h.d3 hop gR hown (f ▸ e)) (fun u hu => by obtain ⟨l, hl⟩ := h.orr.each hu; exact hno hl (by decide))
    rr := by
      refine ⟨by rw [List.length_set]; exact hst, by rw [List.length_set, List.length_set]; exact hus, fun i hi u hu => ?_⟩
      have hi' : i < R.raw.length := by
        have hi2 := hi
        rw [List.length_set] at hi2
        exact hi2
      rw [List.getElem?_set] at hu
      by_cases e : b = i
      · subst e
        rw [if_pos rfl] at hu
        rw [if_pos (by rw [hus]; exact hi')] at hu
        cases hu
        have : (R.raw.set b data)[b] = data := by simp
        show ByteRow _ 0 v (R.raw.set b data)[b]
        rw [this]
        exact own_far k hv (hno hv (by decide))
      · rw [if_neg e] at hu
        have hrow := h.rr.2.2 i hi' u hu
        have : (R.raw.set b data)[i] = R.raw[i] := by rw [List.getElem_set_ne e]
        show ByteRow _ 0 u (R.raw.set b data)[i]
        rw [this]
        exact own_far k hrow (hno hrow (by decide))
    pr := own_far k h.pr (hno h.pr (by decide))
    zm := h.zm, zob := h.zob, zon := h.zon, znb := h.znb, znn := h.znn, zor := h.zor, zr := h.zr, zp := h.zp, zuO := h.zuO
    zuR := fun u hu => by
      rcases List.mem_or_eq_of_mem_set hu with x | x
      · exact h.zuR u x
      · exact x ▸ hz
    lb := h.lb, d1 := h.d1, d2 := h.d2, d3 := h.d3
    lr := ⟨h.lr.1, by rw [List.length_set]; exact h.lr.2⟩
    l5 := ⟨h.l5.1, fun l hl' => (List.mem_or_eq_of_mem_set hl').elim (h.l5.2 l) (fun e => e ▸ hl)⟩ }
/-- Spoil. -/
def spoils (n : Int) : Prop := n = 6 ∨ n = 50 ∨ n = 60 ∨ n = 61
instance (n : Int) : Decidable (spoils n) := inferInstanceAs (Decidable (_ ∨ _))
def RP.spoilE (R : RP) (n : Int) : Nat := if R.state = 0 then (if spoils n then n.toNat else 1) else R.state
def RP.spoil (R : RP) (n : Int) : RP := if R.state = 0 then (if spoils n then { R with sp := n.toNat } else R) else R
set_option maxHeartbeats 1000000 in
theorem rspoil_w (h : RefRep w m R Z) (n : Int) : Calls Tryz.prog 134 #[.pointer (some ⟨m, 0, none⟩), .int .i64 n] w fun e w' => e = .returned (.int .i64 (R.spoilE n : Nat)) ∧ RStep w w' m (R.spoil n) Z := by
  have hS := rstate_w h
  have hq := RStep.quiet h (Keeps.refl _ w)
  unfold RP.spoilE RP.spoil
  by_cases hs : R.state = 0
  · rw [if_pos hs, if_pos hs]
    rw [hs] at hS
    by_cases hsp : spoils n
    · rw [if_pos hsp, if_pos hsp]
      obtain ⟨V, hV⟩ := h
      have hm := hV.hm
      unfold refO at hm
      have f10 := hm.frz 10
      have c10 := hm.cell 10
      simp at c10
      obtain ⟨k, hk⟩ : ∃ k : Nat, n = k := ⟨n.toNat, by unfold spoils at hsp; omega⟩
      have hkk : Keeps (· = m) w (w.setCell ⟨m, 10, none⟩ (.int .i64 k)) := (Keeps.refl (· = m) w).setCell (p := ⟨m, 10, none⟩) (.inl rfl) _
      have h2 := hV.flag hkk k R.op R.dead (fun e => e) (by
        have := hm.setCell 10 (.int .i64 k)
        simpa [refO] using this)
      have hR : RStep w (w.setCell ⟨m, 10, none⟩ (.int .i64 k)) m { R with sp := k } Z := ⟨⟨V, h2.up fun i hi => .inl hi⟩, hkk.mono fun i _ e => by rw [e]; exact hV.zm⟩
      subst hk
      rw [Int.toNat_natCast]
      generalize ({ R with sp := k } : RP) = R' at *
      clear h2 hkk hV hq
      unfold spoils at hsp
      rcases hsp with hx | hx | hx | hx
      all_goals
        obtain rfl : k = _ := Int.ofNat_inj.1 hx
        replace hm := hid hm; replace hS := hid hS; replace hs := hid hs; replace hR := hid hR; replace hx := hid hx
        go_enter Tryz.func134, Tryz.ntmps134
        go_wp2_with (go_at_call 126; refine hS.out.mono ?_; rintro e w1 ⟨rfl, rfl⟩)
        go_ret
        exact ⟨rfl, hR.out⟩
    · rw [if_neg hsp, if_neg hsp]
      unfold spoils at hsp
      have n1 : ¬ n = 6 := fun e => hsp (.inl e)
      have n2 : ¬ n = 50 := fun e => hsp (.inr (.inl e))
      have n3 : ¬ n = 60 := fun e => hsp (.inr (.inr (.inl e)))
      have n4 : ¬ n = 61 := fun e => hsp (.inr (.inr (.inr e)))
      have b1 : (n != 6) = true := by simp [n1]
      have b2 : (n != 50) = true := by simp [n2]
      have b3 : (n != 60) = true := by simp [n3]
      have b4 : (n != 61) = true := by simp [n4]
      clear hsp
      replace h := hid h; replace hS := hid hS; replace hq := hid hq; replace hs := hid hs
      go_enter Tryz.func134, Tryz.ntmps134
      go_wp2_with (go_at_call 126; refine hS.out.mono ?_; rintro e w1 ⟨rfl, rfl⟩)
      go_ret
      exact ⟨rfl, hq.out⟩
  · rw [if_neg hs, if_neg hs]
    have hsi : ¬ (R.state : Int) = 0 := by omega
    generalize R.state = s at *
    replace h := hid h; replace hS := hid hS; replace hq := hid hq; replace hs := hid hs
    go_enter Tryz.func134, Tryz.ntmps134
    go_wp2_with (go_at_call 126; refine hS.out.mono ?_; rintro e w1 ⟨rfl, rfl⟩)
    go_ret
    exact ⟨rfl, hq.out⟩
end
end Go.Vk

namespace Go.Vk
open Go.RowKit Go.Proofs

theorem undBytes' : (Tryz.prog).underlying 57 = some (.slice 5) := Tryz.underlying57
theorem undByte' : (Tryz.prog).underlying 5 = some (.int .u8) := Tryz.underlying5
theorem undStr' : (Tryz.prog).underlying 9 = some .string := Tryz.underlying9
theorem addrAdd (g j : Nat) : (⟨g, 0, none⟩ : Addr).add j = ⟨g, j, none⟩ := by unfold Addr.add; split <;> simp_all
def RP.writeOE (R : RP) (b : Nat) (data : List UInt8) : Nat := if R.state = 0 then (if R.raw[b]? = some data then 0 else R.putsE b) else R.state
def RP.writeO (R : RP) (b : Nat) (data : List UInt8) : RP := if R.state = 0 then (if R.raw[b]? = some data then R else if R.putsE b = 0 then { R.puts b with raw := (R.puts b).raw.set b data } else R.puts b) else R
theorem puts_raw (R : RP) (b : Nat) : (R.puts b).raw = R.raw ∧ (R.puts b).op = R.op := by
  unfold RP.puts
  repeat' split
  all_goals exact ⟨rfl, rfl⟩
section
variable {w0 w w' : World} {m : Nat} {R : RP} {V : RefV} {Z Z' : Nat → Prop}
set_option maxRecDepth 100000 in
set_option maxHeartbeats 2000000 in
theorem rwriteO_w (h0 : RefRep w0 m R Z) (hlt : ∀ i, Z i → i < w0.heap.size) (hput : R.put.length ≤ 16) (k0 : Keeps (fun _ => False) w0 w) (b : Nat) (h2 : 2 ≤ b) (hb : b < R.raw.length) (data rest : List UInt8) (hl : data.length = 512) (g kk : Nat) (hB : Blk w g (bytesO (data ++ rest))) (hr : rest.length = kk) (hm : 512 + kk ≤ maxLen) (hg : w0.heap.size ≤ g) :
    Calls Tryz.prog 171 #[.pointer (some ⟨m, 0, none⟩), .int .i64 b, .slice (some ⟨g, 0, none⟩) 512 (512 + kk)] w fun e w' => e = .returned (.int .i64 (R.writeOE b data : Nat)) ∧ RStep w0 w' m (R.writeO b data) Z := by
  have h := h0.keeps k0 (fun _ _ f => f)
  have hS := rstate_w h
  have hq : ∀ n, RStep w0 (w.drewN n) m R Z := fun n => RStep.quiet h0 (k0.step ((Keeps.refl _ _).drewN n))
  unfold RP.writeOE RP.writeO
  by_cases hs : R.state = 0
  · rw [if_pos hs, if_pos hs]
    rw [hs] at hS
    have hop : R.op = true := by
      unfold RP.state at hs
      split at hs
      · cases hs
      · cases ho : R.op
        · rw [ho] at hs; simp at hs
        · rfl
    obtain ⟨V, hV⟩ := h
    have hm0 := hV.hm
    unfold refO at hm0
    have c8 := hm0.cell 8
    simp at c8
    have hrr := hV.rr
    obtain ⟨hr1, hr2, hr3⟩ := hrr
    obtain ⟨gR, cR, eR, _, _⟩ := own_form hr1 (by omega)
    rw [eR] at c8 hr1
    have hbu : b < V.uR.length := by omega
    have hrow := hr3 b hb V.uR[b] (List.getElem?_eq_getElem hbu)
    have hl5 := hV.l5.2 R.raw[b] (List.getElem_mem _)
    obtain ⟨gu, cu, eu, _, _⟩ := own_form hrow (by omega)
    rw [eu] at hrow
    have cb := own_cell hr1 b V.uR[b] (List.getElem?_eq_getElem hbu)
    rw [eu, hl5] at cb
    have hcu : ∀ j (hj : j < R.raw[b].length), w.cell? ⟨gu, j, none⟩ = some (.int .u8 (R.raw[b][j].toNat : Nat)) := fun j hj => own_cell hrow j _ (by rw [List.getElem?_map, List.getElem?_eq_getElem hj]; rfl)
    have v1 : ∀ n, (convert 57 9 (.slice (some ⟨gu, 0, none⟩) 512 cu)).run Tryz.prog (w.drewN n) = .ok (.string ⟨R.raw[b].toArray⟩) (w.drewN n) := fun n => by
      have := run_convert_bytes_back (P := Tryz.prog) (w.drewN n) 57 9 5 ⟨gu, 0, none⟩ cu R.raw[b] undBytes' undByte' undStr' (fun j hj => by rw [addrAdd]; exact hcu j hj)
      rwa [hl5] at this
    have v2 : ∀ n, (convert 57 9 (.slice (some ⟨g, 0, none⟩) 512 (512 + kk))).run Tryz.prog (w.drewN n) = .ok (.string ⟨data.toArray⟩) (w.drewN n) := fun n => by
      have := run_convert_bytes_back (P := Tryz.prog) (w.drewN n) 57 9 5 ⟨g, 0, none⟩ (512 + kk) data undBytes' undByte' undStr' (fun j hj => by
        rw [addrAdd]
        have := hB.cell j
        simp at this
        show w.cell? _ = _
        rw [this, List.getElem?_append_left (by simpa using hj)]
        simp [B, hj])
      rwa [hl] at this
    have hraw : R.raw[b]? = some R.raw[b] := List.getElem?_eq_getElem hb
    have hlen : R.raw.length ≤ 2048 := hV.lr.2
    have hPt := fun n => rputs_w (hV.keeps (w' := w.drewN n) ((Keeps.refl (fun _ => False) w).drewN n) (fun _ _ f => f)) hput b
    have hix : 0 ≤ (b : Int) ∧ (b : Int) < R.raw.length := by omega
    have hb2 : ¬ (b : Int) < 2 := by omega
    obtain ⟨N, hN⟩ : ∃ N, R.raw.length = N := ⟨_, rfl⟩
    by_cases he : R.raw[b] = data
    · have he2 : R.raw[b]? = some data := by rw [hraw, he]
      rw [if_pos he2, if_pos he2]
      rw [he] at v1
      generalize (⟨data.toArray⟩ : ByteArray) = s at v1 v2
      rw [hN] at c8 hix
      clear hcu hraw he2 hr3 hPt
      replace hS := hid hS; replace hq := hid hq; replace hs := hid hs; replace hV := hid hV; replace hm0 := hid hm0; replace hr1 := hid hr1; replace hr2 := hid hr2; replace hrow := hid hrow; replace cb := hid cb; replace hB := hid hB; replace h0 := hid h0; replace hlt := hid hlt; replace k0 := hid k0
      replace cb := cb.out
      go_enter Tryz.func171, Tryz.ntmps171
      go_upto_region 6 with (go_at_call 126; refine hS.out.mono ?_; rintro e w1 ⟨rfl, rfl⟩)
      go_quiet (fail)
      go_wp2
      go_ret
      exact ⟨rfl, hq.out _⟩
    · have he2 : ¬ R.raw[b]? = some data := fun e => he (by rw [hraw] at e; exact Option.some.inj e)
      rw [if_neg he2, if_neg he2]
      have hne : ((⟨R.raw[b].toArray⟩ : ByteArray).toList == (⟨data.toArray⟩ : ByteArray).toList) = false := by
        rw [ByteArray.toList_mk, ByteArray.toList_mk]
        exact beq_eq_false_iff_ne.2 he
      generalize (⟨R.raw[b].toArray⟩ : ByteArray) = s1 at v1 hne
      generalize (⟨data.toArray⟩ : ByteArray) = s2 at v2 hne
      obtain ⟨pr1, pr2⟩ := puts_raw R b
      have hFin : ∀ n v w2, RefAt w2 m (R.puts b) { V with P := v } (fun i => Z i ∨ (w.drewN n).heap.size ≤ i ∧ i < w2.heap.size) → Keeps (fun i => i = m ∨ V.P.ownBlock = some i) (w.drewN n) w2 →
          RStep w0 w2 m (R.puts b) Z ∧ w2.cell? ⟨m, 8, none⟩ = some (.slice (some ⟨gR, 0, none⟩) N cR) ∧ w2.cell? ⟨gR, b, none⟩ = some (.slice (some ⟨gu, 0, none⟩) 512 cu) ∧ w2.frozen? ⟨gR, b, none⟩ = false ∧ RStep w0 (w2.setCell ⟨gR, b, none⟩ (.slice (some ⟨g, 0, none⟩) 512 (512 + kk))) m { R.puts b with raw := (R.puts b).raw.set b data } Z := by
        intro n v w2 hA hk
        have hsz : (w.drewN n).heap.size = w.heap.size := rfl
        have s0 := k0.size
        have s1 := hk.size
        rw [hsz] at hA s1
        have kZ : Keeps Z w0 w2 := ((k0.step ((Keeps.refl (fun _ => False) w).drewN n)).mono fun _ _ f => f.elim).step (hk.mono fun i _ f => f.elim (fun e => e ▸ hV.zm) (fun e => hV.zp i e))
        have hA2 : RefAt w2 m (R.puts b) { V with P := v } (Zn w0 w2 Z) := hA.up fun i hi => hi.elim .inl (fun x => .inr ⟨by omega, x.2⟩)
        have hgw := hB.lt
        have hbr : ByteRow w2 0 (.slice (some ⟨g, 0, none⟩) 512 (512 + kk)) data := own_far (((Keeps.refl (fun _ => False) w).drewN n).mono (fun _ _ f => f.elim) |>.step hk) (byteRow_of hB hl hr hm) (fun g' e f => by
          have e' : g = g' := by simpa [Value.ownBlock] using e
          subst e'
          rcases f with f | f
          · have := hlt m hV.zm; omega
          · have := hlt g (hV.zp g f); omega)
        have hrow2 := hA2.rr.1
        rw [pr1] at hrow2
        have eR2 : ({ V with P := v } : RefV).R = .slice (some ⟨gR, 0, none⟩) (R.puts b).raw.length cR := by rw [pr1]; exact eR
        have hset := hA2.setR (by rw [pr2]; exact hop) eR2 b (by rw [pr1]; exact hb) (.slice (some ⟨g, 0, none⟩) 512 (512 + kk)) data hbr hl (fun g' e => by
          have e' : g = g' := by simpa [Value.ownBlock] using e
          subst e'
          exact .inr ⟨hg, by omega⟩)
        have hm2 := hA2.hm
        unfold refO at hm2
        have c82 := hm2.cell 8
        simp at c82
        rw [eR, hN] at c82
        have hgRZ : Zn w0 w2 Z gR := hA2.zr gR (by show V.R.ownBlock = some gR; rw [eR]; rfl)
        have hrow3 := hrow2
        rw [show ({ V with P := v } : RefV).R = .slice (some ⟨gR, 0, none⟩) R.raw.length cR from eR] at hrow3
        refine ⟨⟨⟨_, hA2⟩, kZ⟩, c82, ?_, World.ownsRow.frozenAt (g := gR) hrow3 b, ⟨⟨_, hset.up fun i hi => hi.elim .inl (fun x => .inr ⟨x.1, by rw [World.size_setCell]; exact x.2⟩)⟩, kZ.step ?_⟩⟩
        · have := own_cell hrow3 b V.uR[b] (List.getElem?_eq_getElem hbu)
          rw [this, eu, hl5]
        · refine (Keeps.refl Z w2).setCell (p := ⟨gR, b, none⟩) ?_ _
          exact .inl (hV.zr gR (by rw [eR]; rfl))
      rw [hN] at c8 hix
      generalize R.raw[b] = rb at *
      by_cases hp : R.putsE b = 0
      · rw [if_pos hp]
        unfold PutsPost at hPt
        rw [hp] at hPt ⊢
        clear hcu hraw he2 hr3 he
        replace hS := hid hS; replace hq := hid hq; replace hs := hid hs; replace hV := hid hV; replace hm0 := hid hm0; replace hr1 := hid hr1; replace hr2 := hid hr2; replace hrow := hid hrow; replace hB := hid hB; replace h0 := hid h0; replace hlt := hid hlt; replace k0 := hid k0; replace hPt := hid hPt; replace hFin := hid hFin; replace hp := hid hp
        go_enter Tryz.func171, Tryz.ntmps171
        go_upto_region 6 with (go_at_call 126; refine hS.out.mono ?_; rintro e w1 ⟨rfl, rfl⟩)
        go_quiet (fail)
        go_wp2_with (go_at_call 162; refine (hPt.out _).mono ?_; rintro e w2 ⟨v, rfl, hA, hk⟩; obtain ⟨_, d8, db, df, hR⟩ := hFin.out _ v w2 hA hk; clear hA hk; replace hR := hid hR)
        go_ret
        exact ⟨rfl, hR.out⟩
      · rw [if_neg hp]
        unfold PutsPost at hPt
        have hpi : ¬ (R.putsE b : Int) = 0 := by omega
        generalize R.putsE b = pe at *
        clear hcu hraw he2 hr3 he
        replace hS := hid hS; replace hq := hid hq; replace hs := hid hs; replace hV := hid hV; replace hm0 := hid hm0; replace hr1 := hid hr1; replace hr2 := hid hr2; replace hrow := hid hrow; replace hB := hid hB; replace h0 := hid h0; replace hlt := hid hlt; replace k0 := hid k0; replace hPt := hid hPt; replace hFin := hid hFin; replace hp := hid hp
        go_enter Tryz.func171, Tryz.ntmps171
        go_upto_region 6 with (go_at_call 126; refine hS.out.mono ?_; rintro e w1 ⟨rfl, rfl⟩)
        go_quiet (fail)
        go_wp2_with (go_at_call 162; refine (hPt.out _).mono ?_; rintro e w2 ⟨v, rfl, hA, hk⟩; obtain ⟨hR, _⟩ := hFin.out _ v w2 hA hk; clear hA hk; replace hR := hid hR)
        go_ret
        exact ⟨rfl, hR.out⟩
  · rw [if_neg hs, if_neg hs]
    have hsi : ¬ (R.state : Int) = 0 := by omega
    have hq0 := RStep.quiet h0 k0
    generalize R.state = s at *
    replace h := hid h; replace hS := hid hS; replace hq := hid hq; replace hs := hid hs; replace hq0 := hid hq0
    go_enter Tryz.func171, Tryz.ntmps171
    go_wp2_with (go_at_call 126; refine hS.out.mono ?_; rintro e w1 ⟨rfl, rfl⟩)
    go_ret
    exact ⟨rfl, hq0.out⟩
end
end Go.Vk

namespace Go.Vk
open Go.RowKit Go.Proofs

section
variable {w : World} {C : TxC} {M : TxM} {X : Nat → Prop} {p : Nat}
set_option maxRecDepth 100000 in
set_option maxHeartbeats 3200000 in
theorem clear_two (hp : Blk w p (poolO C.t)) (hpX : X p) (hT : TxRep w C M false X) (h0 : txState M.D C.G.life M.sp false = 0) (hX : ∀ i, X i → i < w.heap.size) (hb : 1 < C.G.blocks) (h4 : 2 + C.G.n / 4 ≤ 4096) (hok : (M.put C 0 (onesB (2 + C.G.n / 4))).1 = 0 ∧ (M.clear C).1 ≠ 0) :
    Calls Tryz.prog 47 #[.pointer (some ⟨p, 0, none⟩)] w (PoolM w C (M.clear C).2 false X (.int .i64 (M.clear C).1)) := by
  have hmf : ∀ (fn : Fn) (first cap : Array Value) (w : World), (Instr.makeFunc fn first cap).run Tryz.prog w = .ok (.func fn first cap) w := fun _ _ _ _ => rfl
  have hfd : ∀ (a b c d e : Value) (w : World), (Instr.field 124 (.agg #[a, b, c, d, e]) 4).run Tryz.prog w = .ok e w := fun a b c d e w => by kernel_rfl
  have hmk := mk512
  have hpl := hp.lt
  have hs1 : (w.alloc (errO 0)).heap.size = w.heap.size + 1 := World.size_alloc ..
  have hkA : Keeps (fun _ => False) w (w.alloc (errO 0)) := (Keeps.refl _ w).alloc _
  have hp1 := hkA.blk hp (fun f => f)
  have he1 := Blk.new w (errO 0)
  have hT1 : TxRep (w.alloc (errO 0)) C M false (fresh X w.heap.size) := hT.fresh.quiet hkA (fun _ f => f.elim)
  have p0 := hp1.cell 0
  simp at p0
  have hS := state_m hT1
  rw [h0] at hS
  have hpF := (hT.notF hpX).1
  have hebF : w.heap.size ∉ C.F := (hT1.notF (.inr (Nat.le_refl _))).1
  unfold errO at *
  have hL : ∀ W, Keeps (fun _ => False) (w.alloc (.cells #[.int .i64 0] 34 (0, 0))) W → Calls Tryz.prog 90 #[.pointer (some ⟨C.t, 0, none⟩)] W fun e w' => e = .returned (.agg #[.int .i64 C.G.lg, .int .i64 (3 + C.G.lg : Nat), .int .i64 C.G.blocks, .int .i64 C.G.n, .int .i64 (2 + C.G.n / 4 : Nat)]) ∧ Keeps (fun _ => False) W w' := fun W x => layout_m (hT1.quiet x (fun _ f => f.elim))
  obtain ⟨r, hr⟩ : ∃ r, M.clear C = r := ⟨_, rfl⟩
  have hr0 := hr
  rw [hr0] at hok
  unfold TxM.clear at hr
  generalize 2 + C.G.n / 4 = dt at hL h4 hr hok
  generalize 3 + C.G.lg = v1 at hL
  replace hp := hid hp; replace hpX := hid hpX; replace hT := hid hT; replace hX := hid hX; replace hb := hid hb; replace hs1 := hid hs1; replace hkA := hid hkA; replace hp1 := hid hp1; replace he1 := hid he1; replace hT1 := hid hT1; replace hS := hid hS; replace h0 := hid h0; replace hpF := hid hpF; replace hebF := hid hebF; replace hL := hid hL; replace hr := hid hr; replace hr0 := hid hr0; replace hok := hid hok
  go_enter_defers Tryz.func47, Tryz.ntmps47
  go_wp2_with (first
    | (go_at_call 18; refine hS.out.mono ?_; rintro e w' ⟨rfl, n, rfl⟩)
    | (go_at_call 53; refine (pdemand_ok _).mono ?_; rintro e w3 ⟨rfl, rfl⟩))
  have hkW : Keeps (fun _ => False) (w.alloc (.cells #[.int .i64 0] 34 (0, 0))) (((w.alloc (.cells #[.int .i64 0] 34 (0, 0))).drewN n).alloc (bytesO (zeros 512))) := ((Keeps.refl (fun _ => False) _).drewN n).alloc _
  have hg2 : Blk (((w.alloc (.cells #[.int .i64 0] 34 (0, 0))).drewN n).alloc (bytesO (zeros 512))) (w.heap.size + 1) (bytesO (onesB 0 ++ zeros 0)) := by
    have := Blk.new ((w.alloc (.cells #[.int .i64 0] 34 (0, 0))).drewN n) (bytesO (zeros 512))
    rw [show ((w.alloc (.cells #[.int .i64 0] 34 (0, 0))).drewN n).heap.size = w.heap.size + 1 from hs1.out] at this
    rw [show onesB 0 ++ zeros 0 = zeros 512 by simp only [onesB]; exact List.append_nil _]
    exact this
  replace hkW := hid hkW; replace hg2 := hid hg2
  refine (hL.out _ hkW.out).mono ?_
  rintro e w3 ⟨rfl, hk3⟩
  have hg3 := hk3.blk hg2.out (fun f => f)
  have hk03 := hkW.out.step hk3
  have hr3 := Keeps.refl (· = w.heap.size + 1) w3
  clear hk3
  replace hg3 := hid hg3; replace hk03 := hid hk03; replace hr3 := hid hr3
  go_wp2
  go_loopw [4, 19] (fun _ c wr => ∃ k, k ≤ dt ∧ c = .int .i64 (k : Nat) ∧ Blk wr (w.heap.size + 1) (bytesO (onesB k ++ zeros 0)) ∧ Keeps (· = w.heap.size + 1) w3 wr) (fun _ c _ => dt - (intOf c).toNat)
  case atStart => exact ⟨0, by omega, rfl, hg3.out, hr3.out⟩
  case round =>
    obtain ⟨k, hk1, rfl, hg4, hk4⟩ := hrel
    by_cases hlt2 : k < dt
    · have hki : (k : Int) < (dt : Int) := by omega
      have hq := tdiv8 k
      have hrm := tmod8 k
      have hll := onesB_length k
      have cb := byte_cell hg4 (k / 8) (by omega)
      have fz := hg4.frz (k / 8)
      have hor := or_bit (byteAt (onesB k) (k / 8)) (k % 8) (byteAt_lt _ _) (by omega)
      have hix : 0 ≤ ((k / 8 : Nat) : Int) ∧ ((k / 8 : Nat) : Int) < (512 : Nat) := by have := h4; omega
      have hB1 : Blk (wr.setCell ⟨w.heap.size + 1, k / 8, none⟩ (.int .u8 (byteAt (onesB k) (k / 8) ||| 2 ^ (k % 8) : Nat))) (w.heap.size + 1) (bytesO (onesB (k + 1) ++ zeros 0)) := byte_set hg4 _ (by have := h4; omega) _ (Nat.or_lt_two_pow (n := 8) (byteAt_lt _ _) (pow8_lt _ (by omega)))
      have hK1 : Keeps (· = w.heap.size + 1) w3 (wr.setCell ⟨w.heap.size + 1, k / 8, none⟩ (.int .u8 (byteAt (onesB k) (k / 8) ||| 2 ^ (k % 8) : Nat))) := hk4.setCell (p := ⟨w.heap.size + 1, k / 8, none⟩) (.inl rfl) _
      generalize byteAt (onesB k) (k / 8) = a at *
      generalize k / 8 = q at *
      generalize k % 8 = rr at *
      replace hg4 := hid hg4; replace hk4 := hid hk4; replace hll := hid hll; replace hB1 := hid hB1; replace hK1 := hid hK1
      go_wp2
      go_region
      go_wp2
      exact ⟨⟨k + 1, by omega, by go_num, hB1.out.drew, hK1.out.drew⟩, by simp [intOf]; omega⟩
    · have hki : ¬ (k : Int) < (dt : Int) := by omega
      obtain rfl : k = dt := by omega
      have hpg : p ≠ w.heap.size + 1 := by omega
      have p03 : wr.cell? ⟨p, 0, none⟩ = some (.pointer (some ⟨C.t, 0, none⟩)) := hk4.cellF (hk03.out.cellF p0 (fun f => f)) hpg
      have hTr : TxRep wr C M false (fun i => X i ∨ i = w.heap.size ∨ i = w.heap.size + 1) := ((hT1.out.quiet hk03.out (fun _ f => f.elim)).quiet hk4 (fun i e => .inr (by omega))).client (fun i hi => by
        rcases hi with x | x | x
        · exact .inl (.inl x)
        · exact .inl (.inr (by omega))
        · exact .inl (.inr (by omega)))
      have her : Blk wr w.heap.size (.cells #[.int .i64 0] 34 (0, 0)) := hk4.blk (hk03.out.blk he1.out (fun f => f)) (by omega)
      have hkr : Keeps (fun i => i ∈ C.F ∨ i = C.t ∨ i = C.mx) w wr := ((hkA.out.step hk03.out).mono (fun _ _ f => f.elim)).trans hk4 (fun i hi e => by omega)
      have hXY : ∀ i, (X i ∨ i = w.heap.size ∨ i = w.heap.size + 1) → i < wr.heap.size := fun i hi => by
        have hx1 := hg4.lt
        rcases hi with x | x | x
        · have := hX.out i x; omega
        · omega
        · omega
      have hll := onesB_length k
      have hPut1 := put_m hTr h0.out hXY 0 (by have := hb.out; omega) (w.heap.size + 1) 0 512 _ (onesB k) hg4 (.inr (.inr rfl)) (by rw [List.length_append, hll]; omega) (by rw [List.drop_zero, List.take_left' hll])
      have hno := fun (i : Nat) (hi : X i ∨ i = w.heap.size ∨ i = w.heap.size + 1) => hTr.notF hi
      have hFe : ∀ W W', Keeps (fun i => i ∈ C.F ∨ i = C.t ∨ i = C.mx) W W' → Blk W w.heap.size (.cells #[.int .i64 0] 34 (0, 0)) → Blk W' w.heap.size (.cells #[.int .i64 0] 34 (0, 0)) := fun W W' x y => x.blk y (by
        obtain ⟨a1, a2, a3⟩ := hno w.heap.size (.inr (.inl rfl))
        rintro (z | z | z)
        · exact a1 z
        · exact a2 z
        · exact a3 z)
      have hFp : ∀ W W', Keeps (fun i => i ∈ C.F ∨ i = C.t ∨ i = C.mx) W W' → W.cell? ⟨p, 0, none⟩ = some (.pointer (some ⟨C.t, 0, none⟩)) → W'.cell? ⟨p, 0, none⟩ = some (.pointer (some ⟨C.t, 0, none⟩)) := fun W W' x y => x.cellF y (by
        obtain ⟨a1, a2, a3⟩ := hno p (.inl hpX.out)
        rintro (z | z | z)
        · exact a1 z
        · exact a2 z
        · exact a3 z)
      have hPut2 : ∀ M2, txState M2.D C.G.life M2.sp false = 0 → ∀ W W', TxRep W C M2 false (fun i => X i ∨ i = w.heap.size ∨ i = w.heap.size + 1) → wr.heap.size ≤ W.heap.size → Keeps (fun _ => False) W W' → ∀ g2, W.heap.size ≤ g2 → Blk W' g2 (bytesO (zeros 512)) →
          Calls Tryz.prog 66 #[.pointer (some ⟨C.t, 0, none⟩), .int .i64 1, .slice (some ⟨g2, 0, none⟩) 512 512] W' (fun e w' => e = .returned (.int .i64 (M2.put C 1 (zeros 512)).1) ∧ TxRep w' C (M2.put C 1 (zeros 512)).2 false (fun i => X i ∨ i = w.heap.size ∨ i = w.heap.size + 1) ∧ Keeps (fun i => i ∈ C.F ∨ i = C.t ∨ i = C.mx) W w') := by
        intro M2 h02 W W' hTW hsz hkk g2 hge hBg
        have hT' : TxRep W' C M2 false (fun i => (X i ∨ i = w.heap.size ∨ i = w.heap.size + 1) ∨ i = g2) := (hTW.client (Y := fun i => (X i ∨ i = w.heap.size ∨ i = w.heap.size + 1) ∨ i = g2) (fun i hi => by
          rcases hi with x | x
          · exact .inl x
          · exact .inr (by omega))).quiet hkk (fun _ f => f.elim)
        have hz : (zeros 512).length = 512 := List.length_replicate
        have := put_m hT' h02 (by
          rintro i (x | x)
          · have := hXY i x; have := hkk.size; omega
          · have := hBg.lt; omega) 1 hb.out g2 0 512 _ (zeros 512) hBg (.inr rfl) (by rw [hz]; omega) (by rw [List.drop_zero]; exact List.take_of_length_le (by rw [hz]; exact Nat.le_refl _))
        refine this.mono ?_
        rintro e w' ⟨x1, x2, x3⟩
        exact ⟨x1, x2.client (fun i hi => .inl (.inl hi)), (hkk.mono (fun _ _ f => f.elim)).step x3⟩
      have hst1 : (M.put C 0 (onesB k)).1 = 0 → txState (M.put C 0 (onesB k)).2.D C.G.life (M.put C 0 (onesB k)).2.sp false = 0 := fun hz => by
        unfold TxM.put at hz ⊢
        split at hz <;> rename_i hc
        · rw [if_pos hc]; exact (txState_read C M 0 false).trans h0.out
        · rw [if_neg hc]
          split at hz <;> rename_i hc2
          · cases hz
          · rw [if_neg hc2]; exact (txState_read C M 0 false).trans h0.out
      have hPost : ∀ W, TxRep W C r.2 false X → Keeps (fun i => i ∈ C.F ∨ i = C.t ∨ i = C.mx) w W → PoolM w C (M.clear C).2 false X (.int .i64 (M.clear C).1) (.returned (.int .i64 r.1)) W := fun W x y => by
        rw [hr0.out]; exact ⟨rfl, x, y⟩
      have hz1 := hok.out.1
      have hz2 := hok.out.2
      have hc2 := hPut2 _ (hst1 hz1)
      rw [if_pos hz1] at hr
      have hr' := hr.out
      rw [hr'] at hc2
      replace hg4 := hid hg4; replace hk4 := hid hk4; replace hTr := hid hTr; replace her := hid her; replace hkr := hid hkr; replace hXY := hid hXY; replace hPut1 := hid hPut1; replace hno := hid hno; replace hFe := hid hFe; replace hFp := hid hFp; replace hPut2 := hid hPut2; replace hst1 := hid hst1; replace hPost := hid hPost; replace hz1 := hid hz1; replace hc2 := hid hc2; replace hz2 := hid hz2; replace hr' := hid hr'
      go_wp2_with (first
        | (go_at_call 66; refine hPut1.out.mono ?_; rintro e w4 ⟨he, t1, t2⟩; rw [hz1.out] at he; subst he; have p4 := hFp.out _ _ t2 p03; replace t1 := hid t1; replace t2 := hid t2)
        | (go_at_call 53; refine (pdemand_ok _).mono ?_; rintro e w3 ⟨rfl, rfl⟩))
      have t1' := t1.out
      have t2' := t2.out
      have hC : ∀ W', Keeps (fun _ => False) w4 W' → ∀ g2, w4.heap.size ≤ g2 → Blk W' g2 (bytesO (zeros 512)) → Calls Tryz.prog 66 #[.pointer (some ⟨C.t, 0, none⟩), .int .i64 1, .slice (some ⟨g2, 0, none⟩) 512 512] W' (fun e w' => e = .returned (.int .i64 r.1) ∧
          Blk w' w.heap.size (.cells #[.int .i64 0] 34 (0, 0)) ∧ TxRep w' C r.2 false (fun i => X i ∨ i = w.heap.size ∨ i = w.heap.size + 1) ∧ Keeps (fun i => i ∈ C.F ∨ i = C.t ∨ i = C.mx) w w' ∧ w'.cell? ⟨p, 0, none⟩ = some (.pointer (some ⟨C.t, 0, none⟩))) := fun W' x g2 y z => by
        refine (hc2.out w4 W' t1' t2'.size x g2 y z).mono ?_
        rintro e w' ⟨x1, x2, x3⟩
        exact ⟨x1, hFe.out _ _ x3 (hFe.out _ _ t2' her.out), x2, (hkr.out.step t2').step x3, hFp.out _ _ x3 p4⟩
      have hka : Keeps (fun _ => False) w4 (w4.alloc (bytesO (zeros 512))).drew := ((Keeps.refl _ _).alloc _).drew
      have hba : Blk (w4.alloc (bytesO (zeros 512))).drew w4.heap.size (bytesO (zeros 512)) := (Blk.new w4 _).drew
      have p4d : w4.drew.cell? ⟨p, 0, none⟩ = some (.pointer (some ⟨C.t, 0, none⟩)) := p4
      have p4a := cell_alloc p4 (bytesO (zeros 512))
      have p4b := cell_alloc p4d (bytesO (zeros 512))
      clear t1' t2'
      replace hC := hid hC; replace hka := hid hka; replace hba := hid hba
      first | go_loud (go_region_with (first
        | (go_at_call 66; refine (hC.out _ hka.out _ (Nat.le_refl _) hba.out).mono ?_; rintro e w5 ⟨rfl, tE, tR, tK, p5⟩; replace tE := hid tE; replace tR := hid tR; replace tK := hid tK)
        | (go_at_call 53
           refine (pdemand_bad _ _ hz2.out).mono ?_
           rintro e w3 ⟨rfl, rfl⟩
           refine dead_end (w0 := w) (by
              replace tE := tE.out
              replace tR := tR.out
              replace tK := tK.out
              refine leaves_cons (f := 89) (args := #[.pointer (some ⟨w.heap.size, 0, none⟩)]) (by simp) (by simp [go_sem]) ?_
              refine (clear_ref w.heap.size 0 r.1 _ tE).mono ?_
              rintro e u' w6 ⟨rfl, rfl, t5, t6⟩
              have tT := tR.quiet t6 (fun i e => .inr (.inl e))
              have tK2 := tK.trans t6 (fun i hi e => by omega)
              have tc4 := t5.cell 0
              simp at tc4
              have hQ := hPost.out _ (tT.client (fun i hi => .inl (.inl hi))) tK2
              simp [Leaves, settle, results, Tryz.results47, go_sem, tc4]
              exact hQ) ?_))) | fail
      all_goals trivial
end
end Go.Vk

namespace Go.Vk
open Go.RowKit Go.Proofs

def TS.spoilN (T : TS) (n : Int) : Nat × TS := if T.st = 0 then (if spoils n then (n.toNat, { T with sp := n.toNat }) else (1, T)) else (T.st, T)
theorem TS.spoilN_like (T : TS) (n : Int) : T.Like (T.spoilN n).2 := by
  unfold TS.spoilN
  split
  · split
    · exact ⟨rfl, rfl, rfl, rfl, rfl⟩
    · exact .refl T
  · exact .refl T
section
variable {w w' : World} {C : TxC} {T T' : TS} {X : Nat → Prop} {p : Nat} {R : RP} {G : Geom}
theorem PoolX.clearA (h : PoolX w C T X) (hp : Blk w p (poolO C.t)) (hpX : X p) : Calls Tryz.prog 47 #[.pointer (some ⟨p, 0, none⟩)] w (XPost w C X (T.clear C.G).2 (.int .i64 ((T.clear C.G).1 : Nat))) := by
  by_cases hok : T.st = 0 → (T.puts 0 (onesB C.G.data)).1 = 0 → ((T.puts 0 (onesB C.G.data)).2.puts 1 (zeros 512)).1 = 0
  · exact h.clear hp hpX hok
  · have hs : T.st = 0 := Classical.byContradiction fun x => hok (fun y => absurd y x)
    have e1 : (T.puts 0 (onesB C.G.data)).1 = 0 := Classical.byContradiction fun x => hok (fun _ y => absurd y x)
    have e2 : ¬ ((T.puts 0 (onesB C.G.data)).2.puts 1 (zeros 512)).1 = 0 := fun x => hok (fun _ _ => x)
    obtain ⟨M, h1, h2⟩ := h.rep
    have hg := h.geo
    unfold TS.clear
    rw [if_pos hs]
    obtain ⟨a1, a2⟩ := h2.clear (by have := hg.b1; omega)
    obtain ⟨b1, b2⟩ := h2.puts (b := 0) (by have := hg.b1; omega) (onesB (2 + C.G.n / 4))
    obtain ⟨c1, _⟩ := b2.puts (b := 1) (by have := hg.b1; omega) (zeros 512)
    have hb1 : (M.put C 0 (onesB (2 + C.G.n / 4))).1 = 0 := b1.trans e1
    have := clear_two hp hpX h1 (h2.st hs) h.lt (by have := hg.b1; omega) (by have := hg.b1; have := hg.b2; omega) ⟨hb1, by
      unfold TxM.clear
      rw [if_pos hb1, c1]
      exact e2⟩
    rw [a1] at this
    exact this.mono (XPost.of h a2)
set_option maxHeartbeats 1000000 in
theorem PoolX.spoilN (h : PoolX w C T X) (n : Int) : Calls Tryz.prog 119 #[.pointer (some ⟨C.t, 0, none⟩), .int .i64 n] w (XPost w C X (T.spoilN n).2 (.int .i64 ((T.spoilN n).1 : Nat))) := by
  obtain ⟨M, h1, h2⟩ := h.rep
  have hS := state_m h1
  rw [h2.stsp] at hS
  have hx1 := h1
  obtain ⟨own, xc, y1, y2, y3⟩ := hx1
  have hq : ∀ m, XPost w C X T (.int .i64 (T.st : Nat)) (.returned (.int .i64 (T.st : Nat))) (w.drewN m) := fun m => by
    have hk : Keeps (fun _ => False) w (w.drewN m) := (Keeps.refl _ w).drewN m
    exact ⟨rfl, h.quiet hk, hk.mono fun _ _ f => f.elim⟩
  have hq1 : ∀ m, XPost w C X T (.int .i64 (1 : Nat)) (.returned (.int .i64 (1 : Nat))) (w.drewN m) := fun m => by
    have hk : Keeps (fun _ => False) w (w.drewN m) := (Keeps.refl _ w).drewN m
    exact ⟨rfl, h.quiet hk, hk.mono fun _ _ f => f.elim⟩
  unfold TS.spoilN
  by_cases hs : T.st = 0
  · rw [if_pos hs]
    by_cases hsp : spoils n
    · rw [if_pos hsp]
      have c2 := y1.ht.cell 2
      simp at c2
      have hfr := fun m => (y1.ht.drewN m).frz 2
      obtain ⟨k, hk⟩ : ∃ k : Nat, n = k := ⟨n.toNat, by unfold spoils at hsp; omega⟩
      subst hk
      rw [Int.toNat_natCast]
      have hP : ∀ m, XPost w C X { T with sp := k } (.int .i64 (k : Nat)) (.returned (.int .i64 (k : Nat))) ((w.drewN m).setCell ⟨C.t, 2, none⟩ (.int .i64 (k : Nat))) := fun m => by
        have h3 := h1.spoilt m k
        have kk : Keeps (fun i => i = C.t) w ((w.drewN m).setCell ⟨C.t, 2, none⟩ (.int .i64 (k : Nat))) := ((Keeps.refl (fun i => i = C.t) w).drewN m).setCell (p := ⟨C.t, 2, none⟩) (.inl rfl) _
        exact ⟨rfl, ⟨⟨_, h3, h2.spoil k⟩, fun i hi => Nat.lt_of_lt_of_le (h.lt i hi) kk.size, h.geo⟩, kk.mono fun i _ e => .inr (.inl e)⟩
      rw [hs] at hS
      generalize XPost w C X { T with sp := k } (.int .i64 (k : Nat)) = Post at *
      unfold spoils at hsp
      clear hq hq1 y2 y3 hs
      rcases hsp with hx | hx | hx | hx
      all_goals
        obtain rfl : k = _ := Int.ofNat_inj.1 hx
        replace h := hid h; replace h1 := hid h1; replace h2 := hid h2; replace hS := hid hS; replace hP := hid hP; replace hx := hid hx; replace y1 := hid y1
        go_enter Tryz.func119, Tryz.ntmps119
        go_wp2_with (go_at_call 18; refine hS.out.mono ?_; rintro e w' ⟨rfl, m, rfl⟩; have hfm := hfr m)
        exact hP.out _
    · rw [if_neg hsp]
      unfold spoils at hsp
      have n1 : ¬ n = 6 := fun e => hsp (.inl e)
      have n2 : ¬ n = 50 := fun e => hsp (.inr (.inl e))
      have n3 : ¬ n = 60 := fun e => hsp (.inr (.inr (.inl e)))
      have n4 : ¬ n = 61 := fun e => hsp (.inr (.inr (.inr e)))
      rw [hs] at hS
      generalize XPost w C X T (.int .i64 (1 : Nat)) = Post at *
      clear hsp hq y2 y3 hs
      replace h := hid h; replace h1 := hid h1; replace h2 := hid h2; replace hS := hid hS; replace hq1 := hid hq1; replace y1 := hid y1
      go_enter Tryz.func119, Tryz.ntmps119
      go_wp2_with (go_at_call 18; refine hS.out.mono ?_; rintro e w' ⟨rfl, m, rfl⟩)
      exact hq1.out _
  · rw [if_neg hs]
    have hsi : ¬ (T.st : Int) = 0 := by omega
    generalize XPost w C X T (.int .i64 (T.st : Nat)) = Post at *
    generalize T.st = s at *
    clear hq1 y2 y3 hs
    replace h := hid h; replace h1 := hid h1; replace h2 := hid h2; replace hS := hid hS; replace hq := hid hq; replace y1 := hid y1
    go_enter Tryz.func119, Tryz.ntmps119
    go_wp2_with (go_at_call 18; refine hS.out.mono ?_; rintro e w' ⟨rfl, m, rfl⟩)
    exact hq.out _
theorem Same.spoil (h : Same R T G) (n : Int) : R.spoilE n = (T.spoilN n).1 ∧ Same (R.spoil n) (T.spoilN n).2 G := by
  unfold RP.spoilE RP.spoil TS.spoilN
  rw [h.state]
  by_cases hs : T.st = 0
  · simp only [if_pos hs]
    by_cases hn : spoils n
    · simp only [if_pos hn]
      exact ⟨trivial, h.nb, h.nn, h.raw, h.rl, h.put, rfl, h.op, h.dead, h.data, h.blocks, h.nodes, h.od⟩
    · simp only [if_neg hn]
      exact ⟨trivial, h⟩
  · simp only [if_neg hs]
    exact ⟨trivial, h⟩
theorem Same.writeO (h : Same R T G) (b : Nat) (h2 : 2 ≤ b) (hb : b < G.blocks) (data : List UInt8) : R.writeOE b data = (T.putB b data).1 ∧ Same (R.writeO b data) (T.putB b data).2 G := by
  unfold RP.writeOE RP.writeO TS.putB
  rw [h.state, h.raw b h2 hb]
  by_cases hs : T.st = 0
  · simp only [if_pos hs]
    by_cases he : T.raw b = data
    · have e1 : some (T.raw b) = some data := by rw [he]
      have e2 : T.puts b data = (0, T) := by unfold TS.puts; rw [if_pos he]
      rw [if_pos e1, if_pos e1, e2]
      exact ⟨rfl, h⟩
    · have he2 : ¬ some (T.raw b) = some data := fun e => he (Option.some.inj e)
      rw [if_neg he2, if_neg he2]
      have hraw : ∀ k, 2 ≤ k → k < G.blocks → (R.raw.set b data)[k]? = some ((T.lay b data).raw k) := fun k k2 kb => by
        rw [List.getElem?_set]
        show _ = some (if k = b then data else T.raw k)
        by_cases e : b = k
        · subst e
          rw [if_pos rfl, if_pos (by rw [h.rl]; exact kb), if_pos rfl]
        · rw [if_neg e, if_neg (fun x => e x.symm)]
          exact h.raw k k2 kb
      have hr0 : (T.lay b data).raw 0 = T.raw 0 := by show (if 0 = b then data else T.raw 0) = _; rw [if_neg (by omega)]
      have hr1 : (T.lay b data).raw 1 = T.raw 1 := by show (if 1 = b then data else T.raw 1) = _; rw [if_neg (by omega)]
      have hnb : R.nowB = bitsOf ((T.lay b data).raw 0) := by rw [hr0]; exact h.nb
      have hnn : R.nowN = bitsOf ((T.lay b data).raw 1) := by rw [hr1]; exact h.nn
      have hrl : (R.raw.set b data).length = G.blocks := by rw [List.length_set]; exact h.rl
      by_cases hm : b ∈ T.put
      · have hm' : b ∈ R.put := by rw [h.put]; exact hm
        have a1 : R.putsE b = 0 := by unfold RP.putsE; rw [if_pos hm']
        have a2 : R.puts b = R := by unfold RP.puts; rw [if_pos hm']
        have a3 : T.puts b data = (0, T.lay b data) := by unfold TS.puts; rw [if_neg he, if_pos hm]
        rw [if_pos a1, a1, a2, a3]
        exact ⟨rfl, hnb, hnn, hraw, hrl, h.put, h.sp, h.op, h.dead, h.data, h.blocks, h.nodes, h.od⟩
      · have hm' : b ∉ R.put := by rw [h.put]; exact hm
        by_cases h16 : T.put.length = 16
        · have h16' : R.put.length = 16 := by rw [h.put]; exact h16
          have a1 : R.putsE b = 50 := by unfold RP.putsE; rw [if_neg hm', if_pos h16']
          have a2 : R.puts b = { R with sp := 50 } := by unfold RP.puts; rw [if_neg hm', if_pos h16']
          have a3 : T.puts b data = (50, { T with sp := 50 }) := by unfold TS.puts; rw [if_neg he, if_neg hm, if_pos h16]
          rw [if_neg (by rw [a1]; decide), a1, a2, a3]
          exact ⟨rfl, h.nb, h.nn, h.raw, h.rl, h.put, rfl, h.op, h.dead, h.data, h.blocks, h.nodes, h.od⟩
        · have h16' : ¬ R.put.length = 16 := by rw [h.put]; exact h16
          have a1 : R.putsE b = 0 := by unfold RP.putsE; rw [if_neg hm', if_neg h16']
          have a2 : R.puts b = { R with put := R.put ++ [b] } := by unfold RP.puts; rw [if_neg hm', if_neg h16']
          have a3 : T.puts b data = (0, { T.lay b data with put := T.put ++ [b] }) := by unfold TS.puts; rw [if_neg he, if_neg hm, if_neg h16]
          rw [if_pos a1, a1, a2, a3]
          exact ⟨rfl, hnb, hnn, hraw, hrl, by rw [← h.put], h.sp, h.op, h.dead, h.data, h.blocks, h.nodes, h.od⟩
  · simp only [if_neg hs]
    exact ⟨trivial, h⟩
end
end Go.Vk
