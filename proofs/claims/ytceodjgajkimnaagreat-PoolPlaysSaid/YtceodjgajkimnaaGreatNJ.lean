/- The walk of Abort of a transaction that is open. -/
import Derived.Test.YtceodjgajkimnaaGreatMH
set_option linter.unusedVariables false

namespace Go.Vk
open Go.RowKit Go.Proofs

section
variable {w : World} {C : TxC} {D : DM} {own : List OEnt} {xc sp : Nat} {X : Nat → Prop}
def endW (w : World) (t sb mx xc : Nat) : World := ((w.setCell ⟨t, 3, none⟩ (.bool true)).setCell ⟨sb, 9, none⟩ (.bool false)).setBlk mx (mapO [] xc)
theorem endW_k (w : World) (t sb mx xc : Nat) : Keeps (fun i => i = t ∨ i = sb ∨ i = mx) w (endW w t sb mx xc) :=
  ((((Keeps.refl (fun i => i = t ∨ i = sb ∨ i = mx) w).setCell (p := ⟨t, 3, none⟩) (.inl (.inl rfl)) (.bool true)).setCell (p := ⟨sb, 9, none⟩) (.inl (.inr (.inl rfl))) (.bool false))).step ((keeps_setBlk _ mx (mapO [] xc)).mono fun _ _ e => .inr (.inr e))
theorem tend_w (h : TxAt w C D own xc sp false X) : Calls Tryz.prog 67 #[.pointer (some ⟨C.t, 0, none⟩)] w fun e w' => e = .returned (.tuple #[]) ∧ w' = endW w C.t C.sb C.mx xc := by
  have ht := h.ht
  have hs := h.hs
  have hm := h.hx.hm
  have mt : C.mx ≠ C.t := fun e => h.tX (by simp [mapFoot, e])
  have ms : C.mx ≠ C.sb := fun e => h.sX (by simp [mapFoot, e])
  have b1 : Blk (w.setCell ⟨C.t, 3, none⟩ (.bool true)) C.t (txO C.sb C.mx sp true) := by simpa [txO] using ht.setCell 3 (.bool true)
  have s1 := hs.setCell_ne (p := ⟨C.t, 3, none⟩) (fun e => h.ts e.symm) (.bool true)
  have b2 := b1.setCell_ne (p := ⟨C.sb, 9, none⟩) h.ts (.bool false)
  have m2 := (hm.setCell_ne (p := ⟨C.t, 3, none⟩) mt (.bool true)).setCell_ne (p := ⟨C.sb, 9, none⟩) ms (.bool false)
  have hcl := fun ty => run_clear und138 m2 ty
  have c0 := b1.cell 0
  have c1 := b2.cell 1
  have f3 := ht.frz 3
  have f9 := s1.frz 9
  have a0 := ht.cell 0
  have a1 := ht.cell 1
  have a3 := ht.cell 3
  have a9 := hs.cell 9
  have f9' := hs.frz 9
  simp at c0 c1 a0 a1 a3 a9
  clear b1 b2 m2
  replace h := hid h; replace ht := hid ht; replace hs := hid hs; replace hm := hid hm; replace mt := hid mt; replace ms := hid ms; replace s1 := hid s1
  go_enter Tryz.func67, Tryz.ntmps67
  go_wp2
  go_end0
  exact ⟨rfl, rfl⟩
theorem tabort_w (h : TxAt w C D own xc sp false X) (hl : goneB D C.G.life = false) : Calls Tryz.prog 35 #[.pointer (some ⟨C.t, 0, none⟩)] w fun e w' => e = .returned (.int .i64 0) ∧ TxAt w' { C with op := false } D [] xc sp true X ∧ Keeps (fun i => i = C.t ∨ i = C.sb ∨ i = C.mx) w w' := by
  have hgo := gone_w h.hs h.hd
  rw [hl] at hgo
  have mt : C.mx ≠ C.t := fun e => h.tX (by simp [mapFoot, e])
  have ms : C.mx ≠ C.sb := fun e => h.sX (by simp [mapFoot, e])
  have mF : C.mx ∉ C.F := h.xF C.mx (by simp [mapFoot])
  have mO : C.mx ∉ mapFoot C.mo C.ov := h.xO C.mx (by simp [mapFoot])
  have hE : ∀ n, Calls Tryz.prog 67 #[.pointer (some ⟨C.t, 0, none⟩)] (w.drewN n) fun e w' => e = .returned (.tuple #[]) ∧ TxAt w' { C with op := false } D [] xc sp true X ∧ Keeps (fun i => i = C.t ∨ i = C.sb ∨ i = C.mx) w w' := fun n => by
    have hn := h.quiet ((Keeps.refl (fun _ => False) w).drewN n) (fun _ f => f.elim) (fun i hi => (h.xX i hi).2.2.1)
    refine (tend_w hn).mono ?_
    rintro e w' ⟨rfl, rfl⟩
    have hk := endW_k (w.drewN n) C.t C.sb C.mx xc
    refine ⟨rfl, ?_, (((Keeps.refl (fun _ => False) w).drewN n).mono fun _ _ f => f.elim).step hk⟩
    have e1 : Blk (endW (w.drewN n) C.t C.sb C.mx xc) C.t (txO C.sb C.mx sp true) := by
      have := ((hn.ht.setCell 3 (.bool true)).setCell_ne (p := ⟨C.sb, 9, none⟩) h.ts (.bool false))
      exact (keeps_setBlk _ C.mx (mapO [] xc)).blk (by simpa [txO] using this) (fun e => mt e.symm)
    have e2 : Blk (endW (w.drewN n) C.t C.sb C.mx xc) C.sb (storeO C.d C.l C.mo C.G.s C.G.lg C.G.n C.G.life false) := by
      have := (hn.hs.setCell_ne (p := ⟨C.t, 3, none⟩) (fun e => h.ts e.symm) (.bool true)).setCell 9 (.bool false)
      exact (keeps_setBlk _ C.mx (mapO [] xc)).blk (by simpa [storeO] using this) (fun e => ms e.symm)
    have e3 : Blk (endW (w.drewN n) C.t C.sb C.mx xc) C.mx (mapO ([].map OEnt.ent) xc) := by
      have := ((hn.hx.hm.setCell_ne (p := ⟨C.t, 3, none⟩) mt (.bool true)).setCell_ne (p := ⟨C.sb, 9, none⟩) ms (.bool false))
      exact this.setBlk (mapO [] xc)
    have hsub : ∀ k ∈ mapFoot C.mx [], k = C.mx := fun k hk => by simpa [mapFoot] using hk
    exact
      { ht := e1
        hs := e2
        hd := hn.hd.keeps hk (fun i hi e => by
          rcases e with rfl | rfl | rfl
          · exact h.tF hi
          · exact h.sF hi
          · exact mF hi)
        ho := hn.ho.keeps hk (fun i hi e => by
          rcases e with rfl | rfl | rfl
          · exact h.tO hi
          · exact h.sO hi
          · exact mO hi)
        hx := ⟨e3, (fun _ he => by cases he), List.nodup_nil, List.nodup_nil, (fun _ he => by cases he)⟩
        tF := h.tF
        sF := h.sF
        oF := h.oF
        xF := fun k hk => by rw [hsub k hk]; exact mF
        ts := h.ts
        tO := h.tO
        tX := fun hk => mt (hsub _ hk).symm
        sO := h.sO
        sX := fun hk => ms (hsub _ hk).symm
        xO := fun k hk => by rw [hsub k hk]; exact mO
        mb := fun e he => by cases he
        kb := fun e he => by cases he
        gn := h.gn
        n2 := h.n2
        xX := fun k hk => by
          obtain ⟨x1, x2, x3, x4, x5⟩ := h.xX k hk
          exact ⟨x1, x2, x3, x4, fun hm => x5 (by rw [hsub k hm]; simp [mapFoot])⟩ }
  have c0 := h.ht.cell 0
  have c3 := h.ht.cell 3
  simp at c0 c3
  replace h := hid h; replace hgo := hid hgo; replace hl := hid hl; replace mt := hid mt; replace ms := hid ms; replace mF := hid mF; replace mO := hid mO; replace hE := hid hE
  go_enter Tryz.func35, Tryz.ntmps35
  go_wp2_with (first
    | (go_at_call 50; refine hgo.out.mono ?_; rintro e w' ⟨rfl, m, rfl⟩; have hEm := hE.out m; replace hEm := hid hEm)
    | (go_at_call 67; refine hEm.out.mono ?_; rintro e w' ⟨rfl, x1, x2⟩; replace x1 := hid x1; replace x2 := hid x2))
  go_ret
  exact ⟨rfl, x1.out, x2.out⟩
end
end Go.Vk
