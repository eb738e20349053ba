/- Part of the proof: Rg6 Rg7 Rg8 Rg9. -/
import Derived.Test.YtjeelghnmkefcaaGreatQ22
import Derived.Deep.QuietTactic
set_option linter.unusedVariables false
set_option maxHeartbeats 16000000
set_option maxRecDepth 100000
namespace Go.Vk
open Go.RowKit Go.Proofs
open Tryz (prog)
def Zn (w0 w:World) (Z:Nat->Prop) (i:Nat):Prop:=Z i∨w0.heap.size<=i/\i<w.heap.size
structure AdV (w w':World) (m:Nat) (R':RP) (Z:Nat->Prop):Prop where
 rep:AcP w' m R' (Zn w w' Z)
 k:AaA Z w w'
section
variable {w0 w w':World} {m:Nat} {R R':RP} {Z:Nat->Prop}
theorem AcP.up {Z':Nat->Prop} (h:AcP w m R Z) (hZ:∀ i,Z i->Z' i):AcP w m R Z':=by
 obtain ⟨V,h⟩:=h;exact ⟨V,h.up hZ⟩
theorem AdV.quiet (h:AcP w m R Z) (k:AaA NoF w w'):AdV w w' m R Z:=
 ⟨(h.keeps k (λ _ _ f=>f)).up λ _ h=>.inl h,k.mono λ _ _ f=>f.elim⟩
theorem Zn.trans {w1 w2:World} {i:Nat} (h1:w0.heap.size<=w1.heap.size) (h2:w1.heap.size<=w2.heap.size) (h:Zn w1 w2 (Zn w0 w1 Z) i):Zn w0 w2 Z i:=by
 rcases h with (h|h)|h
 ·exact .inl h
 ·exact .inr ⟨h.1,by omega⟩
 ·exact .inr ⟨by omega,h.2⟩
theorem AdV.trans {w1 w2:World} {R1 R2:RP} (h:AdV w0 w1 m R1 Z) (h':AdV w1 w2 m R2 (Zn w0 w1 Z)):AdV w0 w2 m R2 Z:=
 ⟨h'.rep.up λ i hi=>Zn.trans h.k.size h'.k.size hi,h.k.trans h'.k (λ i hi f=>f.elim id (λ x=>by omega))⟩
theorem arX (h:AcP w0 m R Z) (hlt:∀ i,Z i->i<w0.heap.size) (a0:R.put.length<=16) (k:AaA NoF w0 w) (nd:Bool) {v:Value} {l:List Bool} {lo:Nat} (hv:AaW w lo v l) (hl:l.length=4096) (hg:∀ g,v.ownBlock=some g->w0.heap.size<=g) :
  Calls prog 114 #[↑m,I nd.toNat,v] w λ e w'=>e=U (I (R.laysE nd l:Nat))/\AdV w0 w' m (R.lays nd l) Z:=by
 obtain ⟨V,h⟩:=h
 refine (aAU (h.keeps k (λ _ _ f=>f)) a0 nd (aeG hv (aEY _)) hl (λ g e z=>by have:=hg g e;have:=hlt g z;omega)).mono ?_
 rintro e w' ⟨rfl,h2,k2⟩
 have a1:=k.size
 have a2:=k2.size
 refine ⟨rfl,h2.up λ i hi=>?_,(k.mono λ _ _ f=>f.elim).step k2⟩
 rcases hi with hi|hi|hi
 ·exact .inl hi
 ·exact .inr ⟨hg i hi,by have:=ad1 hv hi;omega⟩
 ·exact .inr ⟨by omega,hi.2⟩
theorem aC5 (R:RP) (nd:Bool) (l:List Bool) (h:R.put.length<=16):(R.lays nd l).put.length<=16:=by
 unfold RP.lays RP.withK RP.puts
 split
 ·exact h
 ·repeat' split
  all_goals first|exact h|(simp only [aEH,List.length_singleton];omega)
def RP.clearE (R:RP):Nat:=if R.state=0 then (if R.laysE false (aaZ (abC R.data))=0 then (R.lays false (aaZ (abC R.data))).laysE true noBits else R.laysE false (aaZ (abC R.data))) else R.state
def RP.clear (R:RP):RP:=if R.state=0 then (if R.laysE false (aaZ (abC R.data))=0 then (R.lays false (aaZ (abC R.data))).lays true noBits else R.lays false (aaZ (abC R.data))) else R
theorem avA (k:Nat) (hk:k<4096):aaZ (abC (k+1))=(aaZ (abC k)).set k true:=by
 refine List.ext_getElem (by rw [aEV,aa5,aa5]) λ i h1 h2=>?_
 rw [ac9,List.getElem_set,ac9,akT _ _ (by omega),akT _ _ (by omega)]
 by_cases e:k=i
 ·subst e;simp
 ·rw [if_neg e,decide_eq_decide];omega
theorem AcP.dataCell (h:AcP w m R Z):w.cell? ⟨m,2,none⟩=some (I (R.data:Nat)):=by
 obtain ⟨V,h⟩:=h
 have hm:=h.hm
 unfold refO at hm
 have:=hm.cell 2
 simpa using this
theorem axW (h:AcP w m R Z) (hlt:∀ i,Z i->i<w.heap.size) (a5:R.put.length<=16) (hd:R.data<=4096) :
  Calls prog 49 #[↑m] w λ e w'=>e=U (I (R.clearE:Nat))/\AdV w w' m R.clear Z:=by
 have hS:=aeF h
 have hN:=λ w=>avC w
 have hq:=AdV.quiet h (AaA.refl _ w)
 have a6:=h.dataCell
 unfold RP.clearE RP.clear
 by_cases hs:R.state=0
 ·rw [if_pos hs,if_pos hs]
  rw [hs] at hS
  have hL:=λ w1 (k:AaA NoF w w1) g cap (hr:AaW w1 w.heap.size (.slice (some ⟨g,0,none⟩) 4096 cap) (aaZ (abC R.data)))=>arX h hlt a5 k false hr (aa5 _) (λ g e=>aaV hr g e)
  have a4:=λ w1 (hst:AdV w w1 m (R.lays false (aaZ (abC R.data))) Z) w2 (k:AaA NoF w1 w2) g cap (hr:AaW w2 w1.heap.size (.slice ↑g 4096 cap) noBits)=>
   (arX hst.rep (λ i hi=>hi.elim (λ z=>aEJ (hlt i z) hst.k.size) (·.2)) (aC5 _ _ _ a5) k true hr acA (λ g e=>aaV hr g e)).mono λ e w' (x:e=U (I ((R.lays false (aaZ (abC R.data))).laysE true noBits:Nat))/\AdV w1 w' m ((R.lays false (aaZ (abC R.data))).lays true noBits) (Zn w w1 Z))=>(⟨x.1,hst.trans x.2⟩:e=U (I ((R.lays false (aaZ (abC R.data))).laysE true noBits:Nat))/\AdV w w' m ((R.lays false (aaZ (abC R.data))).lays true noBits) Z)
  have hst:=λ k (hk:k<4096)=>avA k hk
  have h0:aaZ (abC 0)=noBits:=af9 512
  have hlen:=λ k=>aa5 (abC k)
  have a3:=λ w1 (k:AaA NoF w w1)=>k.cellF a6 (λ f=>f)
  generalize R.lays false (aaZ (abC R.data))=R1 at *
  generalize R.laysE false (aaZ (abC R.data))=le at *
  generalize R.data=D at *
  generalize R1.laysE true noBits=le2 at *
  simp only [Bool.toNat_true,Bool.toNat_false] at hL a4
  have a1:le≠0->(if le=0 then le2 else le)=le/\(if le=0 then R1.lays true noBits else R1)=R1:=λ h=>⟨if_neg h,if_neg h⟩
  have a0:le=0->(if le=0 then le2 else le)=le2/\(if le=0 then R1.lays true noBits else R1)=R1.lays true noBits:=λ h=>⟨if_pos h,if_pos h⟩
  generalize (if le=0 then le2 else le)=leX at *
  generalize (if le=0 then R1.lays true noBits else R1)=RX at *
  replace ⟨h,hS,hN,hq,a6,hs,hL,a4⟩:=yh8 h hS hN hq a6 hs hL a4;replace ⟨hst,h0,hlen,a3,a1,a0⟩:=yh6 hst h0 hlen a3 a1 a0
  go_enter Tryz.func49,Tryz.ntmps49
  go_upto_region 5 with (first
   | (go_at_call 65;refine hS.out.mono ?_;rintro e w1 ⟨rfl,rfl⟩)
   | (go_at_call 113;refine (hN.out _).mono ?_;rintro e w2 ⟨g,cap,rfl,hg1,ae,hr,hk⟩;replace ⟨hr,hk⟩:=yh2 hr hk))
  have hr0:AaW w2 w.heap.size (.slice ↑g 4096 cap) (aaZ (abC 0)):=by rw [h0.out];exact hr.out
  clear hr
  replace hr0:=hid hr0
  go_wp2
  go_loopw [5] (λ i wr=>∃ k:Nat,k<=D/\i=I k/\AaW wr w.heap.size (.slice ↑g 4096 cap) (aaZ (abC k))/\AaA NoF w wr) (λ i _=>D - (intOf i).toNat)
  case atStart=>exact ⟨0,by omega,rfl,hr0.out,hk.out⟩
  case round=>
   obtain ⟨k,hk1,rfl,hr,hk2⟩:=hrel
   clear hr0 hk
   have c2:=a3.out wr hk2
   by_cases ac:k<D
   ·have ad:(k:Int)<D:=by omega
    have af:0<=(k:Int)/\(k:Int)<(4096:Nat):=by omega
    have a2:=hr.set (hlen.out _) k true
    rw [← hst.out k (by omega)] at a2
    have ag:=hr.frz (hlen.out _) k
    have a8:=hk2.setCell (p:=⟨g,k,none⟩) (.inr hg1) ↑true
    obtain ⟨b0,ah⟩:∃ b0,wr.cell? ⟨g,k,none⟩=some (.bool b0):=by
     obtain ⟨_,_,e1,_,_,e2⟩:=AaW.slice hr (by rw [hlen.out];decide)
     injection e1 with e1 _ e3
     injection e1 with e1
     injection e1 with e1
     subst e1
     exact ⟨_,e2 k (by rw [hlen.out];omega)⟩
    replace ⟨a2,a8,hr,hk2⟩:=yh4 a2 a8 hr hk2
    go_wp2
    exact ⟨⟨k+1,by omega,by go_num,a2.out,a8.out⟩,by simp [intOf];omega⟩
   ·have ad:¬ (k:Int)<D:=by omega
    obtain rfl:k=D:=by omega
    have hL1:=hL.out wr hk2 g cap hr
    clear hL
    replace hL1:=hid hL1;clear hr hk2
    go_upto_region 10 with (go_at_call 114;refine hL1.out.mono ?_;rintro e w3 ⟨rfl,hs3⟩;replace hs3:=hid hs3)
    by_cases a7:le=0
    ·obtain ⟨rfl,rfl⟩:=a0.out a7
     have a9:(le:Int)=0:=by omega
     have hL3:=a4.out _ hs3.out
     clear a4 hL1 a1 a0 a7
     replace hL3:=hid hL3
     go_wp2_with (first
      | (go_at_call 113;refine (hN.out _).mono ?_;rintro e w4 ⟨g4,cap4,rfl,_,_,aa,ab⟩;have hL4:=hL3.out _ ab _ _ aa;replace hL4:=hid hL4;clear aa ab)
      | (go_at_call 114;refine hL4.out.mono ?_;rintro e w5 ⟨rfl,hs5⟩;replace hs5:=hid hs5))
     go_ret
     exact ⟨rfl,hs5.out⟩
    ·obtain ⟨rfl,rfl⟩:=a1.out a7
     have a9:¬ (leX:Int)=0:=by omega
     clear a4 hL1 a1 a0 a7
     go_wp2
     go_ret
     exact ⟨rfl,hs3.out⟩
 ·rw [if_neg hs,if_neg hs]
  have ai:¬ (R.state:Int)=0:=by omega
  generalize R.state=s at *
  replace ⟨hS,hq⟩:=yh2 hS hq;clear h hs hN a6
  go_enter Tryz.func49,Tryz.ntmps49
  go_wp2_with (go_at_call 65;refine hS.out.mono ?_;rintro e w1 ⟨rfl,rfl⟩)
  go_ret
  exact ⟨rfl,hq.out⟩
end
section
variable {w w':World} {m:Nat} {R R':RP} {V:RefV} {Z:Nat->Prop}
def RefV.NK (V:RefV) (nd:Bool):Value:=if nd then V.NN else V.NB
theorem AdB.rowK (h:AdB w m R V Z) (nd:Bool):AaW w 0 (V.NK nd) (R.nowK nd)/\(R.nowK nd).length=4096:=by
 cases nd
 ·exact ⟨h.nb,h.lb.2.2.1⟩
 ·exact ⟨h.nn,h.lb.2.2.2⟩
theorem AdB.cellK (h:AdB w m R V Z) (nd:Bool):w.cell? ⟨m,5+nd.toNat,none⟩=some (V.NK nd):=by
 have hm:=h.hm
 unfold refO at hm
 cases nd
 ·simpa [RefV.NK] using hm.cell 5
 ·simpa [RefV.NK] using hm.cell 6
theorem auY (R:RP) (b:Nat) (nd:Bool):(R.puts b).nowK nd=R.nowK nd:=by
 unfold RP.puts RP.nowK
 repeat' split
 all_goals rfl
theorem awN (h:AdB w m R V Z) (nd:Bool) (i:Nat) (hi:i<4096) (x:Bool) {w1 w2:World} (k1:AaA NoF w w1) {e:Ending} (hp:AfF w1 m R V Z nd.toNat e w2) :
  e=U (I (R.putsE nd.toNat:Nat))/\AdV w w2 m (R.puts nd.toNat) Z /\
   ∃ g cap b0,w2.cell? ⟨m,5+nd.toNat,none⟩=some (.slice (some ⟨g,0,none⟩) 4096 cap)/\w2.cell? ⟨g,i,none⟩=some (.bool b0)/\w2.frozen? ⟨g,i,none⟩=false /\
    AdV w (w2.setCell ⟨g,i,none⟩ (.bool x)) m ((R.puts nd.toNat).withK nd ((R.nowK nd).set i x)) Z:=by
 obtain ⟨vp,rfl,hA,k2⟩:=hp
 have kZ:AaA Z w w2:=(k1.mono λ _ _ f=>f.elim).step (k2.mono λ i _ f=>by
  rcases f with f|f
  ·rw [f];exact h.zm
  ·exact h.zp i f)
 have a6:=k1.size
 have a7:=k2.size
 have a3:∀ i,(Z i∨w1.heap.size<=i/\i<w2.heap.size)->Zn w w2 Z i:=λ i hi=>hi.elim .inl (λ x=>.inr ⟨by omega,x.2⟩)
 refine ⟨rfl,⟨⟨_,hA.up a3⟩,kZ⟩,?_⟩
 obtain ⟨hr,hl⟩:=hA.rowK nd
 obtain ⟨g,cap,e1,_,a4,e2⟩:=AaW.slice hr (by omega)
 have hc:=hA.cellK nd
 rw [e1,hl] at hc
 have hr':=hr
 rw [e1,hl] at hr'
 have a1:=hr'.set hl i x
 have a5:Zn w w2 Z g:=by
  have hz:(RefV.NK { V with P:=vp } nd).ownBlock=some g:=by rw [e1];rfl
  cases nd
  ·exact a3 g (hA.znb g hz)
  ·exact a3 g (hA.znn g hz)
 have kS:AaA (λ j=>(RefV.NK { V with P:=vp } nd).ownBlock=some j) w2 (w2.setCell ⟨g,i,none⟩ (.bool x)):=(AaA.refl _ w2).setCell (p:=⟨g,i,none⟩) (.inl (by rw [e1];rfl)) _
 have hs3:=kS.size
 have hsz:(w2.setCell ⟨g,i,none⟩ (.bool x)).heap.size=w2.heap.size:=aES ..
 have a2:∀ i',(Z i'∨w1.heap.size<=i'/\i'<w2.heap.size)->Zn w (w2.setCell ⟨g,i,none⟩ (.bool x)) Z i':=λ i' hi=>hi.elim .inl (λ x=>.inr ⟨by omega,by omega⟩)
 refine ⟨g,cap,_,hc,e2 i (by omega),hr'.frz hl i,?_,?_⟩
 ·rw [auY] at a1 hl e1
  have a0:AaW (w2.setCell ⟨g,i,none⟩ (.bool x)) 0 (RefV.NK { V with P:=vp } nd) ((R.nowK nd).set i x):=by rw [e1,hl];exact a1
  cases nd
  ·exact ⟨_,(hA.bitB kS _ a0 (by rw [aEV];exact hl)).up a2⟩
  ·exact ⟨_,(hA.bitN kS _ a0 (by rw [aEV];exact hl)).up a2⟩
 ·refine kZ.trans kS (λ j hj f=>?_)
  rw [e1] at f
  have:g=j:=aEP f
  subst this
  rcases a5 with z|z
  ·exact z
  ·omega
def rLo (R:RP) (nd:Bool):Nat:=if nd then 0 else R.data
def rHi (R:RP) (nd:Bool):Nat:=if nd then R.nodes else R.blocks
def RP.takeA (R:RP) (nd:Bool) (b:List UInt8):Nat × Nat:=if R.state=0 then (match abA b (rLo R nd) (rHi R nd) with|none=>(0,noE nd)|some i=>if R.putsE nd.toNat=0 then (i+nd.toNat,0) else (0,R.putsE nd.toNat)) else (0,R.state)
def RP.take (R:RP) (nd:Bool) (b:List UInt8):RP:=if R.state=0 then (match abA b (rLo R nd) (rHi R nd) with|none=>{ R with sp:=noE nd }|some i=>if R.putsE nd.toNat=0 then (R.puts nd.toNat).withK nd (aaZ (ab2 b i)) else R.puts nd.toNat) else R
def AeM (w:World) (m:Nat) (R:RP) (Z:Nat->Prop) (nd:Bool) (b:List UInt8) (e:Ending) (w':World):Prop:=
 e=U (.tuple #[I ((R.takeA nd b).1:Nat),I ((R.takeA nd b).2:Nat)])/\AdV w w' m (R.take nd b) Z
theorem am0 (h:AdB w m R V Z) (a7:R.put.length<=16) (nd:Bool) (b:List UInt8) (hb:R.nowK nd=aaZ b) (a8:b.length=512) (a9:rLo R nd<=rHi R nd) (ab:rHi R nd<=2048) (hs:R.state=0) :
  ∃ g cap,w.cell? ⟨m,5+nd.toNat,none⟩=some (.slice (some ⟨g,0,none⟩) 4096 cap) /\
   (∀ w1,AaA NoF w w1->Calls prog 190 #[.slice (some ⟨g,0,none⟩) 4096 cap,I (rLo R nd:Nat),I (rHi R nd:Nat)] w1 λ e w'=>e=U (I (lowI (abA b (rLo R nd) (rHi R nd))))/\w1=w') /\
   (abA b (rLo R nd) (rHi R nd)=none->∀ w1,AaA NoF w w1->AeM w m R Z nd b (U (.tuple #[I 0,I (noE nd:Nat)])) (w1.setCell ⟨m,8+2,none⟩ (I (noE nd:Nat)))) /\
   (∀ i,abA b (rLo R nd) (rHi R nd)=some i->i<2048/\∀ w1,AaA NoF w w1->Calls prog 189 #[↑m,I nd.toNat] w1 λ e w2=>
    ∃ pe:Nat,e=U (I pe)/\(pe≠0->AeM w m R Z nd b (U (.tuple #[I 0,I pe])) w2) /\
     (pe=0->∃ g cap b0,w2.cell? ⟨m,5+nd.toNat,none⟩=some (.slice (some ⟨g,0,none⟩) 4096 cap)/\w2.cell? ⟨g,i,none⟩=some (.bool b0)/\w2.frozen? ⟨g,i,none⟩=false /\
      AeM w m R Z nd b (U (.tuple #[I (i+nd.toNat:Nat),I 0])) (w2.setCell ⟨g,i,none⟩ ↑true))):=by
 obtain ⟨hr,hl⟩:=h.rowK nd
 obtain ⟨g,cap,e1,_,aa,e2⟩:=AaW.slice hr (by omega)
 have hc:=h.cellK nd
 rw [e1,hl] at hc
 refine ⟨g,cap,hc,λ w1 k1=>?_,λ hf w1 k1=>⟨?_,?_⟩,λ i hf=>?_⟩
 ·refine ayF w1 _ b ?_ _ _ a9 (by omega)
  refine ⟨g,cap,by rw [aa5],λ i hi=>?_⟩
  have:=k1.cellF (e2 i (by rw [hl];rw [aa5] at hi;exact hi)) (λ f=>f)
  simpa only [hb] using this
 ·simp [RP.takeA,hs,hf]
 ·have hR:R.take nd b={ R with sp:=noE nd }:=by simp [RP.take,hs,hf]
  rw [hR]
  have kS:AaA (· = m) w1 (w1.setCell ⟨m,8+2,none⟩ (I (noE nd:Nat))):=(AaA.refl (· = m) w1).setCell (p:=⟨m,8+2,none⟩) (.inl rfl) _
  have h1:=h.keeps k1 (λ _ _ f=>f)
  have a5:=h1.hm
  unfold refO at a5
  have a0:=a5.setCell 10 (I (noE nd:Nat))
  simp at a0
  exact ⟨⟨_,(h1.flag kS (noE nd) R.op R.dead id (by simpa [refO] using a0)).up λ i hi=>.inl hi⟩,(k1.mono λ _ _ f=>f.elim).step (kS.mono λ i _ f=>by rw [f];exact h.zm)⟩
 ·obtain ⟨a1,a2,a3,a4⟩:=acL hf
  refine ⟨by omega,λ w1 k1=>(anW (h.keeps k1 (λ _ _ f=>f)) a7 nd.toNat).mono λ e w2 hp=>?_⟩
  obtain ⟨rfl,hst,g2,cap2,b0,y1,y2,y3,y4⟩:=awN h nd i (by omega) true k1 hp
  refine ⟨_,rfl,λ a6=>⟨?_,?_⟩,λ a6=>⟨g2,cap2,b0,y1,y2,y3,?_,?_⟩⟩
  ·simp [RP.takeA,hs,hf,a6]
  ·have hR:R.take nd b=R.puts nd.toNat:=by simp [RP.take,hs,hf,a6]
   rw [hR];exact hst
  ·simp [RP.takeA,hs,hf,a6]
  ·have hR:R.take nd b=(R.puts nd.toNat).withK nd (aaZ (ab2 b i)):=by simp [RP.take,hs,hf,a6]
   rw [hR,amJ b i (by omega) a8,a3,← hb];exact y4
end
section
variable {w w':World} {m:Nat} {R R':RP} {V:RefV} {Z:Nat->Prop}
theorem axR (h:AcP w m R Z) (a8:R.put.length<=16) (b:List UInt8) (hb:R.nowK false=aaZ b) (a7:b.length=512) (aa:rLo R false<=rHi R false) (ab:rHi R false<=2048) :
  Calls prog 132 #[↑m] w (AeM w m R Z false b):=by
 have hS:=aeF h
 by_cases hs:R.state=0
 ·obtain ⟨V,h⟩:=h
  obtain ⟨g,cap,hc,a0,a3,a2⟩:=am0 h a8 false b hb a7 aa ab hs
  have hm:=h.hm
  unfold refO at hm
  have c0:=hm.cell 0
  have c1:=hm.cell 1
  have c2:=hm.cell 2
  have c10:=hm.cell 10
  have cf:=hm.frz
  simp at c0 c1 c2 c10
  have a4:∀ k,AaA NoF w (w.drewN k):=λ k=>(AaA.refl _ w).drewN k
  rw [hs] at hS
  simp only [Bool.toNat_true,Bool.toNat_false] at hc a2
  unfold rLo rHi at *
  simp only [Bool.false_eq_true,if_true,if_false] at *
  generalize AeM w m R Z false b=Post at *
  generalize R.data=D at *
  generalize R.blocks=BL at *
  generalize R.nodes=NO at *
  cases hf:abA b D BL with
  | none=>
   have a3:=a3 hf
   rw [hf] at a0
   unfold noE at a3
   simp only [Bool.false_eq_true,if_true,if_false] at a3
   clear a2
   replace ⟨h,hm,hS,a0,a3,a4,hb,a7⟩:=yh8 h hm hS a0 a3 a4 hb a7;replace ⟨hs,hf⟩:=yh2 hs hf
   go_enter Tryz.func132,Tryz.ntmps132
   go_upto_region 4 with (go_at_call 65;refine hS.out.mono ?_;rintro e w1 ⟨rfl,rfl⟩)
   go_quiet (first|(go_at_call 190;exact Calls.quiet_of_same ((a0.out _ (a4.out _)).mono λ e w' x=>⟨x.1,x.2.symm⟩)))
   have hfin:=a3.out _ (a4.out nq)
   replace hfin:=hid hfin
   have a9:lowI none=-1:=rfl
   simp only [a9]
   go_wp2
   exact hfin.out
  | some i=>
   obtain ⟨hi,hP⟩:=a2 i hf
   rw [hf] at a0
   clear a3 a2
   have hpos:lowI (some i)=(i:Int):=rfl
   rw [hpos] at a0
   replace ⟨h,hS,a0,hP,a4,hs⟩:=yh6 h hS a0 hP a4 hs;clear hm hb a7 hf
   go_enter Tryz.func132,Tryz.ntmps132
   go_upto_region 4 with (go_at_call 65;refine hS.out.mono ?_;rintro e w1 ⟨rfl,rfl⟩)
   go_quiet (first|(go_at_call 190;exact Calls.quiet_of_same ((a0.out _ (a4.out _)).mono λ e w' x=>⟨x.1,x.2.symm⟩)))
   have hP2:=hP.out _ (a4.out nq)
   replace hP2:=hid hP2
   go_upto_region 9 with (go_at_call 189;refine hP2.out.mono ?_;rintro e w2 ⟨pe,rfl,a5,a1⟩;replace ⟨a5,a1⟩:=yh2 a5 a1)
   have ad:0<=(i:Int)/\(i:Int)<(4096:Nat):=by omega
   by_cases a6:pe=0
   ·obtain ⟨g2,cap2,b0,y1,y2,y3,hfin⟩:=a1.out a6
    have ac:(pe:Int)=0:=by omega
    replace ⟨hfin,a6⟩:=yh2 hfin a6
    go_wp2
    exact hfin.out
   ·have hfin:=a5.out a6
    have ac:¬ (pe:Int)=0:=by omega
    replace hfin:=hid hfin;clear a6
    go_wp2
    exact hfin.out
 ·have hfin:AeM w m R Z false b (U (.tuple #[I 0,I (R.state:Nat)])) w:=⟨by simp [RP.takeA,hs],by
   have hR:R.take false b=R:=by simp [RP.take,hs]
   rw [hR];exact AdV.quiet h (AaA.refl _ w)⟩
  have ae:¬ (R.state:Int)=0:=by omega
  generalize AeM w m R Z false b=Post at *
  generalize R.state=s at *
  replace ⟨hS,hfin⟩:=yh2 hS hfin;clear h hs
  go_enter Tryz.func132,Tryz.ntmps132
  go_wp2_with (go_at_call 65;refine hS.out.mono ?_;rintro e w1 ⟨rfl,rfl⟩)
  exact hfin.out
theorem axQ (h:AcP w m R Z) (a8:R.put.length<=16) (b:List UInt8) (hb:R.nowK true=aaZ b) (a7:b.length=512) (aa:rLo R true<=rHi R true) (ab:rHi R true<=2048) :
  Calls prog 115 #[↑m] w (AeM w m R Z true b):=by
 have hS:=aeF h
 by_cases hs:R.state=0
 ·obtain ⟨V,h⟩:=h
  obtain ⟨g,cap,hc,a0,a3,a2⟩:=am0 h a8 true b hb a7 aa ab hs
  have hm:=h.hm
  unfold refO at hm
  have c0:=hm.cell 0
  have c1:=hm.cell 1
  have c2:=hm.cell 2
  have c10:=hm.cell 10
  have cf:=hm.frz
  simp at c0 c1 c2 c10
  have a4:∀ k,AaA NoF w (w.drewN k):=λ k=>(AaA.refl _ w).drewN k
  rw [hs] at hS
  simp only [Bool.toNat_true,Bool.toNat_false] at hc a2
  unfold rLo rHi at *
  simp only [Bool.false_eq_true,if_true,if_false] at *
  generalize AeM w m R Z true b=Post at *
  generalize R.data=D at *
  generalize R.blocks=BL at *
  generalize R.nodes=NO at *
  cases hf:abA b 0 NO with
  | none=>
   have a3:=a3 hf
   rw [hf] at a0
   unfold noE at a3
   simp only [Bool.false_eq_true,if_true,if_false] at a3
   clear a2
   replace ⟨h,hm,hS,a0,a3,a4,hb,a7⟩:=yh8 h hm hS a0 a3 a4 hb a7;replace ⟨hs,hf⟩:=yh2 hs hf
   go_enter Tryz.func115,Tryz.ntmps115
   go_upto_region 4 with (go_at_call 65;refine hS.out.mono ?_;rintro e w1 ⟨rfl,rfl⟩)
   go_quiet (first|(go_at_call 190;exact Calls.quiet_of_same ((a0.out _ (a4.out _)).mono λ e w' x=>⟨x.1,x.2.symm⟩)))
   have hfin:=a3.out _ (a4.out nq)
   replace hfin:=hid hfin
   have a9:lowI none=-1:=rfl
   simp only [a9]
   go_wp2
   exact hfin.out
  | some i=>
   obtain ⟨hi,hP⟩:=a2 i hf
   rw [hf] at a0
   clear a3 a2
   have hpos:lowI (some i)=(i:Int):=rfl
   rw [hpos] at a0
   replace ⟨h,hS,a0,hP,a4,hs⟩:=yh6 h hS a0 hP a4 hs;clear hm hb a7 hf
   go_enter Tryz.func115,Tryz.ntmps115
   go_upto_region 4 with (go_at_call 65;refine hS.out.mono ?_;rintro e w1 ⟨rfl,rfl⟩)
   go_quiet (first|(go_at_call 190;exact Calls.quiet_of_same ((a0.out _ (a4.out _)).mono λ e w' x=>⟨x.1,x.2.symm⟩)))
   have hP2:=hP.out _ (a4.out nq)
   replace hP2:=hid hP2
   go_upto_region 9 with (go_at_call 189;refine hP2.out.mono ?_;rintro e w2 ⟨pe,rfl,a5,a1⟩;replace ⟨a5,a1⟩:=yh2 a5 a1)
   have ad:0<=(i:Int)/\(i:Int)<(4096:Nat):=by omega
   by_cases a6:pe=0
   ·obtain ⟨g2,cap2,b0,y1,y2,y3,hfin⟩:=a1.out a6
    have ac:(pe:Int)=0:=by omega
    replace ⟨hfin,a6⟩:=yh2 hfin a6
    go_wp2
    exact hfin.out
   ·have hfin:=a5.out a6
    have ac:¬ (pe:Int)=0:=by omega
    replace hfin:=hid hfin;clear a6
    go_wp2
    exact hfin.out
 ·have hfin:AeM w m R Z true b (U (.tuple #[I 0,I (R.state:Nat)])) w:=⟨by simp [RP.takeA,hs],by
   have hR:R.take true b=R:=by simp [RP.take,hs]
   rw [hR];exact AdV.quiet h (AaA.refl _ w)⟩
  have ae:¬ (R.state:Int)=0:=by omega
  generalize AeM w m R Z true b=Post at *
  generalize R.state=s at *
  replace ⟨hS,hfin⟩:=yh2 hS hfin;clear h hs
  go_enter Tryz.func115,Tryz.ntmps115
  go_wp2_with (go_at_call 65;refine hS.out.mono ?_;rintro e w1 ⟨rfl,rfl⟩)
  exact hfin.out
end
section
variable {w w':World} {m:Nat} {R R':RP} {V:RefV} {Z:Nat->Prop}
def outK (R:RP) (nd:Bool) (n:Int):Prop:=n<((rLo R nd+nd.toNat:Nat):Int)∨((rHi R nd+nd.toNat:Nat):Int)<=n
instance (R:RP) (nd:Bool) (n:Int):Decidable (outK R nd n):=inferInstanceAs (Decidable (_∨_))
def RP.dropE (R:RP) (nd:Bool) (b:List UInt8) (n:Int):Nat:=if R.state=0 then (if outK R nd n then 11 else if abP b (n.toNat - nd.toNat)=true then R.putsE nd.toNat else 62) else R.state
def RP.drop (R:RP) (nd:Bool) (b:List UInt8) (n:Int):RP:=if R.state=0 then (if outK R nd n then R else if abP b (n.toNat - nd.toNat)=true then (if R.putsE nd.toNat=0 then (R.puts nd.toNat).withK nd (aaZ (ab2 b (n.toNat - nd.toNat))) else R.puts nd.toNat) else R) else R
def AdP (w:World) (m:Nat) (R:RP) (Z:Nat->Prop) (nd:Bool) (b:List UInt8) (n:Int) (e:Ending) (w':World):Prop:=
 e=U (I (R.dropE nd b n:Nat))/\AdV w w' m (R.drop nd b n) Z
theorem ar6 (h:AdB w m R V Z) {nd:Bool} (b:List UInt8) {n:Int} (hs:R.state=0) (ho:outK R nd n):AdP w m R Z nd b n (U (I 11)) w:=
 ⟨by simp [RP.dropE,hs,ho],by
  have hR:R.drop nd b n=R:=by simp [RP.drop,hs,ho]
  rw [hR];exact AdV.quiet ⟨V,h⟩ (AaA.refl _ w)⟩
theorem av5 (h:AdB w m R V Z) (a2:R.put.length<=16) (nd:Bool) (b:List UInt8) (hb:R.nowK nd=aaZ b) (a3:b.length=512) (a5:rHi R nd<=2048) (n:Int) (hs:R.state=0) (ho:¬ outK R nd n) :
  ∃ i:Nat,i<2048/\n=((i+nd.toNat:Nat):Int)/\(abP b i=false->AdP w m R Z nd b n (U (I 62)) w) /\
   ∃ g cap,w.cell? ⟨m,5+nd.toNat,none⟩=some (.slice (some ⟨g,0,none⟩) 4096 cap)/\w.cell? ⟨g,i,none⟩=some (.bool (abP b i)) /\
    (abP b i=true->Calls prog 189 #[↑m,I nd.toNat] w λ e w2=>
     ∃ pe:Nat,e=U (I pe)/\(pe≠0->AdP w m R Z nd b n (U (I pe)) w2) /\
      (pe=0->∃ g cap b0,w2.cell? ⟨m,5+nd.toNat,none⟩=some (.slice (some ⟨g,0,none⟩) 4096 cap)/\w2.cell? ⟨g,i,none⟩=some (.bool b0)/\w2.frozen? ⟨g,i,none⟩=false /\
       AdP w m R Z nd b n (U (I 0)) (w2.setCell ⟨g,i,none⟩ ↑false))):=by
 obtain ⟨hr,hl⟩:=h.rowK nd
 obtain ⟨g,cap,e1,_,a4,e2⟩:=AaW.slice hr (by omega)
 have hc:=h.cellK nd
 rw [e1,hl] at hc
 have ho':=ho
 unfold outK at ho'
 have a6:nd.toNat<=1:=by cases nd<;>decide
 refine ⟨n.toNat - nd.toNat,by omega,by omega,λ a0=>⟨by simp [RP.dropE,hs,ho,a0],?_⟩,g,cap,hc,?_,λ a0=>?_⟩
 ·have hR:R.drop nd b n=R:=by simp [RP.drop,hs,ho,a0]
  rw [hR];exact AdV.quiet ⟨V,h⟩ (AaA.refl _ w)
 ·have:=e2 (n.toNat - nd.toNat) (by omega)
  rw [this]
  simp only [hb,ac9]
 ·refine (anW h a2 nd.toNat).mono λ e w2 hp=>?_
  obtain ⟨rfl,hst,g2,cap2,b0,y1,y2,y3,y4⟩:=awN h nd (n.toNat - nd.toNat) (by omega) false (AaA.refl _ w) hp
  refine ⟨_,rfl,λ a1=>⟨?_,?_⟩,λ a1=>⟨g2,cap2,b0,y1,y2,y3,?_,?_⟩⟩
  ·simp [RP.dropE,hs,ho,a0]
  ·have hR:R.drop nd b n=R.puts nd.toNat:=by simp [RP.drop,hs,ho,a0,a1]
   rw [hR];exact hst
  ·simp [RP.dropE,hs,ho,a0,a1]
  ·have hR:R.drop nd b n=(R.puts nd.toNat).withK nd (aaZ (ab2 b (n.toNat - nd.toNat))):=by simp [RP.drop,hs,ho,a0,a1]
   rw [hR,amJ b _ (by omega) a3,a0,← hb];exact y4
theorem axV (h:AcP w m R Z) (a5:R.put.length<=16) (b:List UInt8) (hb:R.nowK false=aaZ b) (a8:b.length=512) (a9:rHi R false<=2048) (n:Int) (ab:IntKind.i64.wrap n=n) :
  Calls prog 134 #[↑m,I n] w (AdP w m R Z false b n):=by
 have hS:=aeF h
 by_cases hs:R.state=0
 ·obtain ⟨V,h⟩:=h
  have hm:=h.hm
  unfold refO at hm
  have c0:=hm.cell 0
  have c1:=hm.cell 1
  have c2:=hm.cell 2
  simp at c0 c1 c2
  rw [hs] at hS
  by_cases ho:outK R false n
  ·have hfin:=ar6 h (nd:=false) b hs ho
   generalize AdP w m R Z false b n=Post at *
   unfold outK rLo rHi at *
   simp only [Bool.toNat_true,Bool.toNat_false,Bool.false_eq_true,if_true,if_false] at *
   generalize R.data=D at *
   generalize R.blocks=BL at *
   generalize R.nodes=NO at *
   by_cases h1:n<(D:Int)
   ·skip
    replace ⟨h,hm,hS,hb,hs,hfin,ho⟩:=yh7 h hm hS hb hs hfin ho
    go_enter Tryz.func134,Tryz.ntmps134
    go_wp2_with (go_at_call 65;refine hS.out.mono ?_;rintro e w1 ⟨rfl,rfl⟩)
    exact hfin.out
   ·have h2:(BL:Int)<=n:=by omega
    replace ⟨h,hm,hS,hb,hs,hfin,ho⟩:=yh7 h hm hS hb hs hfin ho
    go_enter Tryz.func134,Tryz.ntmps134
    go_wp2_with (go_at_call 65;refine hS.out.mono ?_;rintro e w1 ⟨rfl,rfl⟩)
    exact hfin.out
  ·obtain ⟨i,hi,ac,a6,g,cap,hc,a7,a1⟩:=av5 h a5 false b hb a8 a9 n hs ho
   generalize AdP w m R Z false b n=Post at *
   unfold outK rLo rHi at *
   simp only [Bool.toNat_true,Bool.toNat_false,Bool.false_eq_true,if_true,if_false] at *
   generalize R.data=D at *
   generalize R.blocks=BL at *
   generalize R.nodes=NO at *
   have h1:¬ n<(D:Int):=by omega
   have h2:¬ (BL:Int)<=n:=by omega
   have ad:0<=(i:Int)/\(i:Int)<(4096:Nat):=by omega
   obtain rfl:n=(i:Int):=by omega
   cases a2:abP b i
   ·have hfin:=a6 a2
    rw [a2] at a7
    clear a1 ho a6
    replace ⟨h,hm,hS,hb,hs,a2,hfin⟩:=yh7 h hm hS hb hs a2 hfin
    go_enter Tryz.func134,Tryz.ntmps134
    go_wp2_with (go_at_call 65;refine hS.out.mono ?_;rintro e w1 ⟨rfl,rfl⟩)
    exact hfin.out
   ·have hP2:=a1 a2
    rw [a2] at a7
    clear a6 ho a1
    replace ⟨h,hS,hs,hP2⟩:=yh4 h hS hs hP2;clear hm hb a2
    go_enter Tryz.func134,Tryz.ntmps134
    go_upto_region 9 with (first
     | (go_at_call 65;refine hS.out.mono ?_;rintro e w1 ⟨rfl,rfl⟩)
     | (go_at_call 189;refine hP2.out.mono ?_;rintro e w2 ⟨pe,rfl,a3,a0⟩;replace ⟨a3,a0⟩:=yh2 a3 a0))
    by_cases a4:pe=0
    ·obtain ⟨g2,cap2,b0,y1,y2,y3,hfin⟩:=a0.out a4
     have aa:(pe:Int)=0:=by omega
     replace ⟨hfin,a4⟩:=yh2 hfin a4
     go_wp2
     exact hfin.out
    ·have hfin:=a3.out a4
     have aa:¬ (pe:Int)=0:=by omega
     replace hfin:=hid hfin;clear a4
     go_wp2
     exact hfin.out
 ·have hfin:AdP w m R Z false b n (U (I (R.state:Nat))) w:=⟨by simp [RP.dropE,hs],by
   have hR:R.drop false b n=R:=by simp [RP.drop,hs]
   rw [hR];exact AdV.quiet h (AaA.refl _ w)⟩
  have ae:¬ (R.state:Int)=0:=by omega
  generalize AdP w m R Z false b n=Post at *
  generalize R.state=s at *
  replace ⟨hS,hfin⟩:=yh2 hS hfin;clear h hs
  go_enter Tryz.func134,Tryz.ntmps134
  go_wp2_with (go_at_call 65;refine hS.out.mono ?_;rintro e w1 ⟨rfl,rfl⟩)
  exact hfin.out
theorem axU (h:AcP w m R Z) (a5:R.put.length<=16) (b:List UInt8) (hb:R.nowK true=aaZ b) (a8:b.length=512) (a9:rHi R true<=2048) (n:Int) (ac:IntKind.i64.wrap n=n) :
  Calls prog 119 #[↑m,I n] w (AdP w m R Z true b n):=by
 have hS:=aeF h
 by_cases hs:R.state=0
 ·obtain ⟨V,h⟩:=h
  have hm:=h.hm
  unfold refO at hm
  have c0:=hm.cell 0
  have c1:=hm.cell 1
  have c2:=hm.cell 2
  simp at c0 c1 c2
  rw [hs] at hS
  by_cases ho:outK R true n
  ·have hfin:=ar6 h (nd:=true) b hs ho
   generalize AdP w m R Z true b n=Post at *
   unfold outK rLo rHi at *
   simp only [Bool.toNat_true,Bool.toNat_false,Bool.false_eq_true,if_true,if_false] at *
   generalize R.data=D at *
   generalize R.blocks=BL at *
   generalize R.nodes=NO at *
   by_cases h1:n<1
   ·skip
    replace ⟨h,hm,hS,hb,hs,hfin,ho⟩:=yh7 h hm hS hb hs hfin ho
    go_enter Tryz.func119,Tryz.ntmps119
    go_wp2_with (go_at_call 65;refine hS.out.mono ?_;rintro e w1 ⟨rfl,rfl⟩)
    exact hfin.out
   ·have h2:(NO:Int)<n:=by omega
    replace ⟨h,hm,hS,hb,hs,hfin,ho⟩:=yh7 h hm hS hb hs hfin ho
    go_enter Tryz.func119,Tryz.ntmps119
    go_wp2_with (go_at_call 65;refine hS.out.mono ?_;rintro e w1 ⟨rfl,rfl⟩)
    exact hfin.out
  ·obtain ⟨i,hi,ad,a6,g,cap,hc,a7,a1⟩:=av5 h a5 true b hb a8 a9 n hs ho
   generalize AdP w m R Z true b n=Post at *
   unfold outK rLo rHi at *
   simp only [Bool.toNat_true,Bool.toNat_false,Bool.false_eq_true,if_true,if_false] at *
   generalize R.data=D at *
   generalize R.blocks=BL at *
   generalize R.nodes=NO at *
   have h1:¬ n<1:=by omega
   have h2:¬ (NO:Int)<n:=by omega
   have ae:0<=(i:Int)/\(i:Int)<(4096:Nat):=by omega
   have aa:n - 1=(i:Int):=by omega
   cases a2:abP b i
   ·have hfin:=a6 a2
    rw [a2] at a7
    clear a1 ho a6
    replace ⟨h,hm,hS,hb,hs,a2,hfin⟩:=yh7 h hm hS hb hs a2 hfin
    go_enter Tryz.func119,Tryz.ntmps119
    go_wp2_with (go_at_call 65;refine hS.out.mono ?_;rintro e w1 ⟨rfl,rfl⟩)
    exact hfin.out
   ·have hP2:=a1 a2
    rw [a2] at a7
    clear a6 ho a1
    replace ⟨h,hS,hs,hP2⟩:=yh4 h hS hs hP2;clear hm hb a2
    go_enter Tryz.func119,Tryz.ntmps119
    go_upto_region 9 with (first
     | (go_at_call 65;refine hS.out.mono ?_;rintro e w1 ⟨rfl,rfl⟩)
     | (go_at_call 189;refine hP2.out.mono ?_;rintro e w2 ⟨pe,rfl,a3,a0⟩;replace ⟨a3,a0⟩:=yh2 a3 a0))
    by_cases a4:pe=0
    ·obtain ⟨g2,cap2,b0,y1,y2,y3,hfin⟩:=a0.out a4
     have ab:(pe:Int)=0:=by omega
     replace ⟨hfin,a4⟩:=yh2 hfin a4
     go_wp2
     exact hfin.out
    ·have hfin:=a3.out a4
     have ab:¬ (pe:Int)=0:=by omega
     replace hfin:=hid hfin;clear a4
     go_wp2
     exact hfin.out
 ·have hfin:AdP w m R Z true b n (U (I (R.state:Nat))) w:=⟨by simp [RP.dropE,hs],by
   have hR:R.drop true b n=R:=by simp [RP.drop,hs]
   rw [hR];exact AdV.quiet h (AaA.refl _ w)⟩
  have af:¬ (R.state:Int)=0:=by omega
  generalize AdP w m R Z true b n=Post at *
  generalize R.state=s at *
  replace ⟨hS,hfin⟩:=yh2 hS hfin;clear h hs
  go_enter Tryz.func119,Tryz.ntmps119
  go_wp2_with (go_at_call 65;refine hS.out.mono ?_;rintro e w1 ⟨rfl,rfl⟩)
  exact hfin.out
def RP.leftA (R:RP) (bs ns:List UInt8):Nat × Nat × Nat:=if R.state=0 then (ad3 bs R.data R.blocks,ad3 ns 0 R.nodes,0) else (0,0,R.state)
theorem aAT (h:AcP w m R Z) (bs ns:List UInt8) (hb:R.nowB=aaZ bs) (hn:R.nowN=aaZ ns) (h1:R.data<=R.blocks) (h2:R.blocks<=2048) (h3:R.nodes<=2048) :
  Calls prog 128 #[↑m] w λ e w'=>e=U (.tuple #[I ((R.leftA bs ns).1:Nat),I ((R.leftA bs ns).2.1:Nat),I ((R.leftA bs ns).2.2:Nat)])/\∃ k,w'=w.drewN k:=by
 have hS:=aeF h
 by_cases hs:R.state=0
 ·obtain ⟨V,h⟩:=h
  have hm:=h.hm
  unfold refO at hm
  have c0:=hm.cell 0
  have c1:=hm.cell 1
  have c2:=hm.cell 2
  have c5:=hm.cell 5
  have c6:=hm.cell 6
  simp at c0 c1 c2 c5 c6
  have hB:Ah4 w V.NB (aaZ bs):=by rw [← hb];exact h.nb.sl h.lb.2.2.1
  have hN:Ah4 w V.NN (aaZ ns):=by rw [← hn];exact h.nn.sl h.lb.2.2.2
  have a0:∀ k,AaA NoF w (w.drewN k):=λ k=>(AaA.refl _ w).drewN k
  have k1:=λ k=>apU (w.drewN k) V.NB bs (hB.keeps (a0 k) (λ _ _ f=>f)) R.data R.blocks h1 (by omega)
  have k2:=λ k=>apU (w.drewN k) V.NN ns (hN.keeps (a0 k) (λ _ _ f=>f)) 0 R.nodes (aEY _) (by omega)
  have hA:R.leftA bs ns=(ad3 bs R.data R.blocks,ad3 ns 0 R.nodes,0):=by simp [RP.leftA,hs]
  rw [hA]
  rw [hs] at hS
  obtain ⟨gB,cB,eB,_⟩:=hB
  obtain ⟨gN,cN,eN,_⟩:=hN
  have a1:gB≠gN:=λ e=>h.d1 (by rw [eB,eN,e];rfl)
  rw [eB] at c5 k1
  rw [eN] at c6 k2
  dsimp only
  generalize ad3 bs R.data R.blocks=x1 at *
  generalize ad3 ns 0 R.nodes=x2 at *
  generalize R.data=D at *
  generalize R.blocks=BL at *
  generalize R.nodes=NO at *
  clear hb hn hA
  replace ⟨h,hS,hs,k1,k2⟩:=yh5 h hS hs k1 k2;clear hm a0 eB eN
  go_enter Tryz.func128,Tryz.ntmps128
  go_upto_region 4 with (go_at_call 65;refine hS.out.mono ?_;rintro e w1 ⟨rfl,rfl⟩)
  go_quiet (first
   | (go_at_call_of 197 (Value.slice ↑gB (aaZ bs).length cB);exact Calls.quiet_of_same ((k1.out _).mono λ e w' x=>⟨x.1,x.2.symm⟩))
   | (go_at_call_of 197 (Value.slice ↑gN (aaZ ns).length cN);exact Calls.quiet_of_same ((k2.out _).mono λ e w' x=>⟨x.1,x.2.symm⟩)))
  go_wp2
  go_ret3
  exact ⟨rfl,_,rfl⟩
 ·have hA:R.leftA bs ns=(0,0,R.state):=by simp [RP.leftA,hs]
  rw [hA]
  have a2:¬ (R.state:Int)=0:=by omega
  clear hA hb hn
  generalize R.state=s at *
  replace hS:=hid hS;clear h hs
  go_enter Tryz.func128,Tryz.ntmps128
  go_wp2_with (go_at_call 65;refine hS.out.mono ?_;rintro e w1 ⟨rfl,rfl⟩)
  go_ret3
  exact ⟨rfl,0,rfl⟩
end
end Go.Vk
