/- Part of the proof: Po3 Po4 Po5. -/
import Derived.Test.YtjeelghnmkefcaaGreatQ14
set_option linter.unusedVariables false
set_option maxHeartbeats 16000000
set_option maxRecDepth 100000
namespace Go.Vk
open Go.RowKit Go.Proofs
open Tryz (prog)
def ab3 (t:Nat):Obj:=.cells #[↑t] 91 (0,0)
def AiF (w:World) (C:TxC) (M:TxM) (X:Nat->Prop) (p blk lo top first:Nat) (e:Ending) (w':World):Prop:=
 ∃ m g k,e=U (.pointer (some ⟨m,0,none⟩))/\w.heap.size<=m/\w.heap.size<=g/\m≠g/\m<w'.heap.size/\Blk w' m (bmO p blk lo top first g (512+k))/\Blk w' g (aaE (M.get C blk++aaD k)) /\
  Aa1 w' C (M.read C blk) false (λ i=>X i∨w.heap.size<=i)/\AaA (· ∈ C.F) w w'
section
variable {w:World} {p blk lo top first:Nat} {C:TxC} {M:TxM} {X:Nat->Prop}
theorem azK (hp:Blk w p (ab3 C.t)) (a7:X p) (hT:Aa1 w C M false X) (h0:aaT M.D C.G.life M.sp false=0) (hb:blk<C.G.blocks) :
  Calls prog 175 #[↑p,.agg #[.pointer none,I blk,I lo,I top,I first,.slice none 0 0]] w (AiF w C M X p blk lo top first):=by
 have hsz:(w.alloc (.cells #[.pointer none,I blk,I lo,I top,I first,.slice none 0 0] 212 (0,0))).heap.size=w.heap.size+1:=aEI ..
 have a3:AaA NoF w (w.alloc (.cells #[.pointer none,I blk,I lo,I top,I first,.slice none 0 0] 212 (0,0))):=(AaA.refl _ w).alloc _
 have a6:=Blk.new w (.cells #[.pointer none,I blk,I lo,I top,I first,.slice none 0 0] 212 (0,0))
 have a0:=a3.blk hp (λ f=>f)
 have ab:=hp.lt
 have a1:Aa1 (w.alloc (.cells #[.pointer none,I blk,I lo,I top,I first,.slice none 0 0] 212 (0,0))) C M false (λ i=>X i∨w.heap.size<=i):=(hT.client (Y:=λ i=>X i∨w.heap.size<=i) (λ i hi=>hi)).quiet a3 (λ _ f=>f.elim)
 replace ⟨a7,hsz,a3,a6,a0,a1⟩:=yh6 a7 hsz a3 a6 a0 a1;clear hp hT ab
 go_enter Tryz.func175,Tryz.ntmps175
 go_upto_region 1 with fail
 have a4:=And.intro a6.out (And.intro a0.out (And.intro a1.out (And.intro a3.out hsz.out)))
 refine adW (λ W=>Blk W w.heap.size (.cells #[.pointer none,I blk,I lo,I top,I first,.slice none 0 0] 212 (0,0))/\Blk W p (ab3 C.t)/\Aa1 W C M false (λ i=>X i∨w.heap.size<=i)/\AaA NoF w W/\W.heap.size=w.heap.size+1) a4 ?_
 clear a4 a6 a0 a1 a3 hsz
 rintro w1 ⟨hm,a0,a1,hk1,hsz⟩
 have a8:∀ i,(X i∨w.heap.size<=i)->i∉C.F:=λ i hi=>by
  obtain ⟨own,xc,h1,_⟩:=a1
  exact (h1.xX i hi).2.2.1
 have a2:=aBW a1.drewN1 h0 blk hb
 have p0:w1.drew.cell? ↑p=some ↑C.t:=by have:=a0.cell 0;simpa using this
 have m1:w1.drew.cell? ⟨w.heap.size,1,none⟩=some (I blk):=by have:=hm.cell 1;simpa using this
 have a9:∀ e W,GetM w1.drew C M blk false (λ i=>X i∨w.heap.size<=i) e W->∃ g k,e=U (.tuple #[.slice (some ⟨g,0,none⟩) 512 (512+k),I 0])/\W.cell? ↑p=some ↑C.t/\W.cell? ⟨w.heap.size,1,none⟩=some (I blk) /\
   (∀ i,W.frozen? ⟨w.heap.size,i,none⟩=false)/\(∃ v0 v5,W.cell? ↑w.heap.size=some v0/\W.cell? ⟨w.heap.size,5,none⟩=some v5) /\
   AiF w C M X p blk lo top first (U ↑w.heap.size) ((W.setCell ↑w.heap.size ↑p).setCell ⟨w.heap.size,5,none⟩ (.slice (some ⟨g,0,none⟩) 512 (512+k))):=by
  rintro e W ⟨g,k,h1,h2,h3,h4,h5⟩
  have a5:=h5.blk hm.drew (a8 _ (.inr (aEK _)))
  have ac:=h5.blk a0.drew (a8 _ (.inl a7.out))
  have hg1:w1.drew.heap.size=w.heap.size+1:=hsz
  have aa:w.heap.size≠g:=by omega
  have ad:=h3.lt
  have hB:=(a5.setCell 0 ↑p).setCell 5 (.slice (some ⟨g,0,none⟩) 512 (512+k))
  refine ⟨g,k,h1,by have:=ac.cell 0;simpa using this,by have:=a5.cell 1;simpa using this,a5.frz,⟨_,_,a5.cell 0,a5.cell 5⟩,?_⟩
  refine ⟨w.heap.size,g,k,rfl,aEK _,by omega,aa,by rw [aES,aES];omega,?_,?_,?_,?_⟩
  ·simpa [bmO] using hB
  ·exact (h3.setCell_ne (p:=⟨w.heap.size,0,none⟩) (Ne.symm aa) _).setCell_ne (p:=⟨w.heap.size,5,none⟩) (Ne.symm aa) _
  ·have k2:AaA (· = w.heap.size) W ((W.setCell ↑w.heap.size ↑p).setCell ⟨w.heap.size,5,none⟩ (.slice (some ⟨g,0,none⟩) 512 (512+k))):=
    ((AaA.refl (· = w.heap.size) W).setCell (p:=⟨w.heap.size,0,none⟩) (.inl rfl) _).setCell (p:=⟨w.heap.size,5,none⟩) (.inl rfl) _
   refine (h4.client (Y:=λ i=>X i∨w.heap.size<=i) (λ i hi=>.inl (.inl hi))).quiet k2 (λ i e=>.inr (by omega))
  ·exact ((((hk1.mono (λ _ _ f=>f.elim)).drew.step h5).setCell (p:=⟨w.heap.size,0,none⟩) (.inr (aEK _)) _)).setCell (p:=⟨w.heap.size,5,none⟩) (.inr (aEK _)) _
 replace ⟨a2,a9⟩:=yh2 a2 a9;clear hm a0 a1 hk1 hsz a8
 go_region_held3 (λ W=>W.cell? ↑p=some ↑C.t/\W.cell? ⟨w.heap.size,1,none⟩=some (I blk)) (first|with_reducible exact ⟨p0,m1⟩|with_reducible exact ⟨q0,q1⟩) (first
  | (go_at_call 122;refine a2.out.mono ?_;intro e w2 hr;obtain ⟨g,k,rfl,q0,q1,qf,⟨v0,v5,qv0,qv5⟩,qR⟩:=a9.out _ _ hr;clear hr;replace qR:=hid qR))
 all_goals
  have qv:=abB (p:=⟨w.heap.size,0,none⟩) (a:=⟨w.heap.size,5,none⟩) qv5
  go_wp2_with (go_at_call 84;refine (abX _).mono ?_;rintro e w3 ⟨rfl,rfl⟩)
  go_ret
  exact qR.out
def agG (X:Nat->Prop) (n:Nat) (i:Nat):Prop:=X i∨n<=i
theorem Aa1.fresh (h:Aa1 w C M false X):Aa1 w C M false (agG X w.heap.size):=h.client (λ _ hi=>hi)
theorem AiF.back {W:World} {e:Ending} {w':World} (x:AaA NoF w W) (h:AiF W C M (agG X w.heap.size) p blk lo top first e w'):∃ m,e=U (.pointer (some ⟨m,0,none⟩))/\AiF w C M X p blk lo top first e w':=by
 obtain ⟨m,g,k,h1,h2,h3,h4,h5,h6,h7,h8,h9⟩:=h
 have:=x.size
 exact ⟨m,h1,m,g,k,h1,by omega,by omega,h4,h5,h6,h7,h8.client (λ i hi=>.inl (.inl hi)),(x.mono (λ _ _ f=>f.elim)).step h9⟩
theorem aoA (hp:Blk w p (ab3 C.t)) (a0:X p) (hT:Aa1 w C M false X) (h0:aaT M.D C.G.life M.sp false=0) (hb:0<C.G.blocks) :
  Calls prog 98 #[↑p] w (AiF w C M X p 0 (2+C.G.n / 4) C.G.blocks 0):=by
 have hL:Calls prog 86 #[↑C.t] w λ e w'=>e=U (.agg (ae8 C.G.s C.G.lg C.G.n).toArray)/\AaA NoF w w':=by
  obtain ⟨own,xc,h1,_⟩:=hT
  exact an0 h1.ht h1.hs
 unfold ae8 at hL
 have a1:C.G.s - (3+C.G.lg)=C.G.blocks:=rfl
 rw [a1] at hL
 have hR:=λ W (x:AaA NoF w W)=>azK (X:=agG X w.heap.size) (blk:=0) (lo:=(2+C.G.n / 4)) (top:=C.G.blocks) (first:=0) (x.blk hp (λ f=>f)) (.inl a0) (hT.fresh.quiet x (λ _ f=>f.elim)) h0 hb
 have hP:=λ W (x:AaA NoF w W) e w'=>AiF.back (w':=w') (X:=X) (M:=M) (C:=C) (p:=p) (blk:=0) (lo:=(2+C.G.n / 4)) (top:=C.G.blocks) (first:=0) (e:=e) x
 generalize 2+C.G.n / 4=dt at hL hR hP ⊢
 generalize 3+C.G.lg=v1 at hL
 generalize C.G.blocks=bl at hL hR hP ⊢
 generalize C.G.n=gn at hL hR hP ⊢
 generalize AiF w C M X p 0 (dt) bl 0=Post at hP ⊢
 have p0:=hp.cell 0
 simp at p0
 have a2:∀ (a b c d e:Value) (w:World),(Instr.field 53 (.agg #[a,b,c,d,e]) 3).run prog w=.ok d w:=λ a b c d e w=>by kernel_rfl
 replace ⟨hR,hP,hL⟩:=yh3 hR hP hL;clear hp a0 hT
 go_enter Tryz.func98,Tryz.ntmps98
 go_wp2_with (first
  | (go_at_call 86;refine hL.out.mono ?_;rintro e w1 ⟨rfl,hk1⟩;have p1:=hk1.cellF p0 (λ f=>f);replace hk1:=hid hk1)
  | (go_at_call 175;refine (hR.out _ (by first|exact hk1.out.alloc _|exact hk1.out)).mono ?_;intro e w2 hr;obtain ⟨m,rfl,hr⟩:=hP.out _ (by first|exact hk1.out.alloc _|exact hk1.out) _ _ hr;replace hr:=hid hr))
 exact hr.out
theorem aqT (hp:Blk w p (ab3 C.t)) (a0:X p) (hT:Aa1 w C M false X) (h0:aaT M.D C.G.life M.sp false=0) (hb:1<C.G.blocks) :
  Calls prog 100 #[↑p] w (AiF w C M X p 1 0 C.G.n 1):=by
 have hL:Calls prog 86 #[↑C.t] w λ e w'=>e=U (.agg (ae8 C.G.s C.G.lg C.G.n).toArray)/\AaA NoF w w':=by
  obtain ⟨own,xc,h1,_⟩:=hT
  exact an0 h1.ht h1.hs
 unfold ae8 at hL
 have a1:C.G.s - (3+C.G.lg)=C.G.blocks:=rfl
 rw [a1] at hL
 have hR:=λ W (x:AaA NoF w W)=>azK (X:=agG X w.heap.size) (blk:=1) (lo:=0) (top:=C.G.n) (first:=1) (x.blk hp (λ f=>f)) (.inl a0) (hT.fresh.quiet x (λ _ f=>f.elim)) h0 hb
 have hP:=λ W (x:AaA NoF w W) e w'=>AiF.back (w':=w') (X:=X) (M:=M) (C:=C) (p:=p) (blk:=1) (lo:=0) (top:=C.G.n) (first:=1) (e:=e) x
 generalize 2+C.G.n / 4=dt at hL hR hP ⊢
 generalize 3+C.G.lg=v1 at hL
 generalize C.G.blocks=bl at hL hR hP ⊢
 generalize C.G.n=gn at hL hR hP ⊢
 generalize AiF w C M X p 1 0 gn 1=Post at hP ⊢
 have p0:=hp.cell 0
 simp at p0
 have a2:∀ (a b c d e:Value) (w:World),(Instr.field 53 (.agg #[a,b,c,d,e]) 3).run prog w=.ok d w:=λ a b c d e w=>by kernel_rfl
 replace ⟨hR,hP,hL⟩:=yh3 hR hP hL;clear hp a0 hT
 go_enter Tryz.func100,Tryz.ntmps100
 go_wp2_with (first
  | (go_at_call 86;refine hL.out.mono ?_;rintro e w1 ⟨rfl,hk1⟩;have p1:=hk1.cellF p0 (λ f=>f);replace hk1:=hid hk1)
  | (go_at_call 175;refine (hR.out _ (by first|exact hk1.out.alloc _|exact hk1.out)).mono ?_;intro e w2 hr;obtain ⟨m,rfl,hr⟩:=hP.out _ (by first|exact hk1.out.alloc _|exact hk1.out) _ _ hr;replace hr:=hid hr))
 exact hr.out
end
theorem axL {w:World} {C:TxC} {D:DM} {own:List OEnt} {xc sp:Nat} {X:Nat->Prop} (h:TxAt w C D own xc sp false X) (h0:aaT D C.G.life sp false=0):Calls prog 137 #[↑C.t,I 60] w λ e w'=>
  ∃ m,e=U (I 60)/\w'=(w.drewN m).setCell ⟨C.t,2,none⟩ (I (60:Nat)):=by
 have hst:=aiP h.ht h.hs h.hd
 rw [h0] at hst
 have a0:=λ n=>(h.ht.drewN n).frz 2
 have c2:=h.ht.cell 2
 simp at c2
 replace hst:=hid hst;clear h h0
 go_enter Tryz.func137,Tryz.ntmps137
 go_wp2_with (go_at_call 85;refine hst.out.mono ?_;rintro e w' ⟨rfl,m,rfl⟩;have a1:=a0 m)
 go_ret
 exact ⟨m,rfl,rfl⟩
theorem axK {w:World} {C:TxC} {D:DM} {own:List OEnt} {xc sp:Nat} {X:Nat->Prop} (h:TxAt w C D own xc sp false X) (h0:aaT D C.G.life sp false=0):Calls prog 137 #[↑C.t,I 61] w λ e w'=>
  ∃ m,e=U (I 61)/\w'=(w.drewN m).setCell ⟨C.t,2,none⟩ (I (61:Nat)):=by
 have hst:=aiP h.ht h.hs h.hd
 rw [h0] at hst
 have a0:=λ n=>(h.ht.drewN n).frz 2
 have c2:=h.ht.cell 2
 simp at c2
 replace hst:=hid hst;clear h h0
 go_enter Tryz.func137,Tryz.ntmps137
 go_wp2_with (go_at_call 85;refine hst.out.mono ?_;rintro e w' ⟨rfl,m,rfl⟩;have a1:=a0 m)
 go_ret
 exact ⟨m,rfl,rfl⟩
theorem Aa1.spoilt {w:World} {C:TxC} {M:TxM} {X:Nat->Prop} (h:Aa1 w C M false X) (m c:Nat):Aa1 ((w.drewN m).setCell ⟨C.t,2,none⟩ (I c)) C { M with sp:=c } false X:=by
 obtain ⟨own,xc,h1,h2,h3⟩:=h.drewN m
 exact ⟨own,xc,h1.spoil c,h2,h3⟩
theorem aAN {w:World} {C:TxC} {M:TxM} {X:Nat->Prop} (h:Aa1 w C M false X) (h0:aaT M.D C.G.life M.sp false=0) (c:Nat) (hc:c=60∨c=61):Calls prog 137 #[↑C.t,I c] w λ e w'=>
  e=U (I c)/\Aa1 w' C { M with sp:=c } false X/\AaA (λ i=>i=C.t) w w':=by
 obtain ⟨own,xc,h1,h2,h3⟩:=id h
 have fin:∀ m,AaA (λ i=>i=C.t) w ((w.drewN m).setCell ⟨C.t,2,none⟩ (I c)):=λ m=>((AaA.refl (λ i=>i=C.t) w).drewN m).setCell (p:=⟨C.t,2,none⟩) (.inl rfl) _
 rcases hc with rfl|rfl
 ·refine (axL h1 h0).mono ?_
  rintro e w' ⟨m,rfl,rfl⟩
  exact ⟨rfl,h.spoilt m 60,fin m⟩
 ·refine (axK h1 h0).mono ?_
  rintro e w' ⟨m,rfl,rfl⟩
  exact ⟨rfl,h.spoilt m 61,fin m⟩
def ACH (w:World) (C:TxC) (r:Nat × TxM) (X:Nat->Prop) (g v:Nat) (e:Ending) (w':World):Prop:=
 (e=if r.1=0 then .returned (I v) else .panicked [{ v:=refV r.1,recovered:=false }])/\Aa1 w' C r.2 false X/\AaA (λ i=>i∈C.F∨i=C.t∨i=C.mx∨i=g) w w'
section
variable {w:World} {m p blk lo top first g k:Nat} {bs:List UInt8} {C:TxC} {M:TxM} {X:Nat->Prop}
theorem AmN.drewN {r:Nat × TxM} {bs:List UInt8} {e:Ending} {w':World} {n:Nat} (h:AmN (w.drewN n) C r X g bs k e w'):AmN w C r X g bs k e w':=
 ⟨h.1,h.2.1,h.2.2.1,((AaA.refl _ w).drewN n).step h.2.2.2⟩
theorem asI (hm:Blk w m (bmO p blk lo top first g (512+k))) (hp:Blk w p (ab3 C.t)) (hg:Blk w g (aaE (bs++aaD k))) (hl:bs.length=512) (none_:Int)
  (hT:Aa1 w C M false X) (h0:aaT M.D C.G.life M.sp false=0) (hX:∀ i,X i->i<w.heap.size) (hb:blk<C.G.blocks) (a8:X m) (ab:X p) (ac:X g) (a9:m≠g) (ad:p≠g) (hf:first<=4096)
  (i0:Nat) (h1:lo<=i0) (h2:i0<top) (h3:top<=4096) (ae:abP bs i0=false) (a0:∀ j,lo<=j->j<i0->abP bs j=true) :
  Calls prog 179 #[↑m,I none_] w (ACH w C (M.put C blk (ab2 bs i0)) X g (i0+first)):=by
 have hH:=λ n i hi=>avT (hm.drewN n) (hg.drewN n) hl i hi
 have a2:=λ n=>(awM (hm.drewN n) (hp.drewN n) (hg.drewN n) hl i0 (by omega) (hT.drewN n) h0 (by intro i hi;exact hX i hi) hb a8 ab ac a9 ad)
 have a4:∀ n e W,AmN (w.drewN n) C (M.put C blk (ab2 bs i0)) X g (ab2 bs i0) k e W->AmN w C (M.put C blk (ab2 bs i0)) X g (ab2 bs i0) k e W:=λ n e W h=>h.drewN
 have a6:∀ W,AaA (λ i=>i∈C.F∨i=C.t∨i=C.mx∨i=g) w W->W.cell? ⟨m,4,none⟩=some (I first):=λ W hk=>by
  have af:¬ (m∈C.F∨m=C.t∨m=C.mx∨m=g):=by
   obtain ⟨own,xc,hh,_⟩:=hT
   obtain ⟨a1,_,a3,_,a5⟩:=hh.xX m a8
   rintro (x|x|x|x)
   ·exact a3 x
   ·exact a1 x
   ·exact a5 (by simp [aaH,x])
   ·exact a9 x
  have:=(hk.blk hm af).cell 4
  simpa using this
 have c2:=hm.cell 2
 have c3:=hm.cell 3
 simp at c2 c3
 replace ⟨hH,a2,a0,a4,a6⟩:=yh5 hH a2 a0 a4 a6;clear hm hp hg hT hX
 go_enter Tryz.func179,Tryz.ntmps179
 go_wp2
 go_loopw [5] (λ i wr=>∃ k n:Nat,lo<=k/\k<=i0/\i=I k/\wr=w.drewN n) (λ i _=>i0+1 - (intOf i).toNat)
 case atStart=>exact ⟨lo,0,by omega,by omega,rfl,rfl⟩
 case round=>
  obtain ⟨k1,n,hk1,hk2,rfl,rfl⟩:=hrel
  have ah:(k1:Int)<(top:Int):=by omega
  by_cases a7:k1<i0
  ·have hHk:=hH.out n k1 (by omega)
   rw [a0.out k1 hk1 a7] at hHk
   replace hHk:=hid hHk
   go_wp2_with (go_at_call 177;refine hHk.out.mono ?_;rintro e w' ⟨rfl,n2,rfl⟩)
   exact ⟨⟨k1+1,n+n2,by omega,by omega,by go_num,rfl⟩,by simp [intOf];omega⟩
  ·obtain rfl:k1=i0:=by omega
   have hHk:=hH.out n k1 (by omega)
   rw [ae] at hHk
   replace hHk:=hid hHk
   go_wp2_with (go_at_call 177;refine hHk.out.mono ?_;rintro e w' ⟨rfl,n2,rfl⟩)
   have aa:=a2.out (n+n2)
   refine aa.mono ?_
   intro e w2 ht
   obtain ⟨rfl,t1,t2,t3⟩:=a4.out _ _ _ ht
   have m4:=a6.out _ t3
   clear ht aa
   by_cases hz:(M.put C blk (ab2 bs k1)).1=0
   ·rw [if_pos hz]
    have hP:ACH w C (M.put C blk (ab2 bs k1)) X g (k1+first) (U (I (k1+first:Nat))) w2:=⟨by rw [if_pos hz],t1,t3⟩
    have ag:IntKind.i64.wrap ((k1:Int)+(first:Int))=((k1+first:Nat):Int):=by rw [aaO (by omega) (by omega)];omega
    replace ⟨hP,t1,t2,t3,hz⟩:=yh5 hP t1 t2 t3 hz
    go_wp2
    go_ret
    exact hP.out
   ·rw [if_neg hz]
    have hP:ACH w C (M.put C blk (ab2 bs k1)) X g (k1+first) (.panicked [{ v:=refV (M.put C blk (ab2 bs k1)).1,recovered:=false }]) w2:=⟨by rw [if_neg hz],t1,t3⟩
    replace hP:=hid hP;clear t1 t2 t3 hz
    go_wp2
    exact ⟨rfl,hP.out⟩
theorem auA (hm:Blk w m (bmO p blk lo top first g (512+k))) (hp:Blk w p (ab3 C.t)) (hg:Blk w g (aaE (bs++aaD k))) (hl:bs.length=512) (c:Nat) (hc:c=60∨c=61)
  (hT:Aa1 w C M false X) (h0:aaT M.D C.G.life M.sp false=0) (h1:lo<=top) (h3:top<=4096) (a0:∀ j,lo<=j->j<top->abP bs j=true) :
  Calls prog 179 #[↑m,I c] w λ e w'=>e=.panicked [{ v:=refV c,recovered:=false }]/\Aa1 w' C { M with sp:=c } false X/\AaA (λ i=>i=C.t) w w':=by
 have hH:=λ n i hi=>avT (hm.drewN n) (hg.drewN n) hl i hi
 have hS:=λ n=>(aAN (hT.drewN n) h0 c hc).mono (R':=λ e w'=>e=U (I c)/\Aa1 w' C { M with sp:=c } false X/\AaA (λ i=>i=C.t) w w') (λ e w' h=>⟨h.1,h.2.1,((AaA.refl _ w).drewN n).step h.2.2⟩)
 have c0:=hm.cell 0
 have c2:=hm.cell 2
 have c3:=hm.cell 3
 have p0:=hp.cell 0
 simp at c0 c2 c3 p0
 have hi:((c:Int) != 0)=true:=by simp;omega
 have hP:∀ w',Aa1 w' C { M with sp:=c } false X->AaA (λ i=>i=C.t) w w'->(Ending.panicked [{ v:=.iface 203 (.agg #[I c]),recovered:=false }]=.panicked [{ v:=refV c,recovered:=false }]/\Aa1 w' C { M with sp:=c } false X/\AaA (λ i=>i=C.t) w w'):=λ w' x y=>⟨rfl,x,y⟩
 replace ⟨hH,hS,a0,hP⟩:=yh4 hH hS a0 hP;clear hm hp hg hT hc
 go_enter Tryz.func179,Tryz.ntmps179
 go_wp2
 go_loopw [5] (λ i wr=>∃ k n:Nat,lo<=k/\k<=top/\i=I k/\wr=w.drewN n) (λ i _=>top - (intOf i).toNat)
 case atStart=>exact ⟨lo,0,by omega,by omega,rfl,rfl⟩
 case round=>
  obtain ⟨k1,n,hk1,hk2,rfl,rfl⟩:=hrel
  by_cases a1:k1<top
  ·have a2:(k1:Int)<(top:Int):=by omega
   have hHk:=hH.out n k1 (by omega)
   rw [a0.out k1 hk1 a1] at hHk
   replace hHk:=hid hHk
   go_wp2_with (go_at_call 177;refine hHk.out.mono ?_;rintro e w' ⟨rfl,n2,rfl⟩)
   exact ⟨⟨k1+1,n+n2,by omega,by omega,by go_num,rfl⟩,by simp [intOf];omega⟩
  ·have a2:¬ (k1:Int)<(top:Int):=by omega
   go_wp2_with (go_at_call 137;refine (hS.out _).mono ?_;rintro e w' ⟨rfl,t1,t2⟩;replace ⟨t1,t2⟩:=yh2 t1 t2)
   exact ⟨rfl,hP.out _ t1.out t2.out⟩
end
def abA (bs:List UInt8) (lo top:Nat):Option Nat:=(List.range' lo (top - lo)).find? λ i=>!abP bs i
theorem acL {bs:List UInt8} {lo top i:Nat} (h:abA bs lo top=some i):lo<=i/\i<top/\abP bs i=false/\∀ j,lo<=j->j<i->abP bs j=true:=by
 unfold abA at h
 have hm:=aEN h
 have hp:=List.find?_some h
 rw [List.mem_range'_1] at hm
 refine ⟨hm.1,by omega,by simpa using hp,λ j h1 h2=>?_⟩
 rw [List.find?_range'_eq_some] at h
 simpa using h.2.2 j h1 h2
theorem aiN {bs:List UInt8} {lo top:Nat} (h:abA bs lo top=none):∀ j,lo<=j->j<top->abP bs j=true:=by
 unfold abA at h
 rw [List.find?_eq_none] at h
 intro j h1 h2
 simpa using h j (by rw [List.mem_range'_1];omega)
def TxM.takeR (C:TxC) (M:TxM) (bs:List UInt8) (blk lo top first no:Nat):(Nat × Nat) × TxM:=
 match abA bs lo top with
 | some i=>((if (M.put C blk (ab2 bs i)).1=0 then i+first else 0,(M.put C blk (ab2 bs i)).1),(M.put C blk (ab2 bs i)).2)
 | none=>((0,no),{ M with sp:=no })
def ACG (w:World) (C:TxC) (r:(Nat × Nat) × TxM) (X:Nat->Prop) (g:Nat) (e:Ending) (w':World):Prop:=
 (e=if r.1.2=0 then .returned (I r.1.1) else .panicked [{ v:=refV r.1.2,recovered:=false }])/\Aa1 w' C r.2 false X/\AaA (λ i=>i∈C.F∨i=C.t∨i=C.mx∨i=g) w w'/\(r.1.2≠0->r.1.1=0)
section
variable {w:World} {m p blk lo top first g k:Nat} {bs:List UInt8} {C:TxC} {M:TxM} {X:Nat->Prop}
theorem azF (hm:Blk w m (bmO p blk lo top first g (512+k))) (hp:Blk w p (ab3 C.t)) (hg:Blk w g (aaE (bs++aaD k))) (hl:bs.length=512) (no:Nat) (hc:no=60∨no=61)
  (hT:Aa1 w C M false X) (h0:aaT M.D C.G.life M.sp false=0) (hX:∀ i,X i->i<w.heap.size) (hb:blk<C.G.blocks) (a0:X m) (a5:X p) (a6:X g) (a7:m≠g) (a8:p≠g) (hf:first<=4096)
  (h1:lo<=top) (h3:top<=4096) :
  Calls prog 179 #[↑m,I no] w (ACG w C (M.takeR C bs blk lo top first no) X g):=by
 unfold TxM.takeR
 cases hF:abA bs lo top with
 | some i=>
  obtain ⟨a1,a2,a3,a4⟩:=acL hF
  refine (asI hm hp hg hl no hT h0 hX hb a0 a5 a6 a7 a8 hf i a1 a2 h3 a3 a4).mono ?_
  rintro e w' ⟨x1,x2,x3⟩
  refine ⟨?_,x2,x3,?_⟩
  ·rw [x1]
   by_cases hz:(M.put C blk (ab2 bs i)).1=0
   ·simp only [if_pos hz]
   ·simp only [if_neg hz]
  ·dsimp only
   exact λ hz=>if_neg hz
 | none=>
  refine (auA hm hp hg hl no hc hT h0 h1 h3 (aiN hF)).mono ?_
  rintro e w' ⟨x1,x2,x3⟩
  refine ⟨?_,x2,x3.mono λ i _ hi=>.inr (.inl hi),λ _=>rfl⟩
  rw [x1,if_neg (by dsimp only;omega)]
theorem ayX (hm:Blk w m (bmO p blk lo top first g (512+k))) (hp:Blk w p (ab3 C.t)) (hg:Blk w g (aaE (bs++aaD k))) (hl:bs.length=512)
  (hT:Aa1 w C M false X) (h0:aaT M.D C.G.life M.sp false=0) (hX:∀ i,X i->i<w.heap.size) (hb:blk<C.G.blocks) (a4:X m) (a5:X p) (a6:X g) (a7:m≠g) (a8:p≠g)
  (i:Nat) (h3:i<4096) (_:first<=4096) (a2:abP bs i=true) :
  Calls prog 185 #[↑m,I (i+first:Nat)] w (AmN w C (M.put C blk (ab2 bs i)) X g (ab2 bs i) k):=by
 have hH:=avT hm hg hl i h3
 rw [a2] at hH
 have a1:=λ n=>(awM (hm.drewN n) (hp.drewN n) (hg.drewN n) hl i h3 (hT.drewN n) h0 (by intro i hi;exact hX i hi) hb a4 a5 a6 a7 a8).mono (R':=AmN w C (M.put C blk (ab2 bs i)) X g (ab2 bs i) k) (λ e W h=>h.drewN)
 have a0:∀ e W,AmN w C (M.put C blk (ab2 bs i)) X g (ab2 bs i) k e W->e=(if (M.put C blk (ab2 bs i)).1=0 then .returned (.tuple #[]) else .panicked [{ v:=refV (M.put C blk (ab2 bs i)).1,recovered:=false }]):=λ e W h=>h.1
 have c4:=hm.cell 4
 simp at c4
 have a3:IntKind.i64.wrap (((i+first:Nat):Int) - (first:Int))=(i:Int):=by rw [aaO (by omega) (by omega)];omega
 generalize hs:i+first=s at a3 ⊢
 generalize AmN w C (M.put C blk (ab2 bs i)) X g (ab2 bs i) k=Post at a1 a0 ⊢
 by_cases hz:(M.put C blk (ab2 bs i)).1=0
 ·rw [if_pos hz] at a0
  replace ⟨hm,hp,hg,hT,hX,hH,a1,a0⟩:=yh8 hm hp hg hT hX hH a1 a0;replace ⟨hz,hs⟩:=yh2 hz hs
  go_enter Tryz.func185,Tryz.ntmps185
  go_wp2_with (first
   | (go_at_call 177;refine hH.out.mono ?_;rintro e w' ⟨rfl,n2,rfl⟩)
   | (go_at_call 227;refine (a1.out _).mono ?_;intro e w' ht;obtain rfl:=a0.out _ _ ht;replace ht:=hid ht))
  go_end0
  exact ht.out
 ·rw [if_neg hz] at a0
  replace ⟨hH,a1,a0⟩:=yh3 hH a1 a0;clear hm hp hg hT hX hz hs
  go_enter Tryz.func185,Tryz.ntmps185
  go_wp2_with (first
   | (go_at_call 177;refine hH.out.mono ?_;rintro e w' ⟨rfl,n2,rfl⟩)
   | (go_at_call 227;refine (a1.out _).mono ?_;intro e w' ht;obtain rfl:=a0.out _ _ ht;replace ht:=hid ht))
  exact ⟨rfl,ht.out⟩
theorem av6 (hm:Blk w m (bmO p blk lo top first g (512+k))) (hg:Blk w g (aaE (bs++aaD k))) (hl:bs.length=512)
  (i:Nat) (h3:i<4096) (_:first<=4096) (a0:abP bs i=false) :
  Calls prog 185 #[↑m,I (i+first:Nat)] w λ e w'=>e=.panicked [{ v:=refV 62,recovered:=false }]/\∃ n,w'=w.drewN n:=by
 have hH:=avT hm hg hl i h3
 rw [a0] at hH
 have c4:=hm.cell 4
 simp at c4
 have a1:IntKind.i64.wrap (((i+first:Nat):Int) - (first:Int))=(i:Int):=by rw [aaO (by omega) (by omega)];omega
 generalize hs:i+first=s at a1 ⊢
 replace hH:=hid hH;clear hm hg hs
 go_enter Tryz.func185,Tryz.ntmps185
 go_wp2_with (first
   | (go_at_call 177;refine hH.out.mono ?_;rintro e w' ⟨rfl,n2,rfl⟩))
 exact ⟨rfl,rfl,n2,rfl⟩
end
end Go.Vk
