/- Part of the proof: Ns5 Ns6 Ns7 NrD. -/
import Derived.Test.YtjeelghnmkefcaaGreatQ36
import Derived.Test.YtjeelghnmkefcaaGreatQ37
import Derived.Test.YtjeelghnmkefcaaGreatQ38
set_option linter.unusedVariables false
set_option maxHeartbeats 16000000
set_option maxRecDepth 100000
namespace Go.Vk
open Go.RowKit Go.Proofs
open Tryz (prog)
theorem aDA (w:World) (p:Nat):Calls prog 60 #[↑p] w λ e w'=>∃ t,e=U (.pointer (some ⟨t,0,none⟩))/\w.heap.size<=t/\Blk w' t (tabO p)/\AaA NoF w w':=by
 go_enter Tryz.func60,Tryz.ntmps60
 go_wp2
 go_ret
 exact ⟨_,rfl,aEK _,Blk.new _ _,(AaA.refl _ _).alloc _⟩
def AzX (w:World) (d sb l mo:Nat) (F:List Nat) (G:Geom) (D:DM) (ov:List OEnt) (oc:Nat) (X:Nat->Prop) (e:Ending) (w':World):Prop:=
 ∃ t mx p q ta ua n1,e=U (.tuple #[.pointer (some ⟨ta,0,none⟩),.pointer (some ⟨ua,0,none⟩),↑true])/\w.heap.size<=t/\w.heap.size<=mx/\w.heap.size<=n1/\t<n1/\n1<=p/\p<q/\q<ta/\ta<ua/\ua<w'.heap.size /\
  Blk w' p (ab3 t)/\Blk w' q (ab3 t)/\Blk w' ta (tabO p)/\Blk w' ua (tabO q)/\Aa1 w' ⟨t,sb,d,l,mo,mx,F,G,true,ov,oc⟩ (TxM.new D) false (agG X n1)/\AaA (· = sb) w w'
section
variable {w:World} {d sb l mo:Nat} {F:List Nat} {G:Geom} {D:DM} {ov:List OEnt} {oc:Nat} {X:Nat->Prop}
theorem ax6 (hS:StAt w sb d l mo F G D ov oc false) (hX:∀ i,X i->i<w.heap.size/\i≠sb/\i∉F/\i∉aaH mo ov) :
  Calls prog 34 #[↑sb] w (AzX w d sb l mo F G D ov oc X):=by
 have hB:=hS.begin X hX
 generalize hP:AzX w d sb l mo F G D ov oc X=Post
 replace ⟨hB,hP⟩:=yh2 hB hP;clear hS hX
 go_enter Tryz.func34,Tryz.ntmps34
 go_wp2_with fail
 refine hB.out.mono ?_
 rintro e w1 ⟨t,mx,rfl,a1,a2,a3,a4,a5⟩
 clear hB
 replace ⟨a1,a2,a3,a4,a5⟩:=yh5 a1 a2 a3 a4 a5
 go_wp2_with fail
 refine (on_w _ _).mono ?_
 rintro e w2 ⟨p,rfl,hp,bp,k2⟩
 have a7:=bp.lt
 replace ⟨hp,bp,k2,a7⟩:=yh4 hp bp k2 a7
 go_wp2_with fail
 refine (on_w _ _).mono ?_
 rintro e w3 ⟨q,rfl,hq,bq,k3⟩
 have a8:=bq.lt
 replace ⟨hq,bq,k3,a8⟩:=yh4 hq bq k3 a8
 go_wp2_with fail
 refine (aDA _ _).mono ?_
 rintro e w4 ⟨ta,rfl,a9,bta,k4⟩
 have a0:=bta.lt
 replace ⟨a9,bta,k4,a0⟩:=yh4 a9 bta k4 a0
 go_wp2_with fail
 refine (aDA _ _).mono ?_
 rintro e w5 ⟨ua,rfl,aa,bua,k5⟩
 have a6:=bua.lt
 replace ⟨aa,bua,k5,a6⟩:=yh4 aa bua k5 a6
 go_upto_region 14 with fail
 have kq:AaA NoF w1 w5.drew:=(k2.out.step (k3.out.step (k4.out.step k5.out))).drew
 have b1:Blk w5.drew p (ab3 t):=(k5.out.blk (k4.out.blk (k3.out.blk bp.out (λ f=>f)) (λ f=>f)) (λ f=>f)).drew
 have b2:Blk w5.drew q (ab3 t):=(k5.out.blk (k4.out.blk bq.out (λ f=>f)) (λ f=>f)).drew
 have b3:Blk w5.drew ta (tabO p):=(k5.out.blk bta.out (λ f=>f)).drew
 have b4:Blk w5.drew ua (tabO q):=bua.out.drew
 have c3:=b3.cell 0
 have c4:=b4.cell 0
 simp [tabO] at c3 c4
 have hFin:Post (U (.tuple #[↑ta,↑ua,↑true])) w5.drew:=by
  rw [← hP.out]
  have z1:=a5.out.size
  have z3:=a3.out
  have x1:=hp.out
  have x2:=a7.out
  have x3:=hq.out
  have x4:=a8.out
  have x5:=a9.out
  have x6:=a0.out
  have x7:=aa.out
  have x8:=a6.out
  refine ⟨t,mx,p,q,ta,ua,w1.heap.size,rfl,a1.out,a2.out,z1,z3,x1,by omega,by omega,by omega,x8,b1,b2,b3,b4,a4.out.quiet kq (λ _ f=>f.elim),a5.out.step (kq.mono λ _ _ f=>f.elim)⟩
 clear hP
 replace hFin:=hid hFin;clear b1 b2 b3 b4 kq
 refine wp_region_still_lit (by kernel_rfl) (by kernel_rfl) ?_
 change wpStill _ _ w5.drew _ _ _
 generalize hW:wpStill _ _ w5.drew _=W
 iterate 17 (refine aeT hW.symm (by kernel_rfl) (λ K hK=>?_);go_simp;refine hK _ ?_;clear hK K)
 refine ahK hW.symm ?_
 change Exit.then _ _ _ _ w5.drew
 go_wp2
 exact bodyPost_ret (v:=.tuple #[↑ta,↑ua,↑true]) (by simp [results,Tryz.results34,go_sem]) rfl hFin.out
end
def Ak5 (w:World) (d sb l mo r tb m:Nat) (F:List Nat) (G:Geom) (D:DM) (ov:List OEnt) (oc:Nat) (B:TB) (Z X:Nat->Prop) (w':World):Prop:=
 ∃ t mx p q ta ua n1 n2,w.heap.size<=t/\w.heap.size<=mx/\w.heap.size<=n1/\t<n1/\n1<=p/\p<q/\q<ta/\ta<ua/\ua<n2/\n2<=w'.heap.size /\
  Blk w' r (agD d sb (.pointer (some ⟨ta,0,none⟩)) (.pointer (some ⟨ua,0,none⟩)) tb G true)/\Blk w' p (ab3 t)/\Blk w' q (ab3 t)/\Blk w' ta (tabO p)/\Blk w' ua (tabO q) /\
  Aa1 w' ⟨t,sb,d,l,mo,mx,F,G,true,ov,oc⟩ (TxM.new D) false (λ i=>X i∨n1<=i/\i<w'.heap.size)/\Aa3 w' tb m ⟨B.R.begin,B.was,B.was⟩ (λ i=>Z i∨n2<=i/\i<w'.heap.size)/\AaA (λ i=>i=sb∨i=r∨Z i) w w'
section
variable {w:World} {d sb l mo r tb m:Nat} {F:List Nat} {G:Geom} {D:DM} {ov:List OEnt} {oc:Nat} {B:TB} {Z X:Nat->Prop} {vt vu:Value} {ok:Bool}
theorem asA (hr:Blk w r (agD d sb vt vu tb G ok)) (hS:StAt w sb d l mo F G D ov oc false) (hR:Aa3 w tb m B Z) (h0:0<B.R.nodes) (hn:B.R.nodes<=1024)
  (hX:∀ i,X i->i<w.heap.size/\i≠sb/\i∉F/\i∉aaH mo ov) (a0:X r) (aa:∀ i,Z i->X i) (ab:¬ Z r) :
  Calls prog 48 #[↑r] w λ e w'=>e=U (.tuple #[])/\Ak5 w d sb l mo r tb m F G D ov oc B Z X w':=by
 have hO:=ax6 hS hX
 have c1:=hr.cell 1
 unfold agD at c1
 simp at c1
 have hP:∀ w',Ak5 w d sb l mo r tb m F G D ov oc B Z X w'->Ak5 w d sb l mo r tb m F G D ov oc B Z X w':=λ _ h=>h
 have ac:r≠sb:=(hX r a0).2.1
 replace ⟨hr,hR,h0,hn,hX,a0,aa,ab⟩:=yh8 hr hR h0 hn hX a0 aa ab;replace ⟨hO,ac⟩:=yh2 hO ac;clear hS hP
 go_enter Tryz.func48,Tryz.ntmps48
 go_wp2_with fail
 refine hO.out.mono ?_
 rintro e w1 ⟨t,mx,p,q,ta,ua,n1,rfl,a1,a2,a3,a4,a5,a6,a7,a8,a9,b1,b2,b3,b4,b5,b6⟩
 have r1:=b6.blk hr.out ac.out
 have e2:=r1.cell 2
 have e3:=r1.cell 3
 have e10:=r1.cell 10
 have ef:=r1.frz
 unfold agD at e2 e3 e10
 simp at e2 e3 e10
 have bS:=((r1.setCell 2 ↑ta).setCell 3 ↑ua).setCell 10 ↑true
 have kr:AaA (· = r) w1 (((w1.setCell ⟨r,2,none⟩ ↑ta).setCell ⟨r,3,none⟩ ↑ua).setCell ⟨r,10,none⟩ ↑true):=
  (((AaA.refl (· = r) w1).setCell (p:=⟨r,2,none⟩) (.inl rfl) _).setCell (p:=⟨r,3,none⟩) (.inl rfl) _).setCell (p:=⟨r,10,none⟩) (.inl rfl) _
 have bS2:Blk (((w1.setCell ⟨r,2,none⟩ ↑ta).setCell ⟨r,3,none⟩ ↑ua).setCell ⟨r,10,none⟩ ↑true) r (agD d sb ↑ta ↑ua tb G true):=by
  simpa [agD] using bS
 have hsz:(((w1.setCell ⟨r,2,none⟩ ↑ta).setCell ⟨r,3,none⟩ ↑ua).setCell ⟨r,10,none⟩ ↑true).heap.size=w1.heap.size:=by simp only [aES]
 clear bS
 replace ⟨kr,bS2,b1,b2,b3,b4,b5,b6⟩:=yh8 kr bS2 b1 b2 b3 b4 b5 b6;replace hsz:=hid hsz;clear r1
 go_upto_region 4 with fail
 generalize ((w1.setCell ⟨r,2,none⟩ ↑ta).setCell ⟨r,3,none⟩ ↑ua).setCell ⟨r,10,none⟩ ↑true=w2 at *
 have d4:=bS2.out.cell 4
 unfold agD at d4
 simp at d4
 have k2:AaA (λ i=>i=sb∨i=r) w w2:=(b6.out.mono (G:=λ i=>i=sb∨i=r) λ _ _ e=>.inl e).trans kr.out (λ i _ e=>.inr e)
 have ad:=hR.out.keeps k2 (λ i z f=>f.elim (λ e=>(hX.out i (aa.out i z)).2.1 e) (λ e=>ab.out (e ▸ z)))
 have hB:=axB ad h0.out hn.out
 have ag:=(hX.out r a0.out).1
 have t2:=b5.out.quiet kr.out (λ i e=>.inl (e ▸ a0.out))
 have p2:=kr.out.blk b1.out (λ e=>by omega)
 have q2:=kr.out.blk b2.out (λ e=>by omega)
 have ta2:=kr.out.blk b3.out (λ e=>by omega)
 have ua2:=kr.out.blk b4.out (λ e=>by omega)
 have ae:=hsz.out
 clear e2 e3 e10 ef c1 hsz
 replace ⟨hB,k2,t2,p2,q2,ta2,ua2⟩:=yh7 hB k2 t2 p2 q2 ta2 ua2;clear ad
 go_wp2_with fail
 refine hB.out.mono ?_
 rintro e w3 ⟨rfl,s3⟩
 have af:∀ i,Z i->i<w.heap.size:=λ i z=>(hX.out i (aa.out i z)).1
 have hfin:Ak5 w d sb l mo r tb m F G D ov oc B Z X w3:=by
  have z3:=s3.k.size
  have z2:=k2.out.size
  have nz:∀ i,w.heap.size<=i->¬ Z i:=λ i hi z=>by have:=af i z;omega
  refine ⟨t,mx,p,q,ta,ua,n1,w2.heap.size,a1,a2,a3,a4,a5,a6,a7,a8,by omega,z3,s3.k.blk bS2.out ab.out,s3.k.blk p2.out (nz p (by omega)),s3.k.blk q2.out (nz q (by omega)),s3.k.blk ta2.out (nz ta (by omega)),s3.k.blk ua2.out (nz ua (by omega)),?_,s3.rep,?_⟩
  ·exact (t2.out.quiet s3.k (λ i z=>.inl (aa.out i z))).client (λ i hi=>.inl (hi.elim .inl (λ x=>.inr x.1)))
  ·exact (k2.out.mono (G:=λ i=>i=sb∨i=r∨Z i) λ i _ e=>e.elim .inl (λ e=>.inr (.inl e))).trans s3.k (λ i _ z=>.inr (.inr z))
 clear s3 hB
 replace hfin:=hid hfin
 go_wp2
 go_end0
 exact ⟨rfl,hfin.out⟩
end
section
variable {w w' w0:World} {C:TxC} {N:RgN} {sp:Nat} {D:DM} {B:TB} {Z X:Nat->Prop} {old:Nat->List UInt8} {L:LM} {wr:Nat}
theorem Ak5.rig {G:Geom} {d sb l mo r tb m:Nat} {F:List Nat} {ov:List OEnt} {oc:Nat}
  (h:Ak5 w d sb l mo r tb m F G D ov oc B Z X w') (tk:Nat)
  (a0:∀ i,Z i->X i) (ab:¬ Z r) (aa:X r) (hlt:∀ i,X i->i<w.heap.size) (geo:AtR G) (live:afD D G.life=false) (ho:∀ b,b<G.blocks->cmtB D (ovOf ov) G.home b=old b) (ad:mo<w.heap.size)
  (ac:Calm G L wr D) (hl:Blk w l (logO d L)) (lF:l∉F) (lsb:l≠sb) (xl:∀ i,X i->i≠l) (lok:LOk G L) (ovk:∀ e∈ov,e.key<G.blocks) (n4:G.n % 4=0) (n0:4<=G.n) (hO:ApZ B old G) :
  ∃ (C':TxC) (N':RgN) (Z' X':Nat->Prop),N'.r=r/\C'.G=G/\C'.ov=ov/\NX w' C' N' ⟨old,[],0,old,L,wr,false,tk⟩ ⟨B.R.begin,B.was,B.was⟩ Z' X'/\Aa8 ⟨B.R.begin,B.was,B.was⟩ ⟨old,[],0,old,L,wr,false,tk⟩ G /\
   (∀ i,AaX C' N' Z' i->(i∈F∨Z i∨i=r∨i=sb∨i=l∨i=mo)∨w.heap.size<=i/\i<w'.heap.size)/\(∀ i,X i->X' i)/\AaA (λ i=>i=sb∨i=r∨Z i) w w':=by
 obtain ⟨t,mx,p,q,ta,ua,n1,n2,a1,a2,a3,a4,a5,a6,a7,a8,a9,a10,b1,b2,b3,b4,b5,b6,b7,b8⟩:=h
 have hz:=b8.size
 have ae:mx<w'.heap.size:=b6.mxLt
 refine ⟨⟨t,sb,d,l,mo,mx,F,G,true,ov,oc⟩,⟨r,ta,ua,p,q,tb,m⟩,λ i=>Z i∨n2<=i/\i<w'.heap.size,λ i=>X i∨n1<=i/\i<w'.heap.size,rfl,rfl,rfl,?_,hO.begin L wr tk,λ i hi=>?_,λ i hi=>.inl hi,b8⟩
 ·exact
   {pl:=⟨⟨_,b6,⟨λ b hb=>ho b hb,λ b=>⟨λ _=>by simp,λ _=>rfl⟩,rfl,List.nodup_nil,by simp,live,rfl,ho,λ _=>ac,λ e=>by cases e⟩⟩,λ i hi=>hi.elim (λ x=>by have:=hlt i x;omega) (·.2),geo⟩
    hb:=λ x hx=>by
     simp only [RgN.bl,List.mem_cons,List.not_mem_nil,or_false] at hx
     rcases hx with rfl|rfl|rfl|rfl|rfl
     ·exact ⟨b1,.inl aa,λ z=>z.elim ab (λ z=>by have:=hlt r aa;dsimp only at z;omega)⟩
     ·exact ⟨b4,.inr ⟨by dsimp only;omega,by dsimp only;omega⟩,λ z=>z.elim (λ z=>by have:=hlt _ (a0 _ z);dsimp only at this;omega) (λ z=>by dsimp only at z;omega)⟩
     ·exact ⟨b5,.inr ⟨by dsimp only;omega,by dsimp only;omega⟩,λ z=>z.elim (λ z=>by have:=hlt _ (a0 _ z);dsimp only at this;omega) (λ z=>by dsimp only at z;omega)⟩
     ·exact ⟨b2,.inr ⟨by dsimp only;omega,by dsimp only;omega⟩,λ z=>z.elim (λ z=>by have:=hlt _ (a0 _ z);dsimp only at this;omega) (λ z=>by dsimp only at z;omega)⟩
     ·exact ⟨b3,.inr ⟨by dsimp only;omega,by dsimp only;omega⟩,λ z=>z.elim (λ z=>by have:=hlt _ (a0 _ z);dsimp only at this;omega) (λ z=>by dsimp only at z;omega)⟩
    ref:=b7
    zX:=λ i hi=>hi.elim (λ x=>.inl (a0 i x)) (λ x=>.inr ⟨by omega,x.2⟩)
    hl:=b8.blk hl (λ f=>by
     rcases f with f|f|f
     ·exact lsb f
     ·exact xl _ aa f.symm
     ·exact xl _ (a0 _ f) rfl)
    lF:=lF
    xl:=λ i hi e=>hi.elim (λ x=>xl i x e) (λ x=>by have:=hl.lt;dsimp only at e;omega)
    lok:=lok
    ovk:=ovk,n4:=n4,n0:=n0,dd:=rfl }
 ·have af:=hl.lt
  rcases hi with (hi|hi|hi)|(hi|hi)|⟨x,hx,rfl⟩|hi|hi|hi
  ·exact .inl (.inl hi)
  ·have e:i=t:=hi;exact .inr ⟨by omega,by omega⟩
  ·have e:i=mx:=hi;exact .inr ⟨by omega,by omega⟩
  ·exact .inl (.inr (.inl hi))
  ·exact .inr ⟨by omega,hi.2⟩
  ·simp only [RgN.bl,List.mem_cons,List.not_mem_nil,or_false] at hx
   rcases hx with rfl|rfl|rfl|rfl|rfl
   ·exact .inl (.inr (.inr (.inl rfl)))
   ·exact .inr ⟨by dsimp only;omega,by dsimp only;omega⟩
   ·exact .inr ⟨by dsimp only;omega,by dsimp only;omega⟩
   ·exact .inr ⟨by dsimp only;omega,by dsimp only;omega⟩
   ·exact .inr ⟨by dsimp only;omega,by dsimp only;omega⟩
  ·exact .inl (.inr (.inr (.inr (.inl hi))))
  ·exact .inl (.inr (.inr (.inr (.inr (.inl hi)))))
  ·exact .inl (.inr (.inr (.inr (.inr (.inr hi)))))
theorem NEnd.begin (h:NEnd w C N D sp old L wr B Z X) (hO:ApZ B old C.G) (tk:Nat):Calls prog 48 #[↑N.r] w λ e w'=>e=U (.tuple #[]) /\
  ∃ (C':TxC) (N':RgN) (Z' X':Nat->Prop),N'.r=N.r/\C'.G=C.G/\NX w' C' N' ⟨old,[],0,old,L,wr,false,tk⟩ ⟨B.R.begin,B.was,B.was⟩ Z' X'/\Aa8 ⟨B.R.begin,B.was,B.was⟩ ⟨old,[],0,old,L,wr,false,tk⟩ C.G /\
   (∀ i,AaX C' N' Z' i->Zn w w' (AaX C N Z) i)/\(∀ i,X i->X' i)/\AaA (λ i=>i=C.sb∨i=N.r∨Z i) w w':=by
 obtain ⟨own,xc,y1,y2,y3⟩:=id h.rep
 have a1:=λ i hi=>(y1.xX i hi)
 have hs:=y1.hs
 rw [h.op] at hs
 have a2:StAt w C.sb C.d C.l C.mo C.F C.G D C.ov C.oc false:=⟨hs,y1.hd,y1.ho,y1.sF,y1.oF,y1.sO,y1.gn,y1.n2,h.live⟩
 have a0:=h.hb _ (List.mem_cons_self ..)
 have hn:=hO.nodes
 have a3:=h.n0
 have a4:=h.geo.n2
 refine (asA a0.1 a2 h.ref (by omega) (by omega) (X:=X) (λ i hi=>⟨h.lt i hi,(a1 i hi).2.1,(a1 i hi).2.2.1,(a1 i hi).2.2.2.1⟩) a0.2.1 h.zX a0.2.2).mono ?_
 rintro e w' ⟨rfl,x⟩
 refine ⟨rfl,?_⟩
 obtain ⟨C',N',Z',X',z1,z2,_,z3,z4,z5,z6,z7⟩:=x.rig tk h.zX a0.2.2 a0.2.1 h.lt h.geo h.live h.o y1.ho.hm.lt h.dk h.hl h.lF (alZ h.rep h.hl h.lF).2 h.xl h.lok h.ovk h.n4 h.n0 hO
 refine ⟨C',N',Z',X',z1,z2,z3,z4,λ i hi=>(z5 i hi).elim (λ x=>.inl ?_) .inr,z6,z7⟩
 rcases x with x|x|x|x|x|x
 ·exact .inl (.inl x)
 ·exact .inr (.inl x)
 ·exact .inr (.inr (.inl ⟨_,List.mem_cons_self ..,x⟩))
 ·exact .inr (.inr (.inr (.inl x)))
 ·exact .inr (.inr (.inr (.inr (.inl x))))
 ·exact .inr (.inr (.inr (.inr (.inr x))))
end
def ad7 (s lg n:Nat):Int:=wrap64 ((fmtD s lg n).life+1)
def AsC (w:World) (s lg n:Nat) (e:Ending) (w':World):Prop:=
 ∃ d sb l mo F,e=U (.tuple #[.pointer (some ⟨d,0,none⟩),.pointer (some ⟨sb,0,none⟩)])/\StAt w' sb d l mo F ⟨s,lg,n,ad7 s lg n⟩ (newD s lg n) [] 0 false/\Blk w' l (logO d (newL lg (ad7 s lg n))) /\
  (∀ i,i=sb∨i=l∨i=mo∨i∈F->w.heap.size<=i)/\l≠sb/\l∉F/\l≠mo/\AaA NoF w w'
section
theorem aDG (w:World) (s lg n:Nat) (hp:AbY s lg n) (h2:s<=2048):Calls prog 33 #[.agg #[I s,I lg,I n]] w (AsC w s lg n):=by
 have a0:=hp
 unfold AbY at a0
 have hD:=λ w=>aDC s (by omega) h2 w
 have sA:=Blk.new w (.cells #[I s,I lg,I n] 32 (0,0))
 have kA:=(AaA.refl NoF w).alloc (.cells #[I s,I lg,I n] 32 (0,0))
 generalize hPost:AsC w s lg n=Post
 replace ⟨hp,a0,hD,sA,kA,hPost⟩:=yh6 hp a0 hD sA kA hPost
 go_enter Tryz.func33,Tryz.ntmps33
 go_upto_region 1 with fail
 generalize w.alloc (.cells #[I s,I lg,I n] 32 (0,0))=wA at *
 have s0:=sA.out.cell 0
 simp at s0
 go_wp2_with fail
 refine (hD.out _).mono ?_
 rintro e w2 ⟨d,F,rfl,d1,k2,f2⟩
 have sB:=k2.blk sA.out (λ f=>f)
 have kB:=kA.out.step k2
 have hF:∀ k∈F,w.heap.size<k:=λ k hk=>aEJ sA.out.lt (f2 k hk)
 have hf:=atF hp.out h2 d1
 have q0:=sB.cell 0
 have q1:=sB.cell 1
 have q2:=sB.cell 2
 simp at q0 q1 q2
 have hw2:w.heap.size<w2.heap.size:=sB.lt
 clear s0 hD sA kA k2 f2 d1 sB
 replace ⟨kB,hF,hf⟩:=yh3 kB hF hf
 go_wp2_with fail
 refine hf.out.mono ?_
 rintro e w3 ⟨rfl,F3,d3,k3,f3⟩
 have kC:AaA NoF w w3:=kB.out.trans k3 (λ i hi hm=>by have:=hF.out i hm;omega)
 have a1:∀ k∈F3,w.heap.size<k:=λ k hk=>by
  rcases f3 k hk with x|x
  ·exact hF.out k x
  ·omega
 have hO:=auH hp.out h2 d3
 unfold AlH at hO
 clear q0 q1 q2 kB hF hf d3 k3 f3
 replace ⟨kC,a1,hO⟩:=yh3 kC a1 hO
 go_wp2_with fail
 refine hO.out.mono ?_
 rintro e w4 ⟨sb,l,mo,F4,rfl,hs,hl,hm,hA,g1,g2,g3,g4⟩
 have a2:∀ k∈F4,w.heap.size<=k:=λ k hk=>by
  rcases hA.sub k hk with x|x
  ·have:=a1.out k x;omega
  ·have:=kC.out.size;omega
 have kD:AaA NoF w w4:=kC.out.trans hA.keeps (λ i hi hm=>by have:=a1.out i hm;omega)
 have nd:=g4
 rw [List.nodup_cons,List.nodup_cons,List.nodup_cons] at nd
 simp only [List.mem_cons,not_or] at nd
 obtain ⟨life,g,_,hI,a3,_⟩:=al1 hp.out h2
 have hz:=kC.out.size
 have hQ:Post (U (.tuple #[↑d,↑sb])) w4:=by
  rw [← hPost.out]
  refine ⟨d,sb,l,mo,F4,rfl,?_,hl,λ i hi=>?_,λ e=>nd.1.1 e.symm,nd.2.1.2,λ e=>nd.2.1.1 e,kD⟩
  ·exact
    {hs:=hs
     hd:=hA.rep
     ho:=⟨hm,(λ e he=>by cases he),List.nodup_nil,List.nodup_nil,(λ e he=>by cases he)⟩
     sF:=nd.1.2.2
     oF:=λ k hk=>by
      have:k=mo:=by simpa [aaH] using hk
      rw [this];exact nd.2.2.1
     sO:=λ hk=>by
      have:sb=mo:=by simpa [aaH] using hk
      exact nd.1.2.1 this
     gn:=by rw [hI.n];have:=a0.out;show 3+lg+(s - (3+lg))<=s;omega
     n2:=by rw [hI.n];exact h2
     live:=by unfold afD ad7;rw [hI.burnt,hI.lf,a3];simp }
  ·rcases hi with hi|hi|hi|hi
   ·omega
   ·omega
   ·omega
   ·exact a2 i hi
 clear hs hl hm hA hO hPost
 replace hQ:=hid hQ
 go_wp2
 exact hQ.out
end
def AwY (w:World) (tb m:Nat) (r:(Nat × Nat) × TB) (Z:Nat->Prop) (e:Ending) (w':World):Prop:=e=U (.tuple #[I (r.1.1:Nat),I (r.1.2:Nat)])/\AaS w w' tb m r.2 Z
section
variable {w:World} {tb m:Nat} {B:TB} {Z:Nat->Prop}
theorem RP.take_node (R:RP) (bs:List UInt8) (h0:R.state=0) (h:(R.takeA true bs).2=0):1<=(R.takeA true bs).1/\(R.takeA true bs).1<=R.nodes:=by
 unfold RP.takeA at h ⊢
 rw [if_pos h0] at h ⊢
 cases hf:abA bs (rLo R true) (rHi R true) with
 | none=>rw [hf] at h;cases h
 | some i=>
  rw [hf] at h
  obtain ⟨_,a2,_,_⟩:=acL hf
  dsimp only at h ⊢
  have hp:R.putsE true.toNat=0:=aE7 λ x=>by rw [if_neg x] at h;exact x h
  rw [if_pos hp]
  have:rHi R true=R.nodes:=rfl
  have:true.toNat=1:=rfl
  dsimp only
  omega
theorem adR (h:Aa3 w tb m B Z):∀ W,AaA NoF w W->Calls prog 65 #[↑m] W λ e w'=>e=U (I (B.R.state:Nat))/\W=w':=λ W kW=>by
 obtain ⟨V,Z1,Z2,a,b⟩:=h.keeps kW (λ _ _ f=>f)
 exact aeF a.rf
theorem Aa3.cells (h:Aa3 w tb m B Z):w.cell? ↑tb=some ↑m/\w.cell? ⟨m,1,none⟩=some (I B.R.nodes):=by
 refine ⟨h.cell0,?_⟩
 obtain ⟨V,Z1,Z2,a,b⟩:=h
 obtain ⟨RV,hr⟩:=a.rf
 have c1:=hr.hm.cell 1
 simpa using c1
theorem aoO (h:Aa3 w tb m B Z) (kind parent:Int) (c:Nat) (hc:B.R.state≠0/\c=B.R.state∨B.R.state=0/\argE B.R.nodes kind parent≠0/\c=argE B.R.nodes kind parent) :
  Calls prog 50 #[↑tb,I kind,I parent] w λ e w'=>e=U (.tuple #[I 0,I (c:Nat)])/\w=w':=by
 have hS:=adR h w (AaA.refl _ w)
 obtain ⟨c0,c1⟩:=h.cells
 generalize B.R.state=st at *
 generalize B.R.nodes=nd at *
 clear h
 rcases hc with ⟨h0,rfl⟩|⟨rfl,ha,rfl⟩
 ·have b0:((c:Int) != 0)=true:=by simpa using h0
  clear c1
  replace hS:=hid hS;clear h0
  go_enter Tryz.func50,Tryz.ntmps50
  go_wp2_with fail
  refine hS.out.mono ?_
  rintro e w5 ⟨rfl,rfl⟩
  go_wp2
  go_ret2
  exact ⟨rfl,rfl⟩
 ·unfold argE at ha ⊢
  by_cases h2:kind=2
  ·subst h2
   rw [if_pos rfl] at ha ⊢
   by_cases hp:parent<1∨(nd:Int)<parent
   ·rw [if_pos hp] at ha ⊢
    by_cases a0:parent<1
    ·have b1:decide (parent<1)=true:=decide_eq_true a0
     clear c1
     replace ⟨hS,ha,hp,a0⟩:=yh4 hS ha hp a0
     go_enter Tryz.func50,Tryz.ntmps50
     go_wp2_with fail
     refine hS.out.mono ?_
     rintro e w5 ⟨rfl,rfl⟩
     go_wp2
     go_ret2
     exact ⟨rfl,rfl⟩
    ·have b1:decide (parent<1)=false:=decide_eq_false a0
     have a1:(nd:Int)<parent:=hp.resolve_left a0
     have b2:decide ((nd:Int)<parent)=true:=decide_eq_true a1
     replace ⟨hS,ha,hp⟩:=yh3 hS ha hp;clear a0 a1
     go_enter Tryz.func50,Tryz.ntmps50
     go_wp2_with fail
     refine hS.out.mono ?_
     rintro e w5 ⟨rfl,rfl⟩
     go_wp2
     go_ret2
     exact ⟨rfl,rfl⟩
   ·rw [if_neg hp] at ha;exact absurd rfl ha
  ·rw [if_neg h2] at ha ⊢
   by_cases hk:kind=1∨kind=3
   ·rw [if_pos hk] at ha ⊢
    by_cases hp:parent=0
    ·rw [if_pos hp] at ha;exact absurd rfl ha
    ·rw [if_neg hp] at ha ⊢
     have b1:(parent != 0)=true:=by simpa using hp
     clear c1
     rcases hk with rfl|rfl
     all_goals
      replace ⟨hS,ha,h2⟩:=yh3 hS ha h2;clear hp
      go_enter Tryz.func50,Tryz.ntmps50
      go_wp2_with fail
      refine hS.out.mono ?_
      rintro e w5 ⟨rfl,rfl⟩
      go_wp2
      go_ret2
      exact ⟨rfl,rfl⟩
   ·rw [if_neg hk] at ha ⊢
    have b1:(kind != 1)=true:=by simpa using (λ e=>hk (.inl e):¬ kind=1)
    have b2:(kind != 2)=true:=by simpa using h2
    have b3:(kind != 3)=true:=by simpa using (λ e=>hk (.inr e):¬ kind=3)
    clear c1
    replace hS:=hid hS;clear ha hk h2
    go_enter Tryz.func50,Tryz.ntmps50
    go_wp2_with fail
    refine hS.out.mono ?_
    rintro e w5 ⟨rfl,rfl⟩
    go_wp2
    go_ret2
    exact ⟨rfl,rfl⟩
def aiE (kind parent:Int):Nd:=⟨kind,0,parent,0,0,List.replicate 12 0⟩
theorem aw9 (h:Aa3 w tb m B Z) (a1:B.R.put.length<=16) (hn:B.R.nodes<=1024) (bs:List UInt8) (hb:B.R.nowN=aaZ bs) (a4:bs.length=512) (kind parent:Int) (h0:B.R.state=0) (ha:argE B.R.nodes kind parent=0) :
  Calls prog 50 #[↑tb,I kind,I parent] w (AwY w tb m (B.make bs kind parent) Z):=by
 have hS:=adR h w (AaA.refl _ w)
 rw [h0] at hS
 have hT:=azC h a1 hn bs hb a4 w (AaA.refl _ w)
 obtain ⟨c0,c1⟩:=h.cells
 have a5:Ac4 (acY kind parent):=.inr (ao9 hn ha)
 have a0:=λ (hz:(B.R.takeA true bs).2=0) w7 (s:AaS w w7 tb m { B with R:=B.R.take true bs } Z)=>by
  obtain ⟨t1,t2⟩:=B.R.take_node bs h0 hz
  obtain ⟨p1,p2⟩:=B.R.take_le true bs a1
  exact arE s.rep p1 (by show (B.R.take true bs).nodes<=1024;omega) t1 (by show _<=(B.R.take true bs).nodes;omega) (ahT kind parent) a5
 have a7:B.make bs kind parent=if (B.R.takeA true bs).2=0 then
    ((if (({ B with R:=B.R.take true bs }:TB).put (B.R.takeA true bs).1 (encN (acY kind parent))).1=0 then (B.R.takeA true bs).1 else 0,(({ B with R:=B.R.take true bs }:TB).put (B.R.takeA true bs).1 (encN (acY kind parent))).1),(({ B with R:=B.R.take true bs }:TB).put (B.R.takeA true bs).1 (encN (acY kind parent))).2)
    else ((0,(B.R.takeA true bs).2),{ B with R:=B.R.take true bs }):=by
  unfold TB.make
  rw [if_pos h0,if_pos ha]
 have hP:∀ k c B',B.make bs kind parent=((k,c),B')->∀ w',AaS w w' tb m B' Z->AwY w tb m (B.make bs kind parent) Z (U (.tuple #[I (k:Nat),I (c:Nat)])) w':=λ k c B' e w' s=>by rw [e];exact ⟨rfl,s⟩
 generalize AwY w tb m (B.make bs kind parent) Z=Post at *
 rw [a7] at hP
 clear a7
 generalize ({ B with R:=B.R.take true bs }:TB).put (B.R.takeA true bs).1 (encN (acY kind parent))=pr at *
 obtain ⟨cp,Bp⟩:=pr
 generalize ({ B with R:=B.R.take true bs }:TB)=Bt at *
 generalize B.R.takeA true bs=tk at *
 obtain ⟨kt,ft⟩:=tk
 dsimp only at hT a0 hP
 generalize B.R.nodes=nd at *
 obtain ⟨d,ud,hd⟩:=acJ
 clear h a5
 have a8:kind=2/\¬ (parent<1∨(nd:Int)<parent)∨(kind=1∨kind=3)/\parent=0:=by
  unfold argE at ha
  by_cases h2:kind=2
  ·rw [if_pos h2] at ha
   exact .inl ⟨h2,λ x=>by rw [if_pos x] at ha;cases ha⟩
  ·rw [if_neg h2] at ha
   have hk:kind=1∨kind=3:=aE7 λ x=>by rw [if_neg x] at ha;cases ha
   rw [if_pos hk] at ha
   exact .inr ⟨hk,aE7 λ x=>by rw [if_neg x] at ha;cases ha⟩
 have sz:=aaK
 rcases a8 with ⟨rfl,hp⟩|⟨hk,rfl⟩
 ·have b1:decide (parent<1)=false:=decide_eq_false (λ x=>hp (.inl x))
  have b2:decide ((nd:Int)<parent)=false:=decide_eq_false (λ x=>hp (.inr x))
  have a6:∀ W b,Blk W b (.cells (ndC (aiE 2 parent)).toArray 39 (0,0))->Blk (W.setCell ⟨b,1,none⟩ (I 2)) b (.cells (ndC (acY 2 parent)).toArray 39 (0,0)):=λ W b x=>x.setCell 1 (I 2)
  replace ⟨hS,hT,a0,hP,ud,hd,ha,sz⟩:=yh8 hS hT a0 hP ud hd ha sz;replace ⟨a6,hn,a1,hb,a4⟩:=yh5 a6 hn a1 hb a4;clear hp
  go_enter Tryz.func50,Tryz.ntmps50
  go_wp2_with fail
  refine hS.out.mono ?_
  rintro e w5 ⟨rfl,rfl⟩
  go_wp2_with fail
  refine hT.out.mono ?_
  rintro e w5 ⟨rfl,s5⟩
  clear hS hT c0 c1
  by_cases hf:ft=0
  ·subst hf
   have hL:=a0.out rfl w5 s5
   clear a0
   replace ⟨hL,s5⟩:=yh2 hL s5
   go_upto_region 13 with fail
   go_step
   refine aaR rfl _ _ (by go_simp;exact ⟨rfl,rfl⟩) ?_
   simp only [wz]
   refine aaR rfl _ _ (by go_simp;exact ⟨rfl,rfl⟩) ?_
   simp only [wz]
   refine abT rfl _ _ rfl (.agg (ndC (aiE 2 parent)).toArray) w5 (by kernel_rfl) ?_
   simp only [wz]
   refine aa0 rfl _ rfl _ _ (abI _) ?_
   simp only [wz]
   refine aaL rfl 39 (.tmp 11) (.tmp 70) rfl w5.heap.size 0 39 (ndC Nd.zero) (ndC (aiE 2 parent)) rfl rfl (Blk.new _ _) (by rw [aaM (n:=aiE 2 parent) rfl];decide) (by rw [aaM (n:=aiE 2 parent) rfl];exact aaK) (abJ _) ?_
   intro w6 b6 k6 _
   rw [aa4 (by rw [aaM (n:=aiE 2 parent) rfl];rfl)] at b6
   have kz:AaA NoF w5 w6:=((AaA.refl NoF w5).alloc (ndO Nd.zero)).fresh k6 (λ i e=>by omega)
   have b7:=a6.out _ _ b6
   have c6:=b6.cell 1
   have f6:=b6.frz 1
   have e6:w6.cell? ⟨w5.heap.size,1,none⟩=some (I 0):=c6
   have kz7:AaA NoF w5 (w6.setCell ⟨w5.heap.size,1,none⟩ (I 2)):=kz.fresh ((AaA.refl (· = w5.heap.size) w6).setCell (p:=⟨w5.heap.size,1,none⟩) (.inl rfl) _) (λ i e=>by omega)
   have a2:=hL.out _ kz7
   clear c6 hL k6 kz b6
   generalize w5.heap.size=nb at *
   have sz2:=ahT 2 parent
   have a3:=abR sz2
   have hPf:=hP.out (if cp=0 then kt else 0) cp Bp (by simp)
   clear hP
   replace ⟨kz7,b7,a2,sz2,a3,hPf⟩:=yh6 kz7 b7 a2 sz2 a3 hPf
   go_wp2_with (first
    | (refine aaN rfl 39 (.tmp 11) rfl nb 0 39 (ndC (acY 2 parent)) 17 d rfl b7.out (by rw [aaM sz2.out];decide) ud.out hd.out sz.out ?_;rw [a3.out]))
   refine a2.out.mono ?_
   rintro e w8 ⟨rfl,s8⟩
   have hQ:=hPf.out _ (s5.out.trans (s8.mv kz7.out))
   clear hPf a2 s8 b7 kz7 s5
   by_cases hc:cp=0
   ·subst hc
    rw [if_pos rfl] at hQ
    replace hQ:=hid hQ
    go_wp2
    exact hQ.out
   ·rw [if_neg hc] at hQ
    have bc:((cp:Int) != 0)=true:=by simpa using hc
    replace ⟨hQ,hc⟩:=yh2 hQ hc
    go_wp2
    exact hQ.out
  ·have bc:((ft:Int) != 0)=true:=by simpa using hf
   have hPf:=hP.out 0 ft Bt (by simp [hf]) _ s5
   clear hP a0 s5
   replace ⟨hPf,hf⟩:=yh2 hPf hf
   go_wp2
   exact hPf.out
 ·rcases hk with rfl|rfl
  ·have hk1:=ha
   clear hk1
   replace ⟨hS,hT,a0,hP,ud,hd,ha,sz⟩:=yh8 hS hT a0 hP ud hd ha sz;replace ⟨hn,a1,hb,a4⟩:=yh4 hn a1 hb a4
   go_enter Tryz.func50,Tryz.ntmps50
   go_wp2_with fail
   refine hS.out.mono ?_
   rintro e w5 ⟨rfl,rfl⟩
   go_wp2_with fail
   refine hT.out.mono ?_
   rintro e w5 ⟨rfl,s5⟩
   clear hS hT c0 c1
   by_cases hf:ft=0
   ·subst hf
    have hL:=a0.out rfl w5 s5
    clear a0
    replace ⟨hL,s5⟩:=yh2 hL s5
    go_upto_region 13 with fail
    go_step
    refine aaR rfl _ _ (by go_simp;exact ⟨rfl,rfl⟩) ?_
    simp only [wz]
    refine aaR rfl _ _ (by go_simp;exact ⟨rfl,rfl⟩) ?_
    simp only [wz]
    refine abT rfl _ _ rfl (.agg (ndC (aiE 1 0)).toArray) w5 (by kernel_rfl) ?_
    simp only [wz]
    refine aa0 rfl _ rfl _ _ (abI _) ?_
    simp only [wz]
    refine aaL rfl 39 (.tmp 11) (.tmp 70) rfl w5.heap.size 0 39 (ndC Nd.zero) (ndC (aiE 1 0)) rfl rfl (Blk.new _ _) (by rw [aaM (n:=aiE 1 0) rfl];decide) (by rw [aaM (n:=aiE 1 0) rfl];exact aaK) (abJ _) ?_
    intro w6 b6 k6 _
    rw [aa4 (by rw [aaM (n:=aiE 1 0) rfl];rfl)] at b6
    have kz:AaA NoF w5 w6:=((AaA.refl NoF w5).alloc (ndO Nd.zero)).fresh k6 (λ i e=>by omega)
    have b7:Blk w6 w5.heap.size (.cells (ndC (acY 1 0)).toArray 39 (0,0)):=b6
    have kz7:=kz
    have a2:=hL.out _ kz7
    clear hL k6 kz b6
    generalize w5.heap.size=nb at *
    have sz2:=ahT 1 0
    have a3:=abR sz2
    have hPf:=hP.out (if cp=0 then kt else 0) cp Bp (by simp)
    clear hP
    replace ⟨kz7,b7,a2,sz2,a3,hPf⟩:=yh6 kz7 b7 a2 sz2 a3 hPf
    go_wp2_with (first
     | (refine aaN rfl 39 (.tmp 11) rfl nb 0 39 (ndC (acY 1 0)) 17 d rfl b7.out (by rw [aaM sz2.out];decide) ud.out hd.out sz.out ?_;rw [a3.out]))
    refine a2.out.mono ?_
    rintro e w8 ⟨rfl,s8⟩
    have hQ:=hPf.out _ (s5.out.trans (s8.mv kz7.out))
    clear hPf a2 s8 b7 kz7 s5
    by_cases hc:cp=0
    ·subst hc
     rw [if_pos rfl] at hQ
     replace hQ:=hid hQ
     go_wp2
     exact hQ.out
    ·rw [if_neg hc] at hQ
     have bc:((cp:Int) != 0)=true:=by simpa using hc
     replace ⟨hQ,hc⟩:=yh2 hQ hc
     go_wp2
     exact hQ.out
   ·have bc:((ft:Int) != 0)=true:=by simpa using hf
    have hPf:=hP.out 0 ft Bt (by simp [hf]) _ s5
    clear hP a0 s5
    replace ⟨hPf,hf⟩:=yh2 hPf hf
    go_wp2
    exact hPf.out
  ·have hk1:=ha
   clear hk1
   replace ⟨hS,hT,a0,hP,ud,hd,sz,hn⟩:=yh8 hS hT a0 hP ud hd sz hn;clear ha a1 hb a4
   go_enter Tryz.func50,Tryz.ntmps50
   go_wp2_with fail
   refine hS.out.mono ?_
   rintro e w5 ⟨rfl,rfl⟩
   go_wp2_with fail
   refine hT.out.mono ?_
   rintro e w5 ⟨rfl,s5⟩
   clear hS hT c0 c1
   by_cases hf:ft=0
   ·subst hf
    have hL:=a0.out rfl w5 s5
    clear a0
    replace ⟨hL,s5⟩:=yh2 hL s5
    go_upto_region 13 with fail
    go_step
    refine aaR rfl _ _ (by go_simp;exact ⟨rfl,rfl⟩) ?_
    simp only [wz]
    refine aaR rfl _ _ (by go_simp;exact ⟨rfl,rfl⟩) ?_
    simp only [wz]
    refine abT rfl _ _ rfl (.agg (ndC (aiE 3 0)).toArray) w5 (by kernel_rfl) ?_
    simp only [wz]
    refine aa0 rfl _ rfl _ _ (abI _) ?_
    simp only [wz]
    refine aaL rfl 39 (.tmp 11) (.tmp 70) rfl w5.heap.size 0 39 (ndC Nd.zero) (ndC (aiE 3 0)) rfl rfl (Blk.new _ _) (by rw [aaM (n:=aiE 3 0) rfl];decide) (by rw [aaM (n:=aiE 3 0) rfl];exact aaK) (abJ _) ?_
    intro w6 b6 k6 _
    rw [aa4 (by rw [aaM (n:=aiE 3 0) rfl];rfl)] at b6
    have kz:AaA NoF w5 w6:=((AaA.refl NoF w5).alloc (ndO Nd.zero)).fresh k6 (λ i e=>by omega)
    have b7:Blk w6 w5.heap.size (.cells (ndC (acY 3 0)).toArray 39 (0,0)):=b6
    have kz7:=kz
    have a2:=hL.out _ kz7
    clear hL k6 kz b6
    generalize w5.heap.size=nb at *
    have sz2:=ahT 3 0
    have a3:=abR sz2
    have hPf:=hP.out (if cp=0 then kt else 0) cp Bp (by simp)
    clear hP
    replace ⟨kz7,b7,a2,sz2,a3,hPf⟩:=yh6 kz7 b7 a2 sz2 a3 hPf
    go_wp2_with (first
     | (refine aaN rfl 39 (.tmp 11) rfl nb 0 39 (ndC (acY 3 0)) 17 d rfl b7.out (by rw [aaM sz2.out];decide) ud.out hd.out sz.out ?_;rw [a3.out]))
    refine a2.out.mono ?_
    rintro e w8 ⟨rfl,s8⟩
    have hQ:=hPf.out _ (s5.out.trans (s8.mv kz7.out))
    clear hPf a2 s8 b7 kz7 s5
    by_cases hc:cp=0
    ·subst hc
     rw [if_pos rfl] at hQ
     replace hQ:=hid hQ
     go_wp2
     exact hQ.out
    ·rw [if_neg hc] at hQ
     have bc:((cp:Int) != 0)=true:=by simpa using hc
     replace hQ:=hid hQ;clear hc
     go_wp2
     exact hQ.out
   ·have bc:((ft:Int) != 0)=true:=by simpa using hf
    have hPf:=hP.out 0 ft Bt (by simp [hf]) _ s5
    clear hP a0 s5
    replace hPf:=hid hPf;clear hf
    go_wp2
    exact hPf.out
end
end Go.Vk
