/- Part of the proof: Ns3 Nn4 Nn6a. -/
import Derived.Test.YtjeelghnmkefcaaGreatQ02
import Derived.Test.YtjeelghnmkefcaaGreatQ29
import Derived.Test.YtjeelghnmkefcaaGreatQ35
import Derived.StillTactics
set_option linter.unusedVariables false
set_option maxHeartbeats 16000000
set_option maxRecDepth 100000
namespace Go.Vk
open Go.RowKit Go.Proofs
open Tryz (prog)
structure NEnd (w:World) (C:TxC) (N:RgN) (D:DM) (sp:Nat) (old:Nat->List UInt8) (L:LM) (wr:Nat) (B:TB) (Z X:Nat->Prop):Prop where
 rep:Aa1 w C ⟨D,λ _=>none,0,sp⟩ true X
 op:C.op=false
 live:afD D C.G.life=false
 o:∀ b,b<C.G.blocks->cmtB D (ovOf C.ov) C.G.home b=old b
 lt:∀ i,X i->i<w.heap.size
 geo:AtR C.G
 hb:∀ x∈N.bl C,Blk w x.1 x.2/\X x.1/\¬ Z x.1
 ref:Aa3 w N.tb N.m B Z
 zX:∀ i,Z i->X i
 dk:Calm C.G L wr D
 hl:Blk w C.l (logO C.d L)
 lF:C.l∉C.F
 xl:∀ i,X i->i≠C.l
 lok:LOk C.G L
 ovk:∀ e∈C.ov,e.key<C.G.blocks
 n4:C.G.n % 4=0
 n0:4<=C.G.n
section
variable {w w' w0:World} {C:TxC} {N:RgN} {sp:Nat} {D:DM} {T:TS} {B B':TB} {Z X F:Nat->Prop} {old:Nat->List UInt8} {L:LM} {wr:Nat}
theorem NEnd.four (h:NEnd w C N D sp old L wr B Z X):aaT D C.G.life sp true=4:=by
 unfold aaT;rw [h.live];rfl
theorem NEnd.quiet (h:NEnd w C N D sp old L wr B Z X) (k:AaA NoF w w'):NEnd w' C N D sp old L wr B Z X:=
 { h with
  rep:=h.rep.quiet k (λ _ f=>f.elim)
  lt:=λ i hi=>aEJ (h.lt i hi) k.size
  hb:=λ x hx=>by
   obtain ⟨a,b,c⟩:=h.hb x hx
   exact ⟨k.blk a (λ f=>f),b,c⟩
  ref:=h.ref.keeps k (λ i hi f=>f)
  hl:=k.blk h.hl (λ f=>f) }
theorem NEnd.doc (h:NEnd w C N D sp old L wr B Z X) (s:AaS w w' N.tb N.m B' Z):NEnd w' C N D sp old L wr B' (Zn w w' Z) (Zn w w' X):=
 { h with
  rep:=((h.rep.client (Y:=λ i=>X i∨w.heap.size<=i) (λ i hi=>hi)).quiet s.k (λ i f=>.inl (h.zX i f))).client (λ i hi=>.inl (hi.elim .inl (λ x=>.inr x.1)))
  lt:=λ i hi=>hi.elim (λ x=>aEJ (h.lt i x) s.k.size) (·.2)
  hb:=λ x hx=>by
   obtain ⟨a,b,c⟩:=h.hb x hx
   have:=a.lt
   exact ⟨s.k.blk a c,.inl b,λ z=>z.elim c (λ z=>by omega)⟩
  ref:=s.rep
  zX:=λ i hi=>hi.elim (λ x=>.inl (h.zX i x)) .inr
  hl:=s.k.blk h.hl (λ f=>h.xl _ (h.zX _ f) rfl)
  xl:=λ i hi e=>hi.elim (λ x=>h.xl i x e) (λ x=>by have:=h.hl.lt;omega) }
theorem NEnd.state (h:NEnd w C N D sp old L wr B Z X):Calls prog 85 #[↑C.t] w λ e w'=>e=U (I 4)/\∃ n,w'=w.drewN n:=by
 have:=anU h.rep
 rw [h.four] at this
 exact this
theorem NX.abort (h:NX w C N T B Z X):Calls prog 38 #[↑C.t] w λ e w'=>e=U (I 0)/\∃ D sp,NEnd w' { C with op:=false } N D sp T.old T.lm T.wr B Z X/\AaA (λ i=>KF C i∨i=C.sb) w w':=by
 obtain ⟨M,⟨own,xc,y1,y2,y3⟩,hM⟩:=h.pl.rep
 have a0:=h.dd
 refine (axH y1 (hM.live.trans a0)).mono ?_
 rintro e w' ⟨rfl,z1,z2⟩
 have hx:=λ i hi=>(y1.xX i hi)
 have k:AaA (λ i=>¬ X i) w w':=z2.mono λ i _ f hi=>by
  obtain ⟨a1,a2,a3,a4,a5⟩:=hx i hi
  rcases f with f|f|f
  ·exact a1 f
  ·exact a2 f
  ·exact a5 (by simp [aaH,f])
 refine ⟨rfl,M.D,M.sp,?_,z2.mono λ i _ f=>?_⟩
 ·exact
   {rep:=⟨[],xc,z1,λ _=>rfl,rfl⟩
    op:=rfl
    live:=hM.live.trans a0
    o:=hM.o
    lt:=λ i hi=>aEJ (h.pl.lt i hi) z2.size
    geo:=h.pl.geo
    hb:=λ x hx=>by
     obtain ⟨a,b,c⟩:=h.hb x hx
     exact ⟨k.blk a (λ f=>f b),b,c⟩
    ref:=h.ref.keeps k (λ i hi f=>f (h.zX i hi))
    zX:=h.zX
    dk:=hM.dk.1 a0
    hl:=z2.blk h.hl (λ f=>by
     obtain ⟨b1,b2⟩:=alZ (M:=M) ⟨own,xc,y1,y2,y3⟩ h.hl h.lF
     rcases f with f|f|f
     ·exact b1 (.inr (.inl f))
     ·exact b2 f
     ·exact b1 (.inr (.inr f)))
    lF:=h.lF
    xl:=h.xl
    lok:=h.lok
    ovk:=h.ovk,n4:=h.n4,n0:=h.n0 }
 ·rcases f with f|f|f
  ·exact .inl (.inr (.inl f))
  ·exact .inr f
  ·exact .inl (.inr (.inr f))
theorem NX.both (h:NX w C N T B Z X) (hh:T.lm.head+40<=1073741824) (hw:T.wr+10000<1099511627776) :
  ∃ D own xc M g,Both w C D own xc T.sp false X T.lm M g/\own.length<=16/\D.writes<=T.wr/\∀ b,b<C.G.blocks->(ovOf own b).getD (cmtB D (ovOf C.ov) C.G.home b)=T.raw b:=by
 obtain ⟨M,a0,hM⟩:=h.pl.rep
 have hn:=alZ a0 h.hl h.lF
 obtain ⟨own,xc,y1,y2,y3⟩:=a0
 have a1:M.sp=T.sp:=hM.sp
 rw [a1] at y1
 obtain ⟨⟨K,g,d1,d2,d3,d4⟩,d5⟩:=hM.dk.1 h.dd
 have a2:=ajF C.G.blocks (C.ov.map (·.key)) y1.ho.keys (λ x hx=>by obtain ⟨e,he,rfl⟩:=List.mem_map.1 hx;exact h.ovk e he)
 rw [aEU] at a2
 have a4:=hM.le
 have a3:=hM.cnt
 refine ⟨M.D,own,xc,K,g,⟨y1,?_,?_,avK h.hl y1.hx,h.xl⟩,by omega,d5,λ b hb=>?_⟩
 ·exact
   {hs:=y1.hs,hl:=h.hl,hd:=y1.hd,ho:=y1.ho,sF:=y1.sF,lF:=h.lF,oF:=y1.oF
    ls:=hn.2,lO:=avK h.hl y1.ho,sO:=y1.sO
    is:=d1
    li:=h.lok.li,st:=h.lok.st,Lf:=h.lok.Lf,Ln:=h.lok.Ln,lg:=h.lok.lg
    gb:=d3,N2:=d4,kb:=h.ovk,ol:=by omega
    an:=d2,th:=h.lok.th,ep:=h.lok.ep,hb:=hh,wb:=by omega }
 ·exact λ e=>hn.1 (.inr (.inl e.symm))
 ·have:=hM.g b hb
  rw [← this]
  unfold TxM.get getB
  rw [y2 b]
theorem NX.commit (h:NX w C N T B Z X) (h0:T.st=0) (hh:T.lm.head+100<=1073741824) (hw:T.wr+40000<1099511627776):Calls prog 37 #[↑C.t] w λ e w'=>e=U (I 0) /\
  ∃ C' D L' wr',C'.t=C.t/\NEnd w' C' N D 0 T.raw L' wr' B Z X/\C'.G=C.G/\L'.head<=T.lm.head+17/\wr'<=T.wr+2100/\AaA (λ i=>KF C i∨i=C.sb∨i=C.l∨i=C.mo) w w'/\∀ Z i,AaX C' N Z i->Zn w w' (AaX C N Z) i:=by
 obtain ⟨_,a9⟩:=TS.st_zero h0
 obtain ⟨D,own,xc,K,g,hB,a6,ab,a7⟩:=h.both (by omega) (by omega)
 rw [a9] at hB
 refine (ay0 hB h.pl.lt a6 hh (by omega)).mono ?_
 rintro e w' ⟨rfl,F',ov',oc',D',L',g',a8,c1,c2,c3,c4,c5,c6⟩
 have aa:=hB.tx.xX
 have kX:AaA (λ i=>¬ X i) w w':=c3.mono λ i _ f hi=>by
  obtain ⟨a1,a2,a3,a4,a5⟩:=aa i hi
  rcases f with f|f|f|f|f|f
  ·exact a3 f
  ·exact a1 f
  ·exact a2 f
  ·exact a5 (by simp [aaH,f])
  ·exact a4 (by simp [aaH,f])
  ·exact h.xl i hi f
 have S:=a8.st
 have a0:=a8.live
 refine ⟨rfl,{ C with F:=F',ov:=ov',oc:=oc',op:=false },D',L',D'.writes,rfl,?_,rfl,c4,by omega,c3.mono λ i _ f=>?_,λ Z i hi=>?_⟩
 ·exact
   {rep:=⟨[],xc,a8.tx,λ _=>rfl,rfl⟩
    op:=rfl
    live:=a0
    o:=λ b hb=>(c6 b hb).trans (a7 b hb)
    lt:=λ i hi=>aEJ (h.pl.lt i hi) c3.size
    geo:=h.pl.geo
    hb:=λ x hx=>by
     obtain ⟨a,b,c⟩:=h.hb x hx
     exact ⟨kX.blk a (λ f=>f b),b,c⟩
    ref:=h.ref.keeps kX (λ i hi f=>f (h.zX i hi))
    zX:=h.zX
    dk:=⟨⟨K,g',S.is,S.an,S.gb,S.N2⟩,aEK _⟩
    hl:=S.hl,lF:=S.lF,xl:=h.xl
    lok:=⟨S.li,S.st,S.Lf,S.Ln,S.lg,S.th,S.ep⟩
    ovk:=S.kb,n4:=h.n4,n0:=h.n0 }
 ·rcases f with f|f|f|f|f|f
  ·exact .inl (.inl f)
  ·exact .inl (.inr (.inl f))
  ·exact .inr (.inl f)
  ·exact .inl (.inr (.inr f))
  ·exact .inr (.inr (.inr f))
  ·exact .inr (.inr (.inl f))
 ·rcases hi with (hi|hi|hi)|hi
  ·have hlt:=S.hd.lt i hi
   exact (c1 i hi).elim (λ x=>.inl (.inl (.inl x))) (λ x=>.inr ⟨x,hlt⟩)
  ·exact .inl (.inl (.inr (.inl hi)))
  ·exact .inl (.inl (.inr (.inr hi)))
  ·exact .inl (.inr hi)
end
theorem arM (w:World) (k b g c:Nat) (h1:1<=k) (h2:k<=1024):Calls prog 180 #[afX k b g (512+c)] w λ e w'=>
  e=U (.slice (some ⟨g,128*nix k,none⟩) 128 128)/\AaA NoF w w':=by
 have hr:((k:Int) - 1).tmod 4=((nix k:Nat):Int):=by rw [show ((k:Int) - 1)=((k - 1:Nat):Int) by omega];rfl
 have a0:((k:Int) - 1) % 4=((nix k:Nat):Int):=by unfold nix;omega
 have hm:((nix k:Nat):Int)*128=((128*nix k:Nat):Int):=by omega
 have hlt:=agS k
 have ho:128*nix k<=384:=by omega
 generalize 128*nix k=o at *
 have a1:(o:Int)+128<=512:=by omega
 have hk:=(AaA.refl NoF w).alloc (ac5 k b g (512+c))
 unfold ac5 at hk
 unfold afX
 replace hk:=hid hk
 go_enter Tryz.func180,Tryz.ntmps180
 go_wp2
 rw [show o+128 - o=128 by omega]
 go_ret
 exact ⟨rfl,hk.out⟩
def AsD (w:World) (bs:List UInt8) (e:Ending) (w':World):Prop:=AaA NoF w w'/\(AcM bs/\e=U (ndV (decN bs))∨¬ AcM bs/\e=thrE 6)
theorem aoU (w:World) (k b g c:Nat) (src:List UInt8) (hg:Blk w g (aaE src)) (hs:512<=src.length) (h1:1<=k) (h2:k<=1024):Calls prog 138 #[afX k b g (512+c)] w (AsD w (acD src (nix k))):=by
 obtain ⟨bs,a8⟩:∃ bs,acD src (nix k)=bs:=⟨_,rfl⟩
 rw [a8]
 have hB:=λ w=>arM w k b g c h1 h2
 have hD:=λ (w:World) (h:Blk w g (aaE src))=>apR w g (128*nix k) 128 src h (aEK _) (by decide) (by have:=agS k;omega)
 have hbs':(src.drop (128*nix k)).take 128=bs:=a8
 rw [hbs'] at hD
 have a9:AcM bs->∀ w',AaA NoF w w'->AsD w bs (U (ndV (decN bs))) w':=λ a w' b=>⟨b,.inl ⟨a,rfl⟩⟩
 have hP2:¬ AcM bs->∀ w',AaA NoF w w'->AsD w bs (thrE 6) w':=λ a w' b=>⟨b,.inr ⟨a,rfl⟩⟩
 generalize AsD w bs=Post at *
 have a3:=((AaA.refl NoF w).alloc (ac5 k b g (512+c))).alloc (ndO Nd.zero)
 have a5:=a3.blk hg (λ f=>f)
 have a4:=Blk.new (w.alloc (ac5 k b g (512+c))) (ndO Nd.zero)
 rw [aEI] at a4
 have a2:=(Blk.new w (ac5 k b g (512+c))).alloc (ndO Nd.zero)
 have ln:=abZ bs
 obtain ⟨d,ud,hd⟩:=acJ
 unfold afX at *
 replace ⟨hB,hD,a9,hP2,a3,a5,a4,a2⟩:=yh8 hB hD a9 hP2 a3 a5 a4 a2;replace ⟨ud,hd⟩:=yh2 ud hd;clear hg a8 hbs' ln
 go_enter Tryz.func138,Tryz.ntmps138
 go_upto_region 1 with fail
 change Code.wp _ _ _ _ ((w.alloc (ac5 k b g (512+c))).alloc (ndO Nd.zero))
 generalize (w.alloc (ac5 k b g (512+c))).alloc (ndO Nd.zero)=wA at *
 have s0:=a2.out.cell 0
 have s1:=a2.out.cell 1
 have s2:=a2.out.cell 2
 simp at s0 s1 s2
 go_wp2_with fail
 refine (hB.out _).mono ?_
 rintro e w1 ⟨rfl,k1⟩
 have g1:=k1.blk a5.out (λ f=>f)
 have t1:=k1.blk a4.out (λ f=>f)
 have kB:=a3.out.step k1
 clear k1 s0 s1 s2 a5 a4 a3 a2
 replace ⟨g1,t1,kB⟩:=yh3 g1 t1 kB
 go_wp2_with fail
 refine (hD.out _ g1.out).mono ?_
 rintro e w2 ⟨k2,hX⟩
 have t2:=k2.blk t1.out (λ f=>f)
 have kC:=kB.out.step k2
 clear k2 t1 kB g1
 replace ⟨t2,kC⟩:=yh2 t2 kC
 rcases hX with ⟨aa,rfl⟩|⟨aa,rfl⟩
 ·have hn:=abZ bs
  dsimp only
  go_step
  iterate 3 (refine aaR rfl _ _ (by go_simp;exact ⟨rfl,rfl⟩) ?_;simp only [wz])
  refine aa0 rfl _ rfl _ _ (abI _) ?_
  simp only [wz]
  refine aaL rfl 39 (.tmp 3) (.tmp 9) rfl w2.heap.size 0 39 (ndC Nd.zero) (ndC (decN bs)) rfl rfl (Blk.new _ _) (by rw [aaM hn];decide) (by rw [aaM hn];exact aaK) (abJ _) ?_
  intro w3 a0 a1 _
  rw [aa4 (by rw [aaM hn];rfl)] at a0
  have hz:=kC.out.size
  have a6:=t2.out.lt
  have kD:=(kC.out.alloc (ndO Nd.zero)).fresh a1 (λ i e=>by omega)
  have t3:=a1.blk (t2.out.alloc (ndO Nd.zero)) (by omega)
  clear a1 t2 kC
  replace ⟨a0,kD,t3,hz,a6⟩:=yh5 a0 kD t3 hz a6
  go_upto_region 4 with fail
  go_step
  refine aaN rfl 39 (.tmp 3) rfl w2.heap.size 0 39 (ndC (decN bs)) 17 d rfl a0.out (by rw [aaM hn];decide) ud.out hd.out aaK ?_
  rw [abR hn]
  refine aaL rfl 39 (.tmp 2) (.tmp 14) rfl (w.heap.size+1) 0 39 (ndC Nd.zero) (ndC (decN bs)) rfl rfl t3.out (by rw [aaM hn];decide) (by rw [aaM hn];exact aaK) (abJ _) ?_
  intro w4 a7 ab _
  rw [aa4 (by rw [aaM hn];rfl)] at a7
  have hP:=a9.out aa w4 (kD.out.fresh ab (λ i e=>by omega))
  replace ⟨a7,hP⟩:=yh2 a7 hP
  go_wp2
  exact bodyPost_ret (v:=ndV (decN bs)) (afO rfl _ _ (w.heap.size+1) 39 (ndC (decN bs)) d rfl a7.out ud.out hd.out (by rw [aaM hn];exact aaK)) rfl hP.out
 ·have hP:=hP2.out aa
  dsimp only
  go_step
  iterate 3 (refine aaR rfl _ _ (by go_simp;exact ⟨rfl,rfl⟩) ?_;simp only [wz])
  refine aa0 rfl _ rfl _ _ (abI _) ?_
  simp only [wz]
  refine aaL rfl 39 (.tmp 3) (.tmp 9) rfl w2.heap.size 0 39 (ndC Nd.zero) (ndC Nd.zero) rfl rfl (Blk.new _ _) (by rw [aaM rfl];decide) (by rw [aaM rfl];exact aaK) (abJ _) ?_
  intro w3 a0 a1 _
  rw [aa4 rfl] at a0
  have hz:=kC.out.size
  have a6:=t2.out.lt
  have kD:=(kC.out.alloc (ndO Nd.zero)).fresh a1 (λ i e=>by omega)
  have t3:=a1.blk (t2.out.alloc (ndO Nd.zero)) (by omega)
  clear a1 t2 kC
  replace kD:=hid kD;clear a0 t3 hz a6
  go_wp2
  exact ⟨rfl,hP _ kD.out⟩
def Ap1 (w:World) (bs:List UInt8) (e:Ending) (w':World):Prop:=AaA NoF w w'/\((rdN bs).1=0/\e=U (ndV (rdN bs).2)∨(rdN bs).1≠0/\e=thrE (rdN bs).1)
theorem aqC (w:World) (k b g c:Nat) (src:List UInt8) (hg:Blk w g (aaE src)) (hs:512<=src.length) (h1:1<=k) (h2:k<=1024):Calls prog 95 #[afX k b g (512+c)] w (Ap1 w (acD src (nix k))):=by
 have hD:=λ (w:World) (h:Blk w g (aaE src))=>aoU w k b g c src h hs h1 h2
 obtain ⟨bs,ac⟩:∃ bs,acD src (nix k)=bs:=⟨_,rfl⟩
 rw [ac] at hD ⊢
 have a8:AcM bs->(decN bs).kind≠0->∀ w',AaA NoF w w'->Ap1 w bs (U (ndV (decN bs))) w':=λ a c w' b=>by
  rcases ac7 bs with ⟨_,y,_⟩|⟨_,_,z⟩|⟨x,_⟩
  ·exact absurd y c
  ·exact ⟨b,.inl ⟨by rw [z],by rw [z]⟩⟩
  ·exact absurd a x
 have hP2:AcM bs->(decN bs).kind=0->∀ w',AaA NoF w w'->Ap1 w bs (thrE 70) w':=λ a c w' b=>by
  rcases ac7 bs with ⟨_,_,z⟩|⟨_,y,_⟩|⟨x,_⟩
  ·exact ⟨b,.inr ⟨by rw [z];decide,by rw [z]⟩⟩
  ·exact absurd c y
  ·exact absurd a x
 have a9:¬ AcM bs->∀ w',AaA NoF w w'->Ap1 w bs (thrE 6) w':=λ a w' b=>by
  rcases ac7 bs with ⟨x,_⟩|⟨x,_⟩|⟨_,z⟩
  ·exact absurd x a
  ·exact absurd x a
  ·exact ⟨b,.inr ⟨by rw [z];decide,by rw [z]⟩⟩
 generalize Ap1 w bs=Post at *
 have a4:=((AaA.refl NoF w).alloc (ac5 k b g (512+c))).alloc (ndO Nd.zero)
 have a6:=a4.blk hg (λ f=>f)
 have a5:=Blk.new (w.alloc (ac5 k b g (512+c))) (ndO Nd.zero)
 rw [aEI] at a5
 have a3:=(Blk.new w (ac5 k b g (512+c))).alloc (ndO Nd.zero)
 have hn:=abZ bs
 obtain ⟨d,ud,hd⟩:=acJ
 unfold afX at *
 replace ⟨hD,a8,hP2,a9,a4,a6,a5,a3⟩:=yh8 hD a8 hP2 a9 a4 a6 a5 a3;replace ⟨hn,ud,hd⟩:=yh3 hn ud hd;clear hg ac
 go_enter Tryz.func95,Tryz.ntmps95
 go_upto_region 1 with fail
 change Code.wp _ _ _ _ ((w.alloc (ac5 k b g (512+c))).alloc (ndO Nd.zero))
 generalize (w.alloc (ac5 k b g (512+c))).alloc (ndO Nd.zero)=wA at *
 have s0:=a3.out.cell 0
 have s1:=a3.out.cell 1
 have s2:=a3.out.cell 2
 simp at s0 s1 s2
 go_wp2_with fail
 refine (hD.out _ a6.out).mono ?_
 rintro e w2 ⟨k2,hX⟩
 have t2:=k2.blk a5.out (λ f=>f)
 have kC:=a4.out.step k2
 clear k2 s0 s1 s2 a6 a5 a4 a3
 replace ⟨t2,kC⟩:=yh2 t2 kC
 rcases hX with ⟨a0,rfl⟩|⟨a0,rfl⟩
 rotate_left
 ·exact ⟨rfl,a9.out a0 _ kC.out⟩
 dsimp only
 go_step
 refine aa0 rfl _ rfl _ _ (abI _) ?_
 simp only [wz]
 refine aaL rfl 39 (.tmp 3) (.tmp 5) rfl w2.heap.size 0 39 (ndC Nd.zero) (ndC (decN bs)) rfl rfl (Blk.new _ _) (by rw [aaM hn.out];decide) (by rw [aaM hn.out];exact aaK) (abJ _) ?_
 intro w3 a1 aa _
 rw [aa4 (by rw [aaM hn.out];rfl)] at a1
 have hz:=kC.out.size
 have ab:=t2.out.lt
 have kD:=(kC.out.alloc (ndO Nd.zero)).fresh aa (λ i e=>by omega)
 have t3:=aa.blk (t2.out.alloc (ndO Nd.zero)) (by omega)
 clear aa t2 kC
 have c0:=(a1.cell 0).trans (abF hn.out).1
 by_cases a2:(decN bs).kind=0
 ·have hP:=hP2.out a0 a2
  rw [a2] at c0
  replace ⟨a1,kD,t3,hz,ab,a2,a0⟩:=yh7 a1 kD t3 hz ab a2 a0
  go_wp2
  exact ⟨rfl,hP _ kD.out⟩
 ·have hP:=a8.out a0 a2
  have ae:((decN bs).kind == 0)=false:=by rw [aE2];simpa using a2
  replace ⟨a1,kD,t3,hP⟩:=yh4 a1 kD t3 hP;clear hz ab a2 a0
  go_upto_region 4 with fail
  clear c0
  go_step
  refine aaN rfl 39 (.tmp 3) rfl w2.heap.size 0 39 (ndC (decN bs)) 17 d rfl a1.out (by rw [aaM hn.out];decide) ud.out hd.out aaK ?_
  rw [abR hn.out]
  refine aaL rfl 39 (.tmp 2) (.tmp 10) rfl (w.heap.size+1) 0 39 (ndC Nd.zero) (ndC (decN bs)) rfl rfl t3.out (by rw [aaM hn.out];decide) (by rw [aaM hn.out];exact aaK) (abJ _) ?_
  intro w4 a7 ad _
  rw [aa4 (by rw [aaM hn.out];rfl)] at a7
  have hP:=hP.out w4 (kD.out.fresh ad (λ i e=>by omega))
  replace ⟨a7,hP⟩:=yh2 a7 hP
  go_wp2
  exact bodyPost_ret (v:=ndV (decN bs)) (afO rfl _ _ (w.heap.size+1) 39 (ndC (decN bs)) d rfl a7.out ud.out hd.out (by rw [aaM hn.out];exact aaK)) rfl hP.out
end Go.Vk
namespace Go.Vk
open Go.RowKit
theorem alB {w:World} {b i:Nat} {cs:Array Value} {T:TypeId} {v:Value} (h:Blk w b (.cells cs T (0,0))) (hv:cs[i]? = some v):w.setCell ⟨b,i,none⟩ v=w:=by
 have hb:=h
 unfold Blk at hb
 have hs:=h.setCell i v
 have e:cs.setIfInBounds i v=cs:=by
  apply Array.ext_getElem?
  intro j
  rw [Array.getElem?_setIfInBounds]
  by_cases x:i=j
  ·subst x
   rw [if_pos rfl,hv]
   have:=(Array.getElem?_eq_some_iff.1 hv).1
   simp [this]
  ·rw [if_neg x]
 rw [e] at hs
 unfold Blk at hs
 have hh:(w.setCell ⟨b,i,none⟩ v).heap=w.heap:=by
  apply Array.ext_getElem?
  intro j
  by_cases x:b=j
  ·subst x;rw [hs,hb]
  ·have k:AaA (· = b) w (w.setCell ⟨b,i,none⟩ v):=(AaA.refl (· = b) w).setCell (p:=⟨b,i,none⟩) (.inl rfl) v
   by_cases hj:j<w.heap.size
   ·exact k.block j hj (λ e=>x e.symm)
   ·rw [Array.getElem?_eq_none (by rw [aES];omega),Array.getElem?_eq_none (by omega)]
 have hd:(w.setCell ⟨b,i,none⟩ v)={ w with heap:=(w.setCell ⟨b,i,none⟩ v).heap }:=rfl
 rw [hd,hh]
theorem aoT {w:World} {b:Nat} {T:TypeId} {cs:List Value} (h:Blk w b (.cells cs.toArray T (0,0))):∀ (vs:List Value) (o:Nat),(∀ j v,vs[j]? = some v->cs[o+j]? = some v)->w.setCells b o vs=w
 | [],o,_=>rfl
 | v :: vs,o,hv=>by
  have h0:cs.toArray[o]? = some v:=by simpa using hv 0 v rfl
  have e:w.setCells b o (v :: vs)=(w.setCell ⟨b,o,none⟩ v).setCells b (o+1) vs:=rfl
  rw [e,alB h h0]
  exact aoT h vs (o+1) λ j u hu=>by
   have:=hv (j+1) u hu
   rwa [show o+(j+1)=o+1+j by omega] at this
section
variable {P:Program} {ops:Array Oper} {w:World} {Q:Act->Prop} {rest:List Oper} {op:Oper} {a:Act}
theorem aiH (a0:op.guard=none) (ty:TypeId) (x y:Operand) (ho:op.op=.store ty x y)
  (b:Nat) (T:TypeId) (cs:List Value) (hx:a.eval x=↑b) (hy:a.eval y=.agg cs.toArray)
  (hb:Blk w b (.cells cs.toArray T (0,0))) (hi:(P.info? ty).map (·.size)=some cs.length) (h1:∀ v∈cs,v.oneCell'=true)
  (h:wpStill P ops w Q rest (a.put op.dst undef)):wpStill P ops w Q (op :: rest) a:=by
 have ht:w.there b 0 cs.toArray.size:=by
  intro j hj
  refine ⟨?_,hb.frz _⟩
  rw [hb.cell,Nat.zero_add]
  simp at hj
  simp [hj]
 have hr:=run_storeAt_mid (P:=P) w b 0 ty cs.toArray ht (by simpa using hi) (all_oneCell_toArray h1)
 rw [show cs.toArray.toList=cs from rfl,aoT hb cs 0 (λ j v e=>by rwa [Nat.zero_add])] at hr
 unfold wpStill
 rw [if_pos (by simp [Region.wanted,a0])]
 have a1:(execOp a.eval op).run P w=.ok .skip w:=by
  simp only [execOp,ho,hx,hy,Sem.run_bind,hr,Result.andThen_ok,Sem.run_pure]
 unfold Oper.still
 rw [a1,Oper.stillUpon_skip]
 exact h
theorem ai5 (a0:op.guard=none) (ty:TypeId) (x:Operand) (ho:op.op=.load ty x)
  (b:Nat) (T:TypeId) (cs:List Value) (d:TypeDesc) (hx:a.eval x=↑b)
  (hb:Blk w b (.cells cs.toArray T (0,0))) (hu:P.underlying ty=some d) (hd:d.isRow=true) (hi:(P.info? ty).map (·.size)=some cs.length)
  (h:wpStill P ops w Q rest (a.put op.dst (.agg cs.toArray))):wpStill P ops w Q (op :: rest) a:=by
 unfold wpStill
 rw [if_pos (by simp [Region.wanted,a0])]
 have hr:(execOp a.eval op).run P w=.ok (.value (.agg cs.toArray)) w:=by
  have hc:w.rangeAt b 0 cs:=by
   have:=af4 hb 0 cs.length
   rwa [aER,List.take_length] at this
  have hl:=run_loadAt_mid (P:=P) w b 0 ty cs d hc hu hd hi
  simp only [execOp,ho,hx,Sem.run_bind,hl,Result.andThen_ok,Sem.run_pure]
 unfold Oper.still
 rw [hr,Oper.stillUpon_value]
 exact h
theorem adL (a0:op.guard=none) (ty:TypeId) (x y:Operand) (ho:op.op=.store ty x y)
  (b:Nat) (T:TypeId) (v:Value) (hx:a.eval x=↑b) (hy:a.eval y=v)
  (hb:Blk w b (.cells #[v] T (0,0))) (hr:∀ w':World,w'.cell? ↑b=some v->w'.frozen? ↑b=false->(Instr.storeAt ty ↑b v).run P w'=.ok () (w'.setCell ↑b v))
  (h:wpStill P ops w Q rest (a.put op.dst undef)):wpStill P ops w Q (op :: rest) a:=by
 have h1:=hr w (by rw [hb.cell];rfl) (hb.frz 0)
 rw [alB hb rfl] at h1
 unfold wpStill
 rw [if_pos (by simp [Region.wanted,a0])]
 have a1:(execOp a.eval op).run P w=.ok .skip w:=by
  simp only [execOp,ho,hx,hy,Sem.run_bind,h1,Result.andThen_ok,Sem.run_pure]
 unfold Oper.still
 rw [a1,Oper.stillUpon_skip]
 exact h
end
end Go.Vk
