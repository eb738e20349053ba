/- Part of the proof: NtI Nt3 NtJ. -/
import Derived.Test.YtjeelghnmkefcaaGreatQ40
import Derived.Test.YtjeelghnmkefcaaGreatQ46
import Derived.Test.YtjeelghnmkefcaaGreatQ47
set_option linter.unusedVariables false
set_option maxHeartbeats 16000000
set_option maxRecDepth 100000
namespace Go.Vk
open Go.RowKit Go.Proofs
open Tryz (prog)
section
variable {w w' w0 w1:World} {C:TxC} {N:RgN} {T T':TS} {B:TB} {Z X X1 F:Nat->Prop} {i r:Nat} {e:Ending}
theorem AaG.pre (k:AaA F w w1) (h:AaG i w1 r F X1 e w') (hX:∀ j,X j->X1 j):AaG i w r F X e w':=by
 obtain ⟨h1,F',X',h2,h3,h4,h5⟩:=h
 have z:=k.size
 exact ⟨h1,F',X',h2,k.step h3,λ i hi=>(h4 i hi).elim .inl (λ x=>.inr ⟨by omega,x.2⟩),λ i hi=>h5 i (hX i hi)⟩
theorem NX.poolW (h:NX w C N T B Z X) (k:AaA (KF C) w w') (h':Aa6 w' C T' (λ i=>X i∨w.heap.size<=i/\i<w'.heap.size)) (hL:T.Like T'):NX w' C N T' B Z (Zn w w' X):=
 { h with
  hl:=by rw [hL.1];exact k.blk h.hl h.lKF
  lok:=by rw [hL.1];exact h.lok
  pl:=h'
  hb:=λ x hx=>by
   obtain ⟨a,b,c⟩:=h.hb x hx
   exact ⟨h.pl.blk k a b,.inl b,c⟩
  ref:=h.ref.keeps k (λ i hi f=>h.pl.notF (h.zX i hi) f)
  zX:=λ i hi=>.inl (h.zX i hi)
  xl:=λ i hi e=>hi.elim (λ x=>h.xl i x e) (λ x=>by have:=h.hl.lt;omega)
  dd:=hL.2.2.2.1.trans h.dd }
theorem Aa3.cellsM {tb m:Nat} (h:Aa3 w tb m B Z):w.cell? ↑m=some (I B.R.blocks)/\w.cell? ⟨m,2,none⟩=some (I B.R.data):=by
 obtain ⟨V,Z1,Z2,a,b⟩:=h
 obtain ⟨RV,hr⟩:=a.rf
 have c0:=hr.hm.cell 0
 have c2:=hr.hm.cell 2
 exact ⟨by simpa using c0,by simpa using c2⟩
def eatL (bs:List UInt8):List UInt8:=bs.set 0 (bs.getD 0 0+1)
theorem aB5 {bs:List UInt8} (h:bs.length=512):bs≠eatL bs:=λ e=>by
 have e1:bs[0]? = (eatL bs)[0]?:=by rw [← e]
 unfold eatL at e1
 rw [List.getElem?_set_self (by omega),aEL,aEG (by omega)] at e1
 simp at e1
theorem NX.eatPair (h:NX w C N T B Z X) (hs:Aa8 B T C.G) (hJ:J7 i T) (h0:T.st=0) (b:Nat) (a2:2+C.G.n / 4<=b) (a1:b<C.G.blocks) (g:Nat) (hg:Blk w g (aaE (eatL (T.raw b)))) (a3:X g) :
  Calls prog 87 #[↑C.t,I b,.slice ↑g 512 512] w λ e w2=>e=U (I ((T.puts b (eatL (T.raw b))).1:Nat))/\AaA (KF C) w w2 /\
   Calls prog 189 #[↑N.m,I b] w2 λ e w4=>e=U (I ((T.puts b (eatL (T.raw b))).1:Nat))/\∀ w',AaA NoF w4 w'->AaG (i+1) w N.r (AaX C N Z) X (U ↑true) w':=by
 have hl:=h.pl.len b a1
 obtain ⟨p1,p2,p3,p4⟩:=h.put_le hs
 obtain ⟨q1,q2⟩:=hs.eat a2 h.n4 (aB5 hl)
 have a0:=h.pl.put b a1 g 512 (eatL (T.raw b)) [] (by rw [aE3];exact hg) a3 (by unfold eatL;rw [aEV,hl])
 have e:T.putB b (eatL (T.raw b))=T.puts b (eatL (T.raw b)):=if_pos h0
 rw [e] at a0
 refine a0.mono ?_
 rintro e w2 ⟨rfl,x1,x2⟩
 have hp:=h.pool x2 x1 (T.puts_like _ _)
 refine ⟨rfl,x2,(aoM hp.ref p1 b w2 (AaA.refl _ w2)).mono ?_⟩
 rintro e w4 ⟨rfl,s4⟩
 rw [q1]
 exact ⟨rfl,λ w' k'=>h.two hJ x2 x1 (T.puts_like _ _) s4 k' q2⟩
theorem aDT (h:NX w C N T B Z X) (hs:Aa8 B T C.G) (hJ:J7 i T) (o:Bool) (kd a b:Int) {n:Nd} (hn:n.ptr.length=12) (d:Value) (oo:Bool) :
  Calls prog 135 #[↑N.r,.pointer (some ⟨N.tab o,0,none⟩),opV kd a b n d oo] w (AaG (i+1) w N.r (AaX C N Z) X):=by
 have hA:=AdK.make h kd a b n d oo
 have a6:=ad4 w kd a b n d oo
 have hg:=h.pl.geo
 obtain ⟨g1,g2,g3,g4⟩:=h.bnds hs
 generalize w.alloc (opO kd a b n d oo)=wA at *
 have hB:=hA.nx.calm ((AaA.refl NoF wA).drew)
 have aa:=hs.n.blocks
 have ab:=hs.n.data
 have ao:=hg.b1
 have ap:=hg.b2
 have af:=λ W=>afK W a 0 (C.G.blocks - C.G.data - 1) (aEY _) (by omega)
 obtain ⟨y,hy⟩:∃ y,adX a 0 (C.G.blocks - C.G.data - 1)=y:=⟨_,rfl⟩
 have aq:y<=C.G.blocks - C.G.data - 1:=hy ▸ aeA a (aEY _)
 rw [hy] at af
 have ar:C.G.data=2+C.G.n / 4:=rfl
 have a2:∀ W (x:Int),x=((C.G.blocks - C.G.data - 1:Nat):Int)->Calls prog 36 #[I a,I 0,I x] W λ e w'=>e=U (I (y:Nat))/\W=w':=λ W x hx=>by rw [hx];exact af W
 clear af
 obtain ⟨bk,ag⟩:∃ bk,C.G.data+y=bk:=⟨_,rfl⟩
 have a3:bk<C.G.blocks:=by omega
 have hSt:=adR hB.ref wA.drew (AaA.refl _ _)
 rw [hs.state] at hSt
 have a1:=λ w' (k:AaA NoF wA w')=>hA.nx.done hs hJ k
 have hN:=hA.nx.node o
 obtain ⟨c0,c1,c2,c20,c21⟩:=acV hA.bO hn
 have d4:=hA.nx.c4
 obtain ⟨dt,_⟩:=hA.nx.ref.cells
 obtain ⟨dm0,dm2⟩:=hA.nx.ref.cellsM
 rw [aa] at dm0
 rw [ab] at dm2
 have tX:=hA.nx.tb_nk
 obtain ⟨ct,cp⟩:=hN.cells
 have ttK:=hN.pl.notF hN.xt
 have ppK:=hN.pl.notF hN.xp
 have ttX:=hN.ht.lt
 have ppX:=hN.hp.lt
 have hFin:∀ w',AaG (i+1) wA N.r (AaX C N Z) (Zn w wA X) (U ↑true) w'->AaG (i+1) w N.r (AaX C N Z) X (U ↑true) w':=λ w' x=>x.mv hA.kA
 have a7:∀ w1 w',AaA (KF C) wA.drew w1->AaG (i+1) w1 N.r (AaX C N Z) (Zn wA.drew w1 (Zn w wA X)) (U ↑true) w'->AaG (i+1) w N.r (AaX C N Z) X (U ↑true) w':=λ w1 w' k x=>hFin w' ((x.pre (X:=Zn w wA X) (k.mono λ _ _ f=>.inl f) (λ j hj=>.inl hj)).pre ((AaA.refl _ wA).drew) (λ j hj=>hj))
 have y4:wA.drew.cell? ⟨N.r,4,none⟩=some ↑N.tb:=d4
 have yt:wA.drew.cell? ↑N.tb=some ↑N.m:=dt
 have ym0:wA.drew.cell? ↑N.m=some (I C.G.blocks):=dm0
 have ym2:wA.drew.cell? ⟨N.m,2,none⟩=some (I C.G.data):=dm2
 have y1:wA.drew.cell? ⟨w.heap.size,1,none⟩=some (I a):=c1
 have a8:(bk:Int)=(C.G.data:Int)+(y:Int):=by omega
 have aw:IntKind.i64.wrap ((C.G.blocks:Int) - (C.G.data:Int))=((C.G.blocks - C.G.data:Nat):Int):=by rw [aaO (by omega) (by omega)];omega
 have au:IntKind.i64.wrap (((C.G.blocks - C.G.data:Nat):Int) - 1)=((C.G.blocks - C.G.data - 1:Nat):Int):=by rw [aaO (by omega) (by omega)];omega
 have ax:IntKind.i64.wrap ((C.G.data:Int)+(y:Int))=(bk:Nat):=by rw [aaO (by omega) (by omega)];omega
 have ac:2+C.G.n / 4<=bk:=by omega
 unfold opV at a6 ⊢
 by_cases h0:T.st=0
 ·have a0:=hB.pl.get h0 bk a3
  have a4:∀ w1 W g,AaA (KF C) wA.drew w1->Aa6 w1 C T (λ i=>Zn w wA X i∨wA.drew.heap.size<=i/\i<w1.heap.size)->AaA NoF w1 W->w1.heap.size<=g->Blk W g (aaE (eatL (T.raw bk))) ->
    Calls prog 87 #[↑C.t,I bk,.slice ↑g 512 512] W λ e w2=>e=U (I ((T.puts bk (eatL (T.raw bk))).1:Nat))/\AaA (KF C) W w2 /\
     Calls prog 189 #[↑N.m,I bk] w2 λ e w4=>e=U (I ((T.puts bk (eatL (T.raw bk))).1:Nat))/\∀ w',AaA NoF w4 w'->AaG (i+1) w N.r (AaX C N Z) X (U ↑true) w':=λ w1 W g k1 p1 kW ah a9=>by
   have h1:=(hB.poolW k1 p1 (.refl T)).other kW (λ _ _ f=>f.elim)
   refine (h1.eatPair hs hJ h0 bk ac a3 g a9 (.inr ⟨ah,a9.lt⟩)).mono ?_
   rintro e w2 ⟨rfl,x1,x2⟩
   refine ⟨rfl,x1,x2.mono ?_⟩
   rintro e w4 ⟨rfl,x3⟩
   exact ⟨rfl,λ w' k'=>a7 w1 w' k1 ((x3 w' k').pre (kW.mono λ _ _ f=>f.elim) (λ j hj=>.inl hj))⟩
  have ai:=hA.nx.pl.len bk a3
  have ad:(T.raw bk)[0]? = some ((T.raw bk).getD 0 0):=by rw [aEL,aEG (by omega)];rfl
  obtain ⟨x0,hx⟩:∃ x,(T.raw bk).getD 0 0=x:=⟨_,rfl⟩
  have av:eatL (T.raw bk)=(T.raw bk).set 0 (x0+1):=by unfold eatL;rw [hx]
  rw [hx] at ad
  have aj:IntKind.u8.wrap ((x0.toNat:Int)+1)=((x0+1).toNat:Nat):=by
   rw [UInt8.toNat_add,IntKind.wrap_u8']
   have h1:(1:UInt8).toNat=1:=rfl
   rw [h1];omega
  rw [av] at a4
  generalize AaG (i+1) w N.r (AaX C N Z) X=Post at *
  generalize AaG (i+1) wA N.r (AaX C N Z) (Zn w wA X)=PostA at *
  generalize ay:T.raw bk=rb at *
  generalize (T.puts bk (rb.set 0 (x0+1))).1=pv at *
  rw [h0] at hSt
  generalize ak:C.G.blocks=gb at *
  generalize al:C.G.data=gd at *
  generalize N.tab o=tt at *
  generalize N.pool o=pp at *
  clear hN a7 hB ao ap ar ak al g3 hy aq a1 av hx
  replace ⟨hA,a6,hFin,h,hs,hJ,hg,g1⟩:=yh8 hA a6 hFin h hs hJ hg g1;replace ⟨g2,tX,ttK,ppK,ttX,ppX,a2,hSt⟩:=yh8 g2 tX ttK ppK ttX ppX a2 hSt;replace ⟨a0,h0,ag,a3,a8,ac,g4,aa⟩:=yh8 a0 h0 ag a3 a8 ac g4 aa;replace ⟨ab,a4,ai,ad,aj⟩:=yh5 ab a4 ai ad aj;clear ay
  go_enter Tryz.func135,Tryz.ntmps135
  go_upto_region 0 with fail
  go_step
  refine aaY rfl 42 (.tmp 2) rfl _ _ (by exact a6.out) ?_
  go_upto_region 1 with fail
  go_region_held3 (λ W=>W.cell? ⟨N.r,4,none⟩=some ↑N.tb/\W.cell? ↑N.tb=some ↑N.m/\W.cell? ↑N.m=some (I gb)/\W.cell? ⟨N.m,2,none⟩=some (I gd)/\W.cell? ⟨w.heap.size,1,none⟩=some (I a)) (first|with_reducible exact ⟨y4,yt,ym0,ym2,y1⟩) (first
   | (go_at_call 36;refine (a2.out _ _ (by omega)).mono ?_;rintro e w' ⟨rfl,rfl⟩))
  go_wp2_with fail
  refine hSt.out.mono ?_
  rintro e w5 ⟨rfl,rfl⟩
  clear hSt
  go_wp2_with fail
  refine a0.out.mono ?_
  rintro e w1 ⟨g,kk,rfl,ah,a9,am,k1⟩
  have ae:=az5 w1 g (512+kk) rb (aaD kk) a9 ai.out
  have v4:=k1.cellF y4 hA.out.rK
  have vt:=k1.cellF yt tX.out.1
  have vc:=k1.cellF (w:=wA.drew) ct ttK.out
  have vp:=k1.cellF (w:=wA.drew) cp ppK.out
  clear a0 y4 yt ym0 ym2 y1 c0 c1 c2 c20 c21 d4 dt dm0 dm2 ct cp
  replace ⟨ae,k1,am⟩:=yh3 ae k1 am;clear a9 ah
  go_wp2_with fail
  refine ae.out.mono ?_
  rintro e w2 ⟨rfl,b2,k2⟩
  have e0:=b2.cell 0
  have ef:=b2.frz 0
  simp [ad.out,Go.Vk.B] at e0
  have u4:=k2.cellF v4 (λ f=>f)
  have ut:=k2.cellF vt (λ f=>f)
  have uc:=k2.cellF vc (λ f=>f)
  have up:=k2.cellF vp (λ f=>f)
  have bs:=b2.setCell 0 (Go.Vk.B (x0+1))
  have bs2:=akP 5 rb 0 (x0+1)
  rw [bs2] at bs
  have ks:AaA (· = w1.heap.size) w2 (w2.setCell ↑w1.heap.size (Go.Vk.B (x0+1))):=(AaA.refl (· = w1.heap.size) w2).setCell (p:=⟨w1.heap.size,0,none⟩) (.inl rfl) _
  have k3:AaA NoF w1 (w2.setCell ↑w1.heap.size (Go.Vk.B (x0+1))):=k2.fresh ks (λ i e=>by omega)
  have hP:=a4.out w1 _ w1.heap.size k1.out am.out k3 (aEK _) bs
  have a5:Go.Vk.B (x0+1)=.int .u8 ((x0+1).toNat:Nat):=rfl
  rw [a5] at hP k3 ks
  have an:((x0.toNat:Int)+1) % 256=((x0+1).toNat:Nat):=by have:=aj.out;rwa [IntKind.wrap_u8'] at this
  clear ae v4 vt vc vp bs bs2 b2 a4
  generalize (x0+1).toNat=zv at *
  generalize x0.toNat=xv at *
  replace ⟨an,ks,hP⟩:=yh3 an ks hP;clear k2 k3 a5
  go_upto_region 12 with fail
  rw [an.out]
  have s4:=ks.out.cellF u4 (by have:=hA.out.nx.hr_lt;have:=k1.out.size;have h3:wA.drew.heap.size=wA.heap.size:=rfl;dsimp only;omega)
  have st:=ks.out.cellF ut (by have:=hA.out.nx.ref.lt;have:=hA.out.nx.pl.lt _ (hA.out.nx.zX _ tX.out.2);have:=k1.out.size;have h3:wA.drew.heap.size=wA.heap.size:=rfl;dsimp only;omega)
  have sc:=ks.out.cellF uc (by have:=ttX.out;have:=k1.out.size;have h3:wA.drew.heap.size=wA.heap.size:=rfl;dsimp only;omega)
  have sp:=ks.out.cellF up (by have:=ppX.out;have:=k1.out.size;have h3:wA.drew.heap.size=wA.heap.size:=rfl;dsimp only;omega)
  clear u4 ut uc up e0 ef
  generalize w2.setCell ↑w1.heap.size (.int .u8 (zv:Nat))=w3 at *
  go_wp2_with fail
  refine hP.out.mono ?_
  rintro e w4 ⟨rfl,k4,hPu⟩
  have r4:=k4.cellF s4 hA.out.rK
  have rt:=k4.cellF st tX.out.1
  clear hP s4 st sc sp
  replace hPu:=hid hPu;clear k4
  go_wp2_with fail
  refine hPu.out.mono ?_
  rintro e w5 ⟨rfl,hF⟩
  have hQ:=hF w5 (AaA.refl _ w5)
  clear hPu hF r4 rt
  replace hQ:=hid hQ
  go_wp2
  exact hQ.out
 ·have a0:=hB.pl.get_bad h0 bk
  generalize hst:T.st=st at *
  generalize AaG (i+1) w N.r (AaX C N Z) X=Post at *
  generalize AaG (i+1) wA N.r (AaX C N Z) (Zn w wA X)=PostA at *
  generalize ak:C.G.blocks=gb at *
  generalize al:C.G.data=gd at *
  generalize N.tab o=tt at *
  generalize N.pool o=pp at *
  have bs:((st:Int) != 0)=true:=by simpa using h0
  have bs2:((st:Int) != st)=false:=by simp
  clear hN a7 hB ao ap ar ak al g3 hy aq
  replace ⟨a6,hFin,a2,hSt,a1,a0⟩:=yh6 a6 hFin a2 hSt a1 a0;clear hA h hs hJ hg g1 g2 tX ttK ppK ttX ppX hst h0 ag a3 a8 ac g4 aa ab
  go_enter Tryz.func135,Tryz.ntmps135
  go_upto_region 0 with fail
  go_step
  refine aaY rfl 42 (.tmp 2) rfl _ _ (by exact a6.out) ?_
  go_upto_region 1 with fail
  go_region_held3 (λ W=>W.cell? ⟨N.r,4,none⟩=some ↑N.tb/\W.cell? ↑N.tb=some ↑N.m/\W.cell? ↑N.m=some (I gb)/\W.cell? ⟨N.m,2,none⟩=some (I gd)/\W.cell? ⟨w.heap.size,1,none⟩=some (I a)) (first|with_reducible exact ⟨y4,yt,ym0,ym2,y1⟩) (first
   | (go_at_call 36;refine (a2.out _ _ (by omega)).mono ?_;rintro e w' ⟨rfl,rfl⟩))
  go_wp2_with fail
  refine hSt.out.mono ?_
  rintro e w5 ⟨rfl,rfl⟩
  clear hSt
  go_wp2_with fail
  refine a0.out.mono ?_
  rintro e w1 ⟨rfl,_,k1⟩
  have hQ:=hFin.out _ (a1.out w1 (((AaA.refl _ wA).drew).step k1))
  clear a0 k1 a1
  replace hQ:=hid hQ
  go_wp2
  exact hQ.out
end
def pby (bs:List UInt8) (k i:Nat):Nat:=abQ bs i % 2 ^ (k - 8*i)
def pmap (bs:List UInt8) (k:Nat):List UInt8:=(List.range 512).map λ i=>UInt8.ofNat (pby bs k i)
theorem af5 (bs:List UInt8) (k:Nat):(pmap bs k).length=512:=by simp [pmap]
theorem azM (bs:List UInt8) (k i:Nat):pby bs k i<256:=Nat.lt_of_le_of_lt (Nat.mod_le _ _) (acN bs i)
theorem ag2 (bs:List UInt8) (k i:Nat) (h:i<(pmap bs k).length):(pmap bs k)[i]=UInt8.ofNat (pby bs k i):=by simp [pmap]
theorem atT (n i:Nat) (h:i<(aaD n).length):(aaD n)[i]=0:=by simp [aaD]
theorem auZ (bs:List UInt8):pmap bs 0=aaD 512:=by
 refine List.ext_getElem (by rw [af5,aaF]) λ i h1 h2=>?_
 rw [ag2]
 unfold pby
 rw [Nat.zero_sub,Nat.pow_zero,Nat.mod_one,atT]
 rfl
theorem au0 {bs:List UInt8} (h:bs.length=512):pmap bs 4096=bs:=by
 refine List.ext_getElem (by rw [af5,h]) λ i h1 h2=>?_
 rw [ag2]
 have hi:i<512:=by rw [af5] at h1;exact h1
 unfold pby
 have e:abQ bs i=bs[i].toNat:=by unfold abQ;rw [aEL,aEG h2];rfl
 rw [Nat.mod_eq_of_lt (aEJ (acN bs i) (by rw [show 256=2 ^ 8 from rfl];exact aE5 (by decide) (by omega))),e]
 simp
theorem arR (bs:List UInt8) (k:Nat):pby bs (k+1) (k / 8)=pby bs k (k / 8)+(if abP bs k=true then 2 ^ (k % 8) else 0):=by
 unfold pby
 rw [show k+1 - 8*(k / 8)=k % 8+1 by omega,show k - 8*(k / 8)=k % 8 by omega,Nat.mod_pow_succ]
 congr 1
 unfold abP
 rw [Nat.testBit_eq_decide_div_mod_eq]
 by_cases hb:abQ bs (k / 8) / 2 ^ (k % 8) % 2=1
 ·rw [if_pos (by simpa using hb),hb,Nat.mul_one]
 ·rw [if_neg (by simpa using hb),show abQ bs (k / 8) / 2 ^ (k % 8) % 2=0 by omega,Nat.mul_zero]
theorem azL (bs:List UInt8) (k i:Nat) (h:i≠k / 8):pby bs (k+1) i=pby bs k i:=by
 unfold pby
 by_cases h1:i<k / 8
 ·have hb:=acN bs i
  have e:∀ e,8<=e->abQ bs i % 2 ^ e=abQ bs i:=λ e he=>Nat.mod_eq_of_lt (aEJ hb (by rw [show 256=2 ^ 8 from rfl];exact aE5 (by decide) he))
  rw [e _ (by omega),e _ (by omega)]
 ·rw [show k+1 - 8*i=0 by omega,show k - 8*i=0 by omega]
theorem aA3 (bs:List UInt8) (k:Nat) (hk:k<4096) (h:abP bs k=true):pmap bs (k+1)=(pmap bs k).set (k / 8) (UInt8.ofNat (pby bs k (k / 8)+2 ^ (k % 8)))/\pby bs k (k / 8)+2 ^ (k % 8)<256:=by
 have e:=arR bs k
 rw [if_pos h] at e
 refine ⟨List.ext_getElem (by rw [aEV,af5,af5]) λ i h1 h2=>?_,by rw [← e];exact azM _ _ _⟩
 rw [List.getElem_set,ag2]
 by_cases hi:k / 8=i
 ·rw [if_pos hi,← hi,e]
 ·rw [if_neg hi,ag2,azL bs k i (λ x=>hi x.symm)]
theorem ax1 (bs:List UInt8) (k:Nat) (h:abP bs k=false):pmap bs (k+1)=pmap bs k:=by
 have e:=arR bs k
 rw [if_neg (by rw [h];decide),Nat.add_zero] at e
 refine List.ext_getElem (by rw [af5,af5]) λ i h1 h2=>?_
 rw [ag2,ag2]
 by_cases hi:i=k / 8
 ·rw [hi,e,Nat.add_zero]
 ·rw [azL bs k i hi]
theorem ar9 (w:World) (g cap:Nat) (bs:List UInt8) (hb:bs.length=512) (hc:∀ j,j<4096->w.cell? ⟨g,j,none⟩=some (.bool (abP bs j))) :
  Calls prog 125 #[.slice ↑g 4096 cap] w λ e w'=>e=U (.slice ↑w.heap.size 512 512)/\Blk w' w.heap.size (aaE bs)/\AaA NoF w w':=by
 have af:=al2
 have bz:Blk (w.alloc (aaE (aaD 512))) w.heap.size (aaE (pmap bs 0)):=by rw [auZ];exact Blk.new w _
 have kz:=(AaA.refl NoF w).alloc (aaE (aaD 512))
 have a2:=au0 hb
 have hlen:=af5 bs
 have a8:=λ k (h:k<4096) (x:abP bs k=true)=>aA3 bs k h x
 have a4:=λ k (x:abP bs k=false)=>ax1 bs k x
 have a5:=λ k i (h:i<(pmap bs k).length)=>ag2 bs k i h
 have a6:=azM bs
 generalize pby bs=pb at *
 generalize pmap bs=pm at *
 replace ⟨bz,kz,a2,hlen,a8,a4,a5,a6⟩:=yh8 bz kz a2 hlen a8 a4 a5 a6;replace hc:=hid hc;clear hb
 go_enter Tryz.func125,Tryz.ntmps125
 go_wp2
 go_loopw [4] (λ i wr=>∃ k:Nat,k<=4096/\i=I k/\Blk wr w.heap.size (aaE (pm k))/\AaA NoF w wr) (λ i _=>4096 - (RowKit.intOf i).toNat)
 case atStart=>exact ⟨0,by omega,rfl,bz.out,kz.out⟩
 case round=>
  obtain ⟨k,hk1,rfl,a1,hk2⟩:=hrel
  clear bz kz
  by_cases hlt:k<4096
  ·have ab:(k:Int)<4096:=by omega
   have ag:0<=(k:Int)/\(k:Int)<(4096:Nat):=by omega
   have a9:=hk2.cellF (hc.out k hlt) (λ f=>f)
   cases a0:abP bs k with
   | false=>
    rw [a0] at a9
    have e:=a4.out k a0
    replace ⟨a1,hk2,e,a0⟩:=yh4 a1 hk2 e a0
    go_wp2
    exact ⟨⟨k+1,by omega,by go_num,by rw [e.out];exact a1.out,hk2.out⟩,by simp [RowKit.intOf];omega⟩
   | true=>
    rw [a0] at a9
    obtain ⟨e,he⟩:=a8.out k hlt a0
    have hq:(k:Int).tdiv 8=((k / 8:Nat):Int):=rfl
    have hr:(k:Int).tmod 8=((k % 8:Nat):Int):=rfl
    have ac:k % 8<8:=Nat.mod_lt _ (by decide)
    have ah:k / 8<512:=by omega
    have hp:=pow8 (k % 8) ac
    have hl:=hlen.out k
    have aa:=a1.cell (k / 8)
    have hf:=a1.frz (k / 8)
    have hg:=a5.out k (k / 8) (by omega)
    have ad:=a6.out k (k / 8)
    simp [aEG (show k / 8<(pm k).length by omega),hg,B] at aa
    rw [Int.emod_eq_of_lt (by omega) (by omega)] at aa
    have a7:=a1.setCell (k / 8) (B (UInt8.ofNat (pb k (k / 8)+2 ^ (k % 8))))
    have a3:Blk (wr.setCell ⟨w.heap.size,k / 8,none⟩ (.int .u8 ((pb k (k / 8)+2 ^ (k % 8):Nat):Int))) w.heap.size (aaE (pm (k+1))):=by
     have eb:B (UInt8.ofNat (pb k (k / 8)+2 ^ (k % 8)))=.int .u8 ((pb k (k / 8)+2 ^ (k % 8):Nat):Int):=by
      unfold B;rw [UInt8.toNat_ofNat',Nat.mod_eq_of_lt he]
     rw [← eb,e]
     have:=akP 5 (pm k) (k / 8) (UInt8.ofNat (pb k (k / 8)+2 ^ (k % 8)))
     rw [this] at a7
     exact a7
    have k3:AaA NoF w (wr.setCell ⟨w.heap.size,k / 8,none⟩ (.int .u8 ((pb k (k / 8)+2 ^ (k % 8):Nat):Int))):=hk2.fresh ((AaA.refl (· = w.heap.size) wr).setCell (p:=⟨w.heap.size,k / 8,none⟩) (.inl rfl) _) (λ i e=>by omega)
    have ae:0<=((k / 8:Nat):Int)/\((k / 8:Nat):Int)<(512:Nat):=by omega
    clear a7 hg e
    generalize pb k (k / 8)=x at *
    generalize k % 8=r at *
    generalize k / 8=q at *
    have hw:((x:Int)+2 ^ r) % 256=((x+2 ^ r:Nat):Int):=by
     have e:((x+2 ^ r:Nat):Int)=(x:Int)+2 ^ r:=by push_cast;rfl
     rw [e]
     exact Int.emod_eq_of_lt (by rw [← e];omega) (by rw [← e];omega)
    replace ⟨a1,hk2,a3,k3,hw⟩:=yh5 a1 hk2 a3 k3 hw;clear a0 he ad
    go_wp2
    go_region
    go_wp2
    exact ⟨⟨k+1,by omega,by go_num,by rw [hw.out];exact a3.out.drew,by rw [hw.out];exact k3.out.drew⟩,by simp [RowKit.intOf];omega⟩
  ·have ab:¬ (k:Int)<4096:=by omega
   obtain rfl:k=4096:=by omega
   rw [a2.out] at a1
   replace ⟨a1,hk2⟩:=yh2 a1 hk2
   go_wp2
   go_ret
   exact ⟨rfl,a1.out,hk2.out⟩
section
variable {w w' w1:World} {C:TxC} {N:RgN} {T:TS} {B:TB} {Z X:Nat->Prop} {i:Nat} {tb m:Nat}
theorem Ab8.blk {g k:Nat} {bs rest:List UInt8} {n:Nat} (h:Blk w g (aaE (bs++rest))) (hl:bs.length=n):Ab8 w (.slice ↑g n k) bs:=
 ⟨some ⟨g,0,none⟩,k,by rw [hl],.inr ⟨g,0,rfl,λ i hi=>by
  have:=h.cell (0+i)
  have e:(bs++rest)[i]? = some bs[i]:=by rw [List.getElem?_append_left hi,aEG hi]
  rw [this,Nat.zero_add,List.getElem?_toArray,aEZ,e];rfl⟩⟩
theorem NX.getA (h:NX w C N T B Z X) (h0:T.st=0) (b:Nat) (hb:b<C.G.blocks):Calls prog 122 #[↑C.t,I b] w λ e w1=>
  ∃ g k,e=U (.tuple #[.slice (some ⟨g,0,none⟩) 512 (512+k),I 0])/\¬ KF C g/\Blk w1 g (aaE (T.raw b++aaD k))/\NX w1 C N T B Z (Zn w w1 X)/\AaA (KF C) w w1:=by
 refine (h.pl.get h0 b hb).mono ?_
 rintro e w1 ⟨g,k,rfl,x1,x2,x3,x4⟩
 exact ⟨g,k,rfl,x3.notF (.inr ⟨x1,x2.lt⟩),x2,h.poolW x4 x3 (.refl T),x4⟩
theorem Aa3.maps (h:Aa3 w tb m B Z) {bs ns:List UInt8} (hb:B.R.nowB=aaZ bs) (hn:B.R.nowN=aaZ ns):∃ g1 c1 g2 c2,w.cell? ⟨m,5,none⟩=some (.slice (some ⟨g1,0,none⟩) 4096 c1)/\w.cell? ⟨m,6,none⟩=some (.slice (some ⟨g2,0,none⟩) 4096 c2) /\
  (∀ j,j<4096->w.cell? ⟨g1,j,none⟩=some (.bool (abP bs j)))/\∀ j,j<4096->w.cell? ⟨g2,j,none⟩=some (.bool (abP ns j)):=by
 obtain ⟨V,Z1,Z2,a,b⟩:=h
 obtain ⟨RV,hr⟩:=a.rf
 have r1:=hr.nb
 have r2:=hr.nn
 rw [hb] at r1
 rw [hn] at r2
 unfold AaW at r1 r2
 obtain ⟨g1,c1,e1,_,_⟩:=ab9 r1 (by rw [aa5];decide)
 obtain ⟨g2,c2,e2,_,_⟩:=ab9 r2 (by rw [aa5];decide)
 have m5:=hr.hm.cell 5
 have m6:=hr.hm.cell 6
 rw [e1] at m5 r1
 rw [e2] at m6 r2
 rw [aa5] at m5 m6
 refine ⟨g1,c1,g2,c2,by simpa using m5,by simpa using m6,λ j hj=>?_,λ j hj=>?_⟩
 ·exact adS r1 j _ (by unfold ae6;rw [aEZ,aEG (by rw [aa5];exact hj),ac9];rfl)
 ·exact adS r2 j _ (by unfold ae6;rw [aEZ,aEG (by rw [aa5];exact hj),ac9];rfl)
theorem ayP (h:NX w C N T B Z X) (hs:Aa8 B T C.G) (hJ:J7 i T) (h0:T.st≠0) (o:Bool) (kd a b:Int) {n:Nd} (hn:n.ptr.length=12) (d:Value) (oo:Bool) :
  Calls prog 54 #[↑N.r,.pointer (some ⟨N.tab o,0,none⟩),opV kd a b n d oo] w (AaG (i+1) w N.r (AaX C N Z) X):=by
 have hA:=AdK.make h kd a b n d oo
 have a3:=ad4 w kd a b n d oo
 have hg:=h.pl.geo
 generalize w.alloc (opO kd a b n d oo)=wA at *
 have hB:=hA.nx.calm ((AaA.refl NoF wA).drew)
 have hN:=hB.node o
 have a6:=hs.n.nodes
 have a7:=hg.n2
 have a8:=h.n4
 have a9:=h.n0
 have a4:=λ W=>afK W a 1 C.G.n (by omega) (by omega)
 obtain ⟨k,hk⟩:∃ k,adX a 1 C.G.n=k:=⟨_,rfl⟩
 have hk1:1<=k:=hk ▸ aeR a 1 C.G.n
 have hk2:k<=C.G.n:=hk ▸ aeA a (by omega)
 rw [hk] at a4
 have a5:=λ W=>ak9 W k hk1 (by omega)
 have hSt:=adR hB.ref wA.drew (AaA.refl _ _)
 rw [hs.state] at hSt
 have a1:=λ W (x:AaA NoF wA.drew W) bb=>(hB.calm x).pl.get_bad h0 bb
 have a2:=λ W (x:AaA NoF wA.drew W)=>((hB.calm x).node o).cells
 have a0:=λ w' (k:AaA NoF wA w')=>hA.nx.done hs hJ k
 obtain ⟨c0,c1,c2,c20,c21⟩:=acV hA.bO hn
 have y4:wA.drew.cell? ⟨N.r,4,none⟩=some ↑N.tb:=hA.nx.c4
 obtain ⟨yt,ym⟩:=hB.ref.cells
 rw [a6] at ym
 have y1:wA.drew.cell? ⟨w.heap.size,1,none⟩=some (I a):=c1
 obtain ⟨ct,cp⟩:=a2 wA.drew (AaA.refl _ _)
 have hFin:∀ w',AaG (i+1) wA N.r (AaX C N Z) (Zn w wA X) (U ↑true) w'->AaG (i+1) w N.r (AaX C N Z) X (U ↑true) w':=λ w' x=>x.mv hA.kA
 unfold opV at a3 ⊢
 generalize hst:T.st=st at *
 generalize AaG (i+1) w N.r (AaX C N Z) X=Post at *
 generalize AaG (i+1) wA N.r (AaX C N Z) (Zn w wA X)=PostA at *
 generalize C.G.n=gn at *
 generalize nblk k=bk at *
 generalize N.tab o=tt at *
 generalize N.pool o=pp at *
 have bs:((st:Int) != 0)=true:=by simpa using h0
 clear hN hB a8 a9 a7 hk hk1 hk2 c0 c1 c2 c20 c21
 replace ⟨a3,hFin,a4,a5,hSt,a0,a1,a2⟩:=yh8 a3 hFin a4 a5 hSt a0 a1 a2;clear hA h hs hJ hg hst h0 a6
 go_enter Tryz.func54,Tryz.ntmps54
 go_upto_region 0 with fail
 go_step
 refine aaY rfl 42 (.tmp 2) rfl _ _ (by exact a3.out) ?_
 go_upto_region 1 with fail
 go_region_held3 (λ W=>W.cell? ⟨N.r,4,none⟩=some ↑N.tb/\W.cell? ↑N.tb=some ↑N.m/\W.cell? ⟨N.m,1,none⟩=some (I gn)/\W.cell? ⟨w.heap.size,1,none⟩=some (I a)) (first|with_reducible exact ⟨y4,yt,ym,y1⟩) (first
  | (go_at_call 36;refine (a4.out _).mono ?_;rintro e w' ⟨rfl,rfl⟩)
  | (go_at_call 121;refine (a5.out _).mono ?_;rintro e w' ⟨rfl,rfl⟩))
 go_wp2_with fail
 refine hSt.out.mono ?_
 rintro e w5 ⟨rfl,rfl⟩
 clear hSt y4 yt ym y1
 go_wp2_with fail
 refine (a1.out _ (AaA.refl _ _) _).mono ?_
 rintro e w1 ⟨rfl,_,k1⟩
 obtain ⟨ct1,cp1⟩:=a2.out w1 k1
 clear ct cp
 replace k1:=hid k1
 go_wp2_with fail
 refine (a1.out _ k1.out 0).mono ?_
 rintro e w2 ⟨rfl,_,k2⟩
 have k2':=k1.out.step k2
 obtain ⟨ct2,cp2⟩:=a2.out w2 k2'
 clear ct1 cp1 k2
 replace k2':=hid k2'
 go_wp2_with fail
 refine (a1.out _ k2'.out 1).mono ?_
 rintro e w3 ⟨rfl,_,k3⟩
 have hQ:=hFin.out _ (a0.out w3 (((AaA.refl _ wA).drew).step (k2'.out.step k3)))
 clear ct2 cp2 k3 a1 a2 a0
 replace hQ:=hid hQ
 go_wp2
 exact hQ.out
theorem aBV (h:NX w C N T B Z X) (hs:Aa8 B T C.G) (hJ:J7 i T) (h0:T.st=0) (o:Bool) (kd a b:Int) {n:Nd} (hn:n.ptr.length=12) (d:Value) (oo:Bool) :
  Calls prog 54 #[↑N.r,.pointer (some ⟨N.tab o,0,none⟩),opV kd a b n d oo] w (AaG (i+1) w N.r (AaX C N Z) X):=by
 have hA:=AdK.make h kd a b n d oo
 have a8:=ad4 w kd a b n d oo
 have hg:=h.pl.geo
 obtain ⟨p1,p2,p3,p4⟩:=h.put_le hs
 obtain ⟨g1,g2,g3,g4⟩:=h.bnds hs
 generalize w.alloc (opO kd a b n d oo)=wA at *
 have hB:=hA.nx.calm ((AaA.refl NoF wA).drew)
 have ak:=hs.n.nodes
 have al:=hg.n2
 have am:=h.n4
 have an:=h.n0
 have ao:=hg.b1
 have a9:=λ W=>afK W a 1 C.G.n (by omega) (by omega)
 obtain ⟨k,hk⟩:∃ k,adX a 1 C.G.n=k:=⟨_,rfl⟩
 have hk1:1<=k:=hk ▸ aeR a 1 C.G.n
 have hk2:k<=C.G.n:=hk ▸ aeA a (by omega)
 rw [hk] at a9
 obtain ⟨q,hq⟩:∃ q,(k - 1) / 4=q:=⟨_,rfl⟩
 have ad:∀ W,Calls prog 121 #[I k] W λ e w'=>e=U (I ((q:Int)+2))/\W=w':=λ W=>by
  have:=ak9 W k hk1 (by omega)
  rw [show ((nblk k:Nat):Int)=(q:Int)+2 by unfold nblk;omega] at this
  exact this
 have ap:4*q+4<=C.G.n:=by omega
 have aa:q+2<C.G.blocks:=by omega
 have hSt:=adR hB.ref wA.drew (AaA.refl _ _)
 rw [hs.state,h0] at hSt
 have a5:=h.pl.len (q+2) aa
 have a7:=hs.blk (b:=q+2) (by omega) (by omega) a5
 have a2:∀ W X',NX W C N T B Z X'->∀ (x:Int) (bb:Nat),x=bb->bb<C.G.blocks->Calls prog 122 #[↑C.t,I x] W λ e w1=>
   ∃ g k,e=U (.tuple #[.slice (some ⟨g,0,none⟩) 512 (512+k),I 0])/\¬ KF C g/\Blk w1 g (aaE (T.raw bb++aaD k))/\NX w1 C N T B Z (Zn W w1 X')/\AaA (KF C) W w1:=λ W X' hX x bb e aq=>by rw [e];exact hX.getA h0 bb aq
 have a6:=λ W X' (x:NX W C N T B Z X')=>(x.node o).cells
 have ab:=λ W X' (x:NX W C N T B Z X')=>And.intro x.c4 x.ref.cell0
 have ac:=λ W X' (x:NX W C N T B Z X')=>x.ref.maps g2 p4
 have a3:=λ W X' (x:NX W C N T B Z X')=>by
  have:=azD x.ref p2 q (by omega)
  rw [a7] at this
  exact this
 have a1:=λ W X' (x:NX W C N T B Z X') w' (k:AaA NoF W w')=>x.done hs hJ k
 obtain ⟨c0,c1,c2,c20,c21⟩:=acV hA.bO hn
 have y4:wA.drew.cell? ⟨N.r,4,none⟩=some ↑N.tb:=hA.nx.c4
 obtain ⟨yt,ym⟩:=hB.ref.cells
 rw [ak] at ym
 have y1:wA.drew.cell? ⟨w.heap.size,1,none⟩=some (I a):=c1
 obtain ⟨ct,cp⟩:=a6 wA.drew _ hB
 have hFin:∀ w1 w2 w3 w',AaA (KF C) wA.drew w1->AaA (KF C) w1 w2->AaA (KF C) w2 w3->AaG (i+1) w3 N.r (AaX C N Z) (Zn w2 w3 (Zn w1 w2 (Zn wA.drew w1 (Zn w wA X)))) (U ↑true) w'->AaG (i+1) w N.r (AaX C N Z) X (U ↑true) w':=λ w1 w2 w3 w' k1 k2 k3 x=>
  ((((x.pre (X:=Zn w1 w2 (Zn wA.drew w1 (Zn w wA X))) (k3.mono λ _ _ f=>.inl f) (λ j hj=>.inl hj)).pre (X:=Zn wA.drew w1 (Zn w wA X)) (k2.mono λ _ _ f=>.inl f) (λ j hj=>.inl hj)).pre (X:=Zn w wA X) (k1.mono λ _ _ f=>.inl f) (λ j hj=>.inl hj)).pre ((AaA.refl _ wA).drew) (λ j hj=>hj)).mv hA.kA
 have ae:(0:Nat)<C.G.blocks:=by omega
 have af:(1:Nat)<C.G.blocks:=by omega
 unfold opV at a8 ⊢
 generalize AaG (i+1) w N.r (AaX C N Z) X=Post at *
 generalize C.G.n=gn at *
 generalize N.tab o=tt at *
 generalize N.pool o=pp at *
 generalize ag:T.raw (q+2)=rb at *
 generalize hr0:T.raw 0=rb0 at *
 generalize ah:T.raw 1=rb1 at *
 clear am an al hk hk1 hk2 c0 c1 c2 c20 c21 ao hq
 replace ⟨a8,hFin,a9,ad,hSt,a1,a2,a6⟩:=yh8 a8 hFin a9 ad hSt a1 a2 a6;replace ⟨ab,ac,a3,hB,p3,g1,a5,aa⟩:=yh8 ab ac a3 hB p3 g1 a5 aa;replace ⟨ag,hr0,ah,ae,af⟩:=yh5 ag hr0 ah ae af;clear hA h hs hJ hg h0 ak p1 p2 p4 g2 g3 g4 a7 ap
 go_enter Tryz.func54,Tryz.ntmps54
 go_upto_region 0 with fail
 go_step
 refine aaY rfl 42 (.tmp 2) rfl _ _ (by exact a8.out) ?_
 go_upto_region 1 with fail
 go_region_held3 (λ W=>W.cell? ⟨N.r,4,none⟩=some ↑N.tb/\W.cell? ↑N.tb=some ↑N.m/\W.cell? ⟨N.m,1,none⟩=some (I gn)/\W.cell? ⟨w.heap.size,1,none⟩=some (I a)) (first|with_reducible exact ⟨y4,yt,ym,y1⟩) (first
  | (go_at_call 36;refine (a9.out _).mono ?_;rintro e w' ⟨rfl,rfl⟩)
  | (go_at_call 121;refine (ad.out _).mono ?_;rintro e w' ⟨rfl,rfl⟩))
 go_wp2_with fail
 refine hSt.out.mono ?_
 rintro e w5 ⟨rfl,rfl⟩
 clear hSt y4 yt ym y1
 go_wp2_with fail
 refine (a2.out _ _ hB.out _ (q+2) (by omega) aa.out).mono ?_
 rintro e w1 ⟨q1,k1,rfl,n1,b1,h1,kk1⟩
 obtain ⟨ct1,cp1⟩:=a6.out w1 _ h1
 clear ct cp
 replace ⟨n1,b1,h1,kk1⟩:=yh4 n1 b1 h1 kk1
 go_wp2_with fail
 refine (a2.out _ _ h1.out 0 0 rfl ae.out).mono ?_
 rintro e w2 ⟨q2,k2,rfl,n2,b2,h2,kk2⟩
 have b1':=kk2.blk b1.out n1.out
 obtain ⟨ct2,cp2⟩:=a6.out w2 _ h2
 clear ct1 cp1 b1
 replace ⟨n2,b2,h2,kk2,b1'⟩:=yh5 n2 b2 h2 kk2 b1'
 go_wp2_with fail
 refine (a2.out _ _ h2.out 1 1 rfl af.out).mono ?_
 rintro e w3 ⟨q3,k3,rfl,n3,b3,h3,kk3⟩
 have d1:=kk3.blk b1'.out n1.out
 have d2:=kk3.blk b2.out n2.out
 have hF:=hFin.out w1 w2 w3
 have hQ:=λ w' k'=>hF w' kk1.out kk2.out kk3 (a1.out w3 _ h3 w' k')
 have hR:=a3.out w3 _ h3
 obtain ⟨u4,ut⟩:=ab.out w3 _ h3
 obtain ⟨m1,mc1,m2,mc2,um5,um6,ai,aj⟩:=ac.out w3 _ h3
 clear ct2 cp2 b1' b2 hF hFin a1 a3 ab ac a6 a2 h1 h2
 replace ⟨d1,d2,b3,hQ,hR,ai,aj⟩:=yh7 d1 d2 b3 hQ hR ai aj;clear h3 kk3
 go_wp2_with fail
 refine hR.out.mono ?_
 rintro e w4 ⟨v,rfl,rv,k4⟩
 have e1:=d1.out
 rw [ag.out] at e1
 have e1':=k4.blk e1 (λ f=>f)
 have a0:=aqF w4 _ v rb rb (Ab8.blk (k:=512+k1) e1' a5.out) rv.sl (by rw [a5.out];decide) (by rw [a5.out];decide)
 rw [decide_eq_true rfl] at a0
 obtain ⟨pa,pc,rfl⟩:=acG rv
 have x4:=k4.cellF u4 (λ f=>f)
 have xt:=k4.cellF ut (λ f=>f)
 have x5:=k4.cellF um5 (λ f=>f)
 clear hR e1 e1' rv
 replace ⟨k4,a0⟩:=yh2 k4 a0
 go_wp2_with fail
 refine a0.out.mono ?_
 rintro e w5 ⟨rfl,m5,rfl⟩
 clear a0
 have k5:=k4.out.drewN m5
 have z4:(w4.drewN m5).cell? ⟨N.r,4,none⟩=some ↑N.tb:=x4
 have zt:(w4.drewN m5).cell? ↑N.tb=some ↑N.m:=xt
 have z5:(w4.drewN m5).cell? ⟨N.m,5,none⟩=some (.slice ↑m1 4096 mc1):=x5
 have a4:=ar9 (w4.drewN m5) m1 mc1 rb0 g1.out (λ j hj=>k5.cellF (ai.out j hj) (λ f=>f))
 generalize hw5:w4.drewN m5=w5 at *
 clear x4 xt x5 hw5
 replace ⟨a4,k5⟩:=yh2 a4 k5
 go_wp2_with fail
 refine a4.out.mono ?_
 rintro e w6 ⟨rfl,b6,k6⟩
 have k36:=k5.out.step k6
 have e2:=d2.out
 rw [hr0.out] at e2
 have a0:=aqF w6 _ _ rb0 rb0 (Ab8.blk (k:=512+k2) (k36.blk e2 (λ f=>f)) g1.out) (Ab8.blk (rest:=[]) (k:=512) (by rw [aE3];exact b6) g1.out) (by rw [g1.out];decide) (by rw [g1.out];decide)
 rw [decide_eq_true rfl] at a0
 have v4:=k36.cellF u4 (λ f=>f)
 have vt:=k36.cellF ut (λ f=>f)
 have v6:=k36.cellF um6 (λ f=>f)
 clear z4 zt z5 b6 k6 a4 e2
 replace ⟨k36,a0⟩:=yh2 k36 a0
 go_wp2_with fail
 refine a0.out.mono ?_
 rintro e w7 ⟨rfl,m7,rfl⟩
 clear a0
 have k7:=k36.out.drewN m7
 have y4:(w6.drewN m7).cell? ⟨N.r,4,none⟩=some ↑N.tb:=v4
 have yt:(w6.drewN m7).cell? ↑N.tb=some ↑N.m:=vt
 have y6:(w6.drewN m7).cell? ⟨N.m,6,none⟩=some (.slice ↑m2 4096 mc2):=v6
 have a4:=ar9 (w6.drewN m7) m2 mc2 rb1 p3.out (λ j hj=>k7.cellF (aj.out j hj) (λ f=>f))
 generalize ar:w6.drewN m7=w7 at *
 clear v4 vt v6 ar
 replace ⟨a4,k7⟩:=yh2 a4 k7
 go_wp2_with fail
 refine a4.out.mono ?_
 rintro e w8 ⟨rfl,b8,k8⟩
 have k38:=k7.out.step k8
 have e3:=b3.out
 rw [ah.out] at e3
 have a0:=aqF w8 _ _ rb1 rb1 (Ab8.blk (k:=512+k3) (k38.blk e3 (λ f=>f)) p3.out) (Ab8.blk (rest:=[]) (k:=512) (by rw [aE3];exact b8) p3.out) (by rw [p3.out];decide) (by rw [p3.out];decide)
 rw [decide_eq_true rfl] at a0
 clear y4 yt y6 b8 k8 a4 e3
 replace ⟨k38,a0⟩:=yh2 k38 a0
 go_wp2_with fail
 refine a0.out.mono ?_
 rintro e w9 ⟨rfl,m9,rfl⟩
 have hQ9:=hQ.out _ (k38.out.drewN m9)
 clear a0 hQ
 replace hQ9:=hid hQ9
 go_wp2
 exact hQ9.out
theorem aDK (h:NX w C N T B Z X) (hs:Aa8 B T C.G) (hJ:J7 i T) (o:Bool) (kd a b:Int) {n:Nd} (hn:n.ptr.length=12) (d:Value) (oo:Bool) :
  Calls prog 54 #[↑N.r,.pointer (some ⟨N.tab o,0,none⟩),opV kd a b n d oo] w (AaG (i+1) w N.r (AaX C N Z) X):=by
 by_cases h0:T.st=0
 ·exact aBV h hs hJ h0 o kd a b hn d oo
 ·exact ayP h hs hJ h0 o kd a b hn d oo
end
end Go.Vk
