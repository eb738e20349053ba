/- Part of the proof: NtF NtG NtH. -/
import Derived.Test.YtjeelghnmkefcaaGreatQ23
import Derived.Test.YtjeelghnmkefcaaGreatQ40
import Derived.Test.YtjeelghnmkefcaaGreatQ46
set_option linter.unusedVariables false
set_option maxHeartbeats 16000000
set_option maxRecDepth 100000
namespace Go.Vk
open Go.RowKit Go.Proofs
open Tryz (prog)
section
variable {w:World} {C:TxC} {N:RgN} {T:TS} {B:TB} {Z X:Nat->Prop} {i:Nat}
theorem NX.tb_nk (h:NX w C N T B Z X):¬ KF C N.tb/\Z N.tb:=by
 obtain ⟨V,Z1,Z2,a,b⟩:=h.ref
 have hz:=b _ (.inr a.zt)
 exact ⟨h.pl.notF (h.zX _ hz),hz⟩
theorem NX.bnds (h:NX w C N T B Z X) (hs:Aa8 B T C.G):(T.raw 0).length=512/\B.R.nowB=aaZ (T.raw 0)/\B.R.data<=B.R.blocks/\B.R.blocks<=2048:=by
 have hg:=h.pl.geo
 refine ⟨h.pl.len 0 (by have:=hg.b1;omega),hs.n.nb,?_,?_⟩
 ·rw [hs.n.data,hs.n.blocks];have:=hg.b1;unfold Geom.data;omega
 ·rw [hs.n.blocks];exact hg.b2
theorem Aa8.take (h:Aa8 B T C.G) (nd:Bool) (hk:(T.raw nd.toNat).length=512) (hh:xHi C.G nd<=4096):B.R.takeA nd (T.raw nd.toNat)=(T.take C.G nd).1/\Aa8 { B with R:=B.R.take nd (T.raw nd.toNat) } (T.take C.G nd).2 C.G:=by
 obtain ⟨a,b⟩:=h.n.take nd hk hh
 exact ⟨a,h.bits b (λ k hk=>T.take_raw C.G nd hk) (T.take_like C.G nd).2.2.1⟩
theorem Aa8.drop (h:Aa8 B T C.G) (nd:Bool) (k:Int) (hk:(T.raw nd.toNat).length=512) (hh:xHi C.G nd<=4095):B.R.dropE nd (T.raw nd.toNat) k=(T.drop C.G nd k).1/\Aa8 { B with R:=B.R.drop nd (T.raw nd.toNat) k } (T.drop C.G nd k).2 C.G:=by
 obtain ⟨a,b⟩:=h.n.drop nd k hk hh
 exact ⟨a,h.bits b (λ j hj=>T.drop_raw C.G nd k hj) (T.drop_like C.G nd k).2.2.1⟩
section
variable {tb m:Nat}
theorem aCN (h:Aa3 w tb m B Z) (a0:B.R.put.length<=16) (bs:List UInt8) (hb:B.R.nowB=aaZ bs) (a1:bs.length=512) (h1:B.R.data<=B.R.blocks) (h2:B.R.blocks<=2048):Calls prog 132 #[↑m] w λ e w'=>e=U (.tuple #[I ((B.R.takeA false bs).1:Nat),I ((B.R.takeA false bs).2:Nat)])/\AaS w w' tb m { B with R:=B.R.take false bs } Z:=by
 obtain ⟨V,Z1,Z2,a,b⟩:=h
 refine (axR a.rf a0 bs hb a1 h1 h2).mono ?_
 rintro e w' ⟨rfl,s⟩
 exact ⟨rfl,AaS.doc a b s (B.R.take_le false bs a0).2⟩
theorem aCS (h:Aa3 w tb m B Z) (a0:B.R.put.length<=16) (bs:List UInt8) (hb:B.R.nowB=aaZ bs) (a1:bs.length=512) (h2:B.R.blocks<=2048) (k:Int) (a2:IntKind.i64.wrap k=k):Calls prog 134 #[↑m,I k] w λ e w'=>e=U (I (B.R.dropE false bs k:Nat))/\AaS w w' tb m { B with R:=B.R.drop false bs k } Z:=by
 obtain ⟨V,Z1,Z2,a,b⟩:=h
 refine (axV a.rf a0 bs hb a1 h2 k a2).mono ?_
 rintro e w' ⟨rfl,s⟩
 exact ⟨rfl,AaS.doc a b s (B.R.drop_le false bs k a0).2⟩
theorem aD5 (h:Aa3 w tb m B Z) (bs ns:List UInt8) (hb:B.R.nowB=aaZ bs) (hn:B.R.nowN=aaZ ns) (h1:B.R.data<=B.R.blocks) (h2:B.R.blocks<=2048) (h3:B.R.nodes<=2048):Calls prog 128 #[↑m] w λ e w'=>e=U (.tuple #[I ((B.R.leftA bs ns).1:Nat),I ((B.R.leftA bs ns).2.1:Nat),I ((B.R.leftA bs ns).2.2:Nat)])/\AaS w w' tb m B Z:=by
 have hq:=λ w' (x:AaA NoF w w')=>AaS.quiet h x
 obtain ⟨V,Z1,Z2,a,b⟩:=h
 refine (aAT a.rf bs ns hb hn h1 h2 h3).mono ?_
 rintro e w' ⟨rfl,k,rfl⟩
 exact ⟨rfl,hq _ ((AaA.refl _ w).drewN k)⟩
end
theorem ajQ {wA:World} {kd a b:Int} {n:Nd} {d:Value} {o oo:Bool} {f1 f2:FuncId} {v:Value} {x:Nat} (hn:n.ptr.length=12) (hA:AdK w wA C N T B Z X kd a b n d oo) (a0:(Instr.box 42 (opV kd a b n d oo)).run prog w=.ok ↑w.heap.size wA)
  (hk:(kd=6/\f1=40/\f2=128/\x=N.pool o/\∃ v1 v2 v3:Nat,v=.tuple #[I v1,I v2,I v3]) ∨
   (kd=11/\f1=102/\f2=115/\x=N.pool o/\∃ v1 v2:Nat,v=.tuple #[I v1,I v2]) ∨
   (kd=13/\f1=131/\f2=132/\x=N.pool o/\∃ v1 v2:Nat,v=.tuple #[I v1,I v2]) ∨
   (kd=15/\f1=35/\f2=49/\x=N.pool o/\∃ v1:Nat,v=I v1) ∨
   (kd=16/\f1=85/\f2=65/\x=C.t/\∃ v1:Nat,v=I v1))
  (hPr:Calls prog f1 #[↑x] wA λ e w1=>e=.returned v/\AaA (KF C) wA w1/\∀ w1',AaA NoF w1 w1'->Calls prog f2 #[↑N.m] w1' λ e w2=>e=.returned v/\AaA Z w1' w2/\∀ w',AaA NoF w2 w'->AaG (i+1) wA N.r (AaX C N Z) (Zn w wA X) (U ↑true) w') :
  Calls prog 56 #[↑N.r,.pointer (some ⟨N.tab o,0,none⟩),opV kd a b n d oo] w (AaG (i+1) w N.r (AaX C N Z) X):=by
 obtain ⟨c0,c1,c2,c20,c21⟩:=acV hA.bO hn
 have d4:=hA.nx.c4
 have dt:=hA.nx.ref.cell0
 have tX:=hA.nx.tb_nk
 obtain ⟨ct,cp⟩:=(hA.nx.node o).cells
 have hFin:∀ w',AaG (i+1) wA N.r (AaX C N Z) (Zn w wA X) (U ↑true) w'->AaG (i+1) w N.r (AaX C N Z) X (U ↑true) w':=λ w' x=>x.mv hA.kA
 generalize AaG (i+1) w N.r (AaX C N Z) X=Post at *
 generalize AaG (i+1) wA N.r (AaX C N Z) (Zn w wA X)=PostA at *
 unfold opV at a0 ⊢
 generalize N.tab o=tt at *
 generalize N.pool o=pp at *
 replace ⟨hA,a0,hFin,tX⟩:=yh4 hA a0 hFin tX
 rcases hk with ⟨rfl,rfl,rfl,rfl,v1,v2,v3,rfl⟩|⟨rfl,rfl,rfl,rfl,v1,v2,rfl⟩|⟨rfl,rfl,rfl,rfl,v1,v2,rfl⟩|⟨rfl,rfl,rfl,rfl,v1,rfl⟩|⟨rfl,rfl,rfl,rfl,v1,rfl⟩
 all_goals
  replace hPr:=hid hPr
  go_enter Tryz.func56,Tryz.ntmps56
  go_upto_region 0 with fail
  go_step
  refine aaY rfl 42 (.tmp 2) rfl _ _ (by exact a0.out) ?_
  go_wp2_with fail
  refine hPr.out.mono ?_
  rintro e w1 ⟨rfl,k1,hD⟩
  have f4:=k1.cellF d4 hA.out.rK
  have ft:=k1.cellF dt tX.out.1
  have hD2:=hD _ (AaA.refl NoF w1)
  clear hPr c0 c1 c2 c20 c21 d4 dt ct cp
  replace hD2:=hid hD2;clear k1 hD
  go_wp2_with fail
  refine hD2.out.mono ?_
  rintro e w2 ⟨rfl,k2,hE⟩
  have hQ:=hFin.out _ (hE w2 (AaA.refl _ w2))
  clear hE hD2 k2 f4 ft
  replace hQ:=hid hQ
  go_wp2
  exact hQ.out
theorem ay6 (h:NX w C N T B Z X) (hs:Aa8 B T C.G) (hJ:J7 i T) (o:Bool) (a b:Int) {n:Nd} (hn:n.ptr.length=12) (d:Value) (oo:Bool) :
  Calls prog 56 #[↑N.r,.pointer (some ⟨N.tab o,0,none⟩),opV 6 a b n d oo] w (AaG (i+1) w N.r (AaX C N Z) X):=by
 have hA:=AdK.make h 6 a b n d oo
 obtain ⟨p1,p2,p3,p4⟩:=h.put_le hs
 have hg:=h.pl.geo
 obtain ⟨g1,g2,g3,g4⟩:=h.bnds hs
 have hN:=hA.nx.node o
 exact ajQ hn hA (ad4 w 6 a b n d oo) (.inl ⟨rfl,rfl,rfl,rfl,_,_,_,rfl⟩) (hA.nx.pair hJ (.refl T) hs (v2:=.tuple #[I ((T.left C.G).1:Nat),I ((T.left C.G).2.1:Nat),I ((T.left C.G).2.2:Nat)]) (f2:=128) ((hA.nx.pl.left hN.hp hN.xp).mono λ e w1 x=>x)
  (λ w1 t l=>by
   have:=aD5 t (T.raw 0) (T.raw 1) g2 p4 g3 g4 (by omega)
   rw [hs.n.left] at this
   exact this))
theorem awV (h:NX w C N T B Z X) (hs:Aa8 B T C.G) (hJ:J7 i T) (o:Bool) (a b:Int) {n:Nd} (hn:n.ptr.length=12) (d:Value) (oo:Bool) :
  Calls prog 56 #[↑N.r,.pointer (some ⟨N.tab o,0,none⟩),opV 11 a b n d oo] w (AaG (i+1) w N.r (AaX C N Z) X):=by
 have hA:=AdK.make h 11 a b n d oo
 obtain ⟨p1,p2,p3,p4⟩:=h.put_le hs
 have hg:=h.pl.geo
 obtain ⟨g1,g2,g3,g4⟩:=h.bnds hs
 have hN:=hA.nx.node o
 obtain ⟨q1,q2⟩:=hs.take true p3 (by have:=hg.n2;show C.G.n<=4096;omega)
 exact ajQ hn hA (ad4 w 11 a b n d oo) (.inr (.inl ⟨rfl,rfl,rfl,rfl,_,_,rfl⟩)) (hA.nx.pair hJ (T.take_like C.G true) q2 (v2:=.tuple #[I ((T.take C.G true).1.1:Nat),I ((T.take C.G true).1.2:Nat)]) (f2:=115) ((hA.nx.pl.takeN hN.hp hN.xp).mono λ e w1 x=>x)
  (λ w1 t l=>by
   have:=azC t p1 p2 (T.raw 1) p4 p3 w1 (AaA.refl _ w1)
   have e:B.R.takeA true (T.raw 1)=(T.take C.G true).1:=q1
   rw [e] at this
   exact this))
theorem awT (h:NX w C N T B Z X) (hs:Aa8 B T C.G) (hJ:J7 i T) (o:Bool) (a b:Int) {n:Nd} (hn:n.ptr.length=12) (d:Value) (oo:Bool) :
  Calls prog 56 #[↑N.r,.pointer (some ⟨N.tab o,0,none⟩),opV 13 a b n d oo] w (AaG (i+1) w N.r (AaX C N Z) X):=by
 have hA:=AdK.make h 13 a b n d oo
 obtain ⟨p1,p2,p3,p4⟩:=h.put_le hs
 have hg:=h.pl.geo
 obtain ⟨g1,g2,g3,g4⟩:=h.bnds hs
 have hN:=hA.nx.node o
 obtain ⟨q1,q2⟩:=hs.take false g1 (by have:=hg.b2;show C.G.blocks<=4096;omega)
 exact ajQ hn hA (ad4 w 13 a b n d oo) (.inr (.inr (.inl ⟨rfl,rfl,rfl,rfl,_,_,rfl⟩))) (hA.nx.pair hJ (T.take_like C.G false) q2 (v2:=.tuple #[I ((T.take C.G false).1.1:Nat),I ((T.take C.G false).1.2:Nat)]) (f2:=132) ((hA.nx.pl.takeB hN.hp hN.xp).mono λ e w1 x=>x)
  (λ w1 t l=>by
   have:=aCN t p1 (T.raw 0) g2 g1 g3 g4
   have e:B.R.takeA false (T.raw 0)=(T.take C.G false).1:=q1
   rw [e] at this
   exact this))
theorem awR (h:NX w C N T B Z X) (hs:Aa8 B T C.G) (hJ:J7 i T) (o:Bool) (a b:Int) {n:Nd} (hn:n.ptr.length=12) (d:Value) (oo:Bool) :
  Calls prog 56 #[↑N.r,.pointer (some ⟨N.tab o,0,none⟩),opV 15 a b n d oo] w (AaG (i+1) w N.r (AaX C N Z) X):=by
 have hA:=AdK.make h 15 a b n d oo
 obtain ⟨p1,p2,p3,p4⟩:=h.put_le hs
 have hg:=h.pl.geo
 obtain ⟨g1,g2,g3,g4⟩:=h.bnds hs
 have hN:=hA.nx.node o
 obtain ⟨q1,q2⟩:=hs.clear g1 p3
 exact ajQ hn hA (ad4 w 15 a b n d oo) (.inr (.inr (.inr (.inl ⟨rfl,rfl,rfl,rfl,_,rfl⟩)))) (hA.nx.pair hJ (T.clear_like C.G) q2 (v2:=I ((T.clear C.G).1:Nat)) (f2:=49) ((hA.nx.pl.clearA hN.hp hN.xp).mono λ e w1 x=>x)
  (λ w1 t l=>by
   have:=arG t p1 (by omega)
   rw [q1] at this
   exact this))
theorem awQ (h:NX w C N T B Z X) (hs:Aa8 B T C.G) (hJ:J7 i T) (o:Bool) (a b:Int) {n:Nd} (hn:n.ptr.length=12) (d:Value) (oo:Bool) :
  Calls prog 56 #[↑N.r,.pointer (some ⟨N.tab o,0,none⟩),opV 16 a b n d oo] w (AaG (i+1) w N.r (AaX C N Z) X):=by
 have hA:=AdK.make h 16 a b n d oo
 obtain ⟨p1,p2,p3,p4⟩:=h.put_le hs
 have hg:=h.pl.geo
 obtain ⟨g1,g2,g3,g4⟩:=h.bnds hs
 have hN:=hA.nx.node o
 exact ajQ hn hA (ad4 w 16 a b n d oo) (.inr (.inr (.inr (.inr ⟨rfl,rfl,rfl,rfl,_,rfl⟩)))) (hA.nx.pair hJ (.refl T) hs (v2:=I (T.st:Nat)) (f2:=65) (hA.nx.pl.state.mono λ e w1 x=>⟨x.1,x.2.1,x.2.2.mono λ _ _ f=>f.elim⟩)
  (λ w1 t l=>by
   refine (adR t w1 (AaA.refl _ w1)).mono ?_
   rintro e w2 ⟨rfl,rfl⟩
   rw [hs.state]
   exact ⟨rfl,AaS.quiet t (AaA.refl _ _)⟩))
end
section
variable {w:World} {C:TxC} {N:RgN} {T:TS} {B:TB} {Z X:Nat->Prop} {i:Nat}
theorem NX.pairT {w:World} {T':TS} {B':TB} (h:NX w C N T B Z X) (hJ:J7 i T) {f1 f2:FuncId} {a1 a2:Array Value} {v1 v2:Value} (hL:T.Like T') (hs:Aa8 B' T' C.G)
  (h1:Calls prog f1 a1 w λ e w1=>e=.returned v1/\Aa6 w1 C T' X/\AaA (KF C) w w1)
  (h2:∀ w1,Aa3 w1 N.tb N.m B Z->(∀ i,Z i->i<w1.heap.size)->Calls prog f2 a2 w1 λ e w2=>e=.returned v2/\AaS w1 w2 N.tb N.m B' Z) :
  Calls prog f1 a1 w λ e w1=>e=.returned v1/\AaA (KF C) w w1/\∀ w1',AaA NoF w1 w1'->Calls prog f2 a2 w1' λ e w2=>e=.returned v2/\AaA Z w1' w2/\w2.cell? ↑N.tb=some ↑N.m/\∀ w',AaA NoF w2 w'->AaG (i+1) w N.r (AaX C N Z) X (U ↑true) w':=by
 refine h1.mono ?_
 rintro e w1 ⟨rfl,p1,k1⟩
 refine ⟨rfl,k1,λ w1' k1'=>?_⟩
 have hp:=(h.pool k1 p1 hL).calm k1'
 refine (h2 w1' hp.ref (λ i hi=>hp.pl.lt i (hp.zX i hi))).mono ?_
 rintro e w2 ⟨rfl,s2⟩
 exact ⟨rfl,s2.k,s2.rep.cell0,λ w' k'=>h.two hJ (k1.step (k1'.mono λ _ _ f=>f.elim)) hp.pl hL s2 k' hs⟩
theorem awU (h:NX w C N T B Z X) (hs:Aa8 B T C.G) (hJ:J7 i T) (o:Bool) (a b:Int) (ha:IntKind.i64.wrap a=a) {n:Nd} (hn:n.ptr.length=12) (d:Value) (oo:Bool) :
  Calls prog 56 #[↑N.r,.pointer (some ⟨N.tab o,0,none⟩),opV 12 a b n d oo] w (AaG (i+1) w N.r (AaX C N Z) X):=by
 have hA:=AdK.make h 12 a b n d oo
 have a0:=ad4 w 12 a b n d oo
 obtain ⟨p1,p2,p3,p4⟩:=h.put_le hs
 have hg:=h.pl.geo
 obtain ⟨g1,g2,g3,g4⟩:=h.bnds hs
 generalize w.alloc (opO 12 a b n d oo)=wA at *
 have a1:=hA.nx.calm ((AaA.refl NoF wA).drew)
 have hN:=a1.node o
 obtain ⟨q1,q2⟩:=hs.drop true a p3 (by have:=hg.n2;show C.G.n<=4095;omega)
 have hPr:=a1.pairT hJ (T.drop_like C.G true a) q2 (v2:=I ((T.drop C.G true a).1:Nat)) (a2:=#[↑N.m,I a]) (f2:=119) ((a1.pl.dropN hN.hp hN.xp a).mono λ e w1 x=>x)
  (λ w1 t l=>by
   have:=azE t p1 p2 (T.raw 1) p4 p3 a ha w1 (AaA.refl _ w1)
   have e:B.R.dropE true (T.raw 1) a=(T.drop C.G true a).1:=q1
   rw [e] at this
   exact this)
 obtain ⟨c0,c1,c2,c20,c21⟩:=acV hA.bO hn
 have d4:=hA.nx.c4
 have dt:=hA.nx.ref.cell0
 have tX:=hA.nx.tb_nk
 have tK:=hN.pl.notF hN.xt
 obtain ⟨ct,cp⟩:=hN.cells
 have ctA:wA.cell? ⟨N.tab o,0,none⟩=some (.pointer (some ⟨N.pool o,0,none⟩)):=ct
 have hFin:∀ w',AaG (i+1) wA.drew N.r (AaX C N Z) (Zn w wA X) (U ↑true) w'->AaG (i+1) w N.r (AaX C N Z) X (U ↑true) w':=λ w' x=>AaG.mv hA.kA.drew x
 generalize AaG (i+1) w N.r (AaX C N Z) X=Post at *
 generalize AaG (i+1) wA.drew N.r (AaX C N Z) (Zn w wA X)=PostA at *
 unfold opV at a0 ⊢
 generalize (T.drop C.G true a).1=v at *
 generalize N.tab o=tt at *
 generalize N.pool o=pp at *
 have z2:wA.drew.cell? ⟨w.heap.size,1,none⟩=some (I a):=c1
 have a3:∀ w2,AaA (KF C) wA.drew w2->w2.cell? ↑tt=some ↑pp/\w2.cell? ⟨w.heap.size,1,none⟩=some (I a):=λ w2 kk=>⟨kk.cellF (w:=wA.drew) ct tK,kk.cellF (w:=wA.drew) z2 hA.nK⟩
 clear hN a1
 replace ⟨hA,a0,hPr,hFin,tX,a3⟩:=yh6 hA a0 hPr hFin tX a3;clear h hs hJ hg p1 p2 p3 p4 g1 g2 g3 g4 tK
 go_enter Tryz.func56,Tryz.ntmps56
 go_upto_region 0 with fail
 go_step
 refine aaY rfl 42 (.tmp 2) rfl _ _ (by exact a0.out) ?_
 go_upto_region 16 with fail
 go_region_held3 (λ W=>W.cell? ↑tt=some ↑pp/\W.cell? ⟨w.heap.size,1,none⟩=some (I a)) (first|with_reducible exact ⟨ct,z2⟩|with_reducible exact x7) (first
  | (go_at_call 108;refine hPr.out.mono ?_;rintro e w1 ⟨rfl,k1,hD⟩;have x7:=a3.out w1 k1;replace ⟨k1,hD⟩:=yh2 k1 hD))
 have f4:w1.drew.cell? ⟨N.r,4,none⟩=some ↑N.tb:=k1.out.cellF (w:=wA.drew) d4 hA.out.rK
 have ft:w1.drew.cell? ↑N.tb=some ↑N.m:=k1.out.cellF (w:=wA.drew) dt tX.out.1
 have f1:w1.drew.cell? ⟨w.heap.size,1,none⟩=some (I a):=x7.2
 have hD2:=hD.out _ ((AaA.refl NoF w1).drew)
 clear hPr c0 c1 c2 c20 c21 d4 dt ct cp ctA z2 x7
 replace hD2:=hid hD2
 have hkB:∀ w2,AaA Z w1.drew w2->w2.cell? ↑N.tb=some ↑N.m->w2.cell? ⟨N.r,4,none⟩=some ↑N.tb/\w2.cell? ↑N.tb=some ↑N.m/\w2.cell? ⟨w.heap.size,1,none⟩=some (I a):=λ w2 kk y=>⟨kk.cellF (w:=w1.drew) f4 hA.out.rZ,y,kk.cellF (w:=w1.drew) f1 hA.out.nZ⟩
 replace hkB:=hid hkB
 go_upto_region 17 with fail
 go_region_held3 (λ W=>W.cell? ⟨N.r,4,none⟩=some ↑N.tb/\W.cell? ↑N.tb=some ↑N.m/\W.cell? ⟨w.heap.size,1,none⟩=some (I a)) (first|with_reducible exact ⟨f4,ft,f1⟩|with_reducible exact x8) (first
  | (go_at_call 119;refine hD2.out.mono ?_;rintro e w2 ⟨rfl,k2,yt,hE⟩;have x8:=hkB.out w2 k2 yt;replace hE:=hid (hFin.out _ (hE w2 (AaA.refl _ w2)));clear k2 yt))
 go_wp2
 exact hE.out
theorem awS (h:NX w C N T B Z X) (hs:Aa8 B T C.G) (hJ:J7 i T) (o:Bool) (a b:Int) (ha:IntKind.i64.wrap a=a) {n:Nd} (hn:n.ptr.length=12) (d:Value) (oo:Bool) :
  Calls prog 56 #[↑N.r,.pointer (some ⟨N.tab o,0,none⟩),opV 14 a b n d oo] w (AaG (i+1) w N.r (AaX C N Z) X):=by
 have hA:=AdK.make h 14 a b n d oo
 have a0:=ad4 w 14 a b n d oo
 obtain ⟨p1,p2,p3,p4⟩:=h.put_le hs
 have hg:=h.pl.geo
 obtain ⟨g1,g2,g3,g4⟩:=h.bnds hs
 generalize w.alloc (opO 14 a b n d oo)=wA at *
 have a1:=hA.nx.calm ((AaA.refl NoF wA).drew)
 have hN:=a1.node o
 obtain ⟨q1,q2⟩:=hs.drop false a g1 (by have:=hg.b2;show C.G.blocks<=4095;omega)
 have hPr:=a1.pairT hJ (T.drop_like C.G false a) q2 (v2:=I ((T.drop C.G false a).1:Nat)) (a2:=#[↑N.m,I a]) (f2:=134) ((a1.pl.dropB hN.hp hN.xp a).mono λ e w1 x=>x)
  (λ w1 t l=>by
   have:=aCS t p1 (T.raw 0) g2 g1 g4 a ha
   have e:B.R.dropE false (T.raw 0) a=(T.drop C.G false a).1:=q1
   rw [e] at this
   exact this)
 obtain ⟨c0,c1,c2,c20,c21⟩:=acV hA.bO hn
 have d4:=hA.nx.c4
 have dt:=hA.nx.ref.cell0
 have tX:=hA.nx.tb_nk
 have tK:=hN.pl.notF hN.xt
 obtain ⟨ct,cp⟩:=hN.cells
 have ctA:wA.cell? ⟨N.tab o,0,none⟩=some (.pointer (some ⟨N.pool o,0,none⟩)):=ct
 have hFin:∀ w',AaG (i+1) wA.drew N.r (AaX C N Z) (Zn w wA X) (U ↑true) w'->AaG (i+1) w N.r (AaX C N Z) X (U ↑true) w':=λ w' x=>AaG.mv hA.kA.drew x
 generalize AaG (i+1) w N.r (AaX C N Z) X=Post at *
 generalize AaG (i+1) wA.drew N.r (AaX C N Z) (Zn w wA X)=PostA at *
 unfold opV at a0 ⊢
 generalize (T.drop C.G false a).1=v at *
 generalize N.tab o=tt at *
 generalize N.pool o=pp at *
 have z2:wA.drew.cell? ⟨w.heap.size,1,none⟩=some (I a):=c1
 have a3:∀ w2,AaA (KF C) wA.drew w2->w2.cell? ↑tt=some ↑pp/\w2.cell? ⟨w.heap.size,1,none⟩=some (I a):=λ w2 kk=>⟨kk.cellF (w:=wA.drew) ct tK,kk.cellF (w:=wA.drew) z2 hA.nK⟩
 clear hN a1
 replace ⟨hA,a0,hPr,hFin,tX,a3⟩:=yh6 hA a0 hPr hFin tX a3;clear h hs hJ hg p1 p2 p3 p4 g1 g2 g3 g4 tK
 go_enter Tryz.func56,Tryz.ntmps56
 go_upto_region 0 with fail
 go_step
 refine aaY rfl 42 (.tmp 2) rfl _ _ (by exact a0.out) ?_
 go_upto_region 24 with fail
 go_region_held3 (λ W=>W.cell? ↑tt=some ↑pp/\W.cell? ⟨w.heap.size,1,none⟩=some (I a)) (first|with_reducible exact ⟨ct,z2⟩|with_reducible exact x7) (first
  | (go_at_call 133;refine hPr.out.mono ?_;rintro e w1 ⟨rfl,k1,hD⟩;have x7:=a3.out w1 k1;replace ⟨k1,hD⟩:=yh2 k1 hD))
 have f4:w1.drew.cell? ⟨N.r,4,none⟩=some ↑N.tb:=k1.out.cellF (w:=wA.drew) d4 hA.out.rK
 have ft:w1.drew.cell? ↑N.tb=some ↑N.m:=k1.out.cellF (w:=wA.drew) dt tX.out.1
 have f1:w1.drew.cell? ⟨w.heap.size,1,none⟩=some (I a):=x7.2
 have hD2:=hD.out _ ((AaA.refl NoF w1).drew)
 clear hPr c0 c1 c2 c20 c21 d4 dt ct cp ctA z2 x7
 replace hD2:=hid hD2
 have hkB:∀ w2,AaA Z w1.drew w2->w2.cell? ↑N.tb=some ↑N.m->w2.cell? ⟨N.r,4,none⟩=some ↑N.tb/\w2.cell? ↑N.tb=some ↑N.m/\w2.cell? ⟨w.heap.size,1,none⟩=some (I a):=λ w2 kk y=>⟨kk.cellF (w:=w1.drew) f4 hA.out.rZ,y,kk.cellF (w:=w1.drew) f1 hA.out.nZ⟩
 replace hkB:=hid hkB
 go_upto_region 25 with fail
 go_region_held3 (λ W=>W.cell? ⟨N.r,4,none⟩=some ↑N.tb/\W.cell? ↑N.tb=some ↑N.m/\W.cell? ⟨w.heap.size,1,none⟩=some (I a)) (first|with_reducible exact ⟨f4,ft,f1⟩|with_reducible exact x8) (first
  | (go_at_call 134;refine hD2.out.mono ?_;rintro e w2 ⟨rfl,k2,yt,hE⟩;have x8:=hkB.out w2 k2 yt;replace hE:=hid (hFin.out _ (hE w2 (AaA.refl _ w2)));clear k2 yt))
 go_wp2
 exact hE.out
end
theorem Ab8.keeps2 {w w':World} {Gf:Nat->Prop} {v:Value} {l:List UInt8} (h:Ab8 w v l) (k:AaA Gf w w') (hG:l≠[]->∀ g,v.ownBlock=some g->¬ Gf g):Ab8 w' v l:=by
 by_cases hl:l=[]
 ·obtain ⟨a,cap,e,_⟩:=h
  exact ⟨a,cap,e,.inl hl⟩
 ·exact h.keeps k (hG hl)
section
variable {w:World} {C:TxC} {N:RgN} {T:TS} {B:TB} {Z X:Nat->Prop} {i:Nat}
theorem NX.putPair (h:NX w C N T B Z X) (hs:Aa8 B T C.G) (hJ:J7 i T) (q:Nat) (hq:4*q+4<=C.G.n) (d:Value) (l L:List UInt8) (hL:L.length=512) (hd:Ab8 w d l) (a1:l≠[]->∀ g,d.ownBlock=some g->¬ AaX C N Z g) (W:World) (kW:AaA NoF w W) (g:Nat) (hg:Blk W g (aaE L)) (a2:w.heap.size<=g) :
  Calls prog 87 #[↑C.t,I ((q:Int)+2),.slice ↑g 512 512] W λ e w2=>e=U (I ((T.putB (q+2) L).1:Nat))/\AaA (KF C) W w2/\∀ W2,AaA NoF w2 W2->Ab8 W2 d l/\∀ W3 gd,AaA NoF W2 W3->Blk W3 gd (aaE L)->W2.heap.size<=gd ->
   Calls prog 130 #[↑N.tb,I ((q:Int)+2),.slice ↑gd 512 512] W3 λ e w4=>e=U (I ((T.putB (q+2) L).1:Nat))/\AaA Z W3 w4/\∀ w',AaA NoF w4 w'->AaG (i+1) w N.r (AaX C N Z) X (U ↑true) w':=by
 have hW:=h.other kW (λ _ _ f=>f.elim)
 have a3:=h.pl.geo
 have hb:q+2<C.G.blocks:=by have:=a3.b1;omega
 obtain ⟨p1,p2,p3,p4⟩:=h.put_le hs
 obtain ⟨q1,q2⟩:=hs.putRaw (b:=q+2) (data:=L) (by omega) (by omega) (h.pl.len _ hb)
 have a0:=hW.pl.put (q+2) hb g 512 L [] (by rw [aE3];exact hg) (.inr ⟨a2,hg.lt⟩) hL
 rw [show ((q+2:Nat):Int)=(q:Int)+2 by omega] at a0
 refine a0.mono ?_
 rintro e w2 ⟨rfl,x1,x2⟩
 refine ⟨rfl,x2,λ W2 k2=>⟨?_,λ W3 gd k3 a4 hgl2=>?_⟩⟩
 ·exact ((hd.keeps kW (λ _ _ f=>f)).keeps2 x2 (λ hl g e f=>a1 hl g e (.inl f))).keeps k2 (λ _ _ f=>f)
 ·have hp:=(hW.pool x2 x1 (T.putB_like _ _)).calm (k2.step k3)
  have z1:=kW.size
  have z2:=x2.size
  have z3:=k2.size
  refine (at4 hp.ref p1 p2 q (by rw [hs.n.nodes];omega) gd L hL a4 (λ z=>by have:=h.pl.lt gd (h.zX gd z);omega)).mono ?_
  rintro e w4 ⟨rfl,s4⟩
  rw [q1]
  exact ⟨rfl,s4.k,λ w' k'=>(hW.two hJ (x2.step ((k2.step k3).mono λ _ _ f=>f.elim)) hp.pl (T.putB_like _ _) s4 k' q2).mv kW⟩
theorem awW (h:NX w C N T B Z X) (hs:Aa8 B T C.G) (hJ:J7 i T) (o:Bool) (a b:Int) {n:Nd} (hn:n.ptr.length=12) (d:Value) (oo:Bool) (l:List UInt8) (hd:Ab8 w d l) (ae:l≠[]->∀ g,d.ownBlock=some g->¬ AaX C N Z g) :
  Calls prog 56 #[↑N.r,.pointer (some ⟨N.tab o,0,none⟩),opV 10 a b n d oo] w (AaG (i+1) w N.r (AaX C N Z) X):=by
 have hA:=AdK.make h 10 a b n d oo
 have a1:=ad4 w 10 a b n d oo
 obtain ⟨p1,p2,p3,p4⟩:=h.put_le hs
 have hg:=h.pl.geo
 generalize w.alloc (opO 10 a b n d oo)=wA at *
 have hN:=hA.nx.node o
 have af:=hs.n.nodes
 have ag:=hg.n2
 have ah:=h.n4
 have ai:=h.n0
 have a2:=λ W=>afK W a 1 C.G.n (by omega) (by omega)
 obtain ⟨k,hk⟩:∃ k,adX a 1 C.G.n=k:=⟨_,rfl⟩
 have hk1:1<=k:=hk ▸ aeR a 1 C.G.n
 have hk2:k<=C.G.n:=hk ▸ aeA a (by omega)
 rw [hk] at a2
 obtain ⟨q,hq⟩:∃ q,(k - 1) / 4=q:=⟨_,rfl⟩
 have a8:∀ W,Calls prog 121 #[I k] W λ e w'=>e=U (I ((q:Int)+2))/\W=w':=λ W=>by
  have:=ak9 W k hk1 (by omega)
  rw [show ((nblk k:Nat):Int)=(q:Int)+2 by unfold nblk;omega] at this
  exact this
 have a9:=hd.keeps hA.kA (λ _ _ f=>f)
 have a3:=λ W (x:AaA NoF wA W)=>ao5 W d l (a9.keeps x (λ _ _ f=>f))
 have aa:=λ W (x:Ab8 W d l)=>ao5 W d l x
 have a4:=λ W (x:AaA NoF wA W) g bg hgl=>hA.nx.putPair hs hJ q (by omega) d l (padL l) (aqS l) a9 ae W x g bg hgl
 obtain ⟨c0,c1,c2,c20,c21⟩:=acV hA.bO hn
 have d4:=hA.nx.c4
 obtain ⟨dt,dm⟩:=hA.nx.ref.cells
 have tX:=hA.nx.tb_nk
 have ttK:=hN.pl.notF hN.xt
 have ppK:=hN.pl.notF hN.xp
 obtain ⟨ct,cp⟩:=hN.cells
 rw [af] at dm
 have hFin:∀ w',AaG (i+1) wA N.r (AaX C N Z) (Zn w wA X) (U ↑true) w'->AaG (i+1) w N.r (AaX C N Z) X (U ↑true) w':=λ w' x=>x.mv hA.kA
 generalize AaG (i+1) w N.r (AaX C N Z) X=Post at *
 generalize AaG (i+1) wA N.r (AaX C N Z) (Zn w wA X)=PostA at *
 unfold opV at a1 ⊢
 generalize padL l=L at *
 generalize (T.putB (q+2) L).1=pe at *
 generalize C.G.n=gn at *
 generalize N.tab o=tt at *
 generalize N.pool o=pp at *
 have y4:wA.drew.cell? ⟨N.r,4,none⟩=some ↑N.tb:=d4
 have yt:wA.drew.cell? ↑N.tb=some ↑N.m:=dt
 have ym:wA.drew.cell? ⟨N.m,1,none⟩=some (I gn):=dm
 have y1:wA.drew.cell? ⟨w.heap.size,1,none⟩=some (I a):=c1
 clear hN hk hk1 hk2 hq ah ai ag
 replace ⟨hA,a1,hFin,ttK,ppK,a2,a8,a3⟩:=yh8 hA a1 hFin ttK ppK a2 a8 a3;replace ⟨aa,a4⟩:=yh2 aa a4;clear h hs hJ hg p1 p2 p3 p4 tX hd ae a9 af
 go_enter Tryz.func56,Tryz.ntmps56
 go_upto_region 0 with fail
 go_step
 refine aaY rfl 42 (.tmp 2) rfl _ _ (by exact a1.out) ?_
 go_upto_region 7 with fail
 go_region_held3 (λ W=>W.cell? ⟨N.r,4,none⟩=some ↑N.tb/\W.cell? ↑N.tb=some ↑N.m/\W.cell? ⟨N.m,1,none⟩=some (I gn)/\W.cell? ⟨w.heap.size,1,none⟩=some (I a)) (first|with_reducible exact ⟨y4,yt,ym,y1⟩) (first
  | (go_at_call 36;refine (a2.out _).mono ?_;rintro e w' ⟨rfl,rfl⟩)
  | (go_at_call 121;refine (a8.out _).mono ?_;rintro e w' ⟨rfl,rfl⟩))
 have kB:AaA NoF wA wA.drew.drew:=(AaA.refl _ wA).drewN 2
 have zt:wA.drew.drew.cell? ↑tt=some ↑pp:=ct
 have zp:wA.drew.drew.cell? ↑pp=some ↑C.t:=cp
 have zd:wA.drew.drew.cell? ⟨w.heap.size,20,none⟩=some d:=c20
 have a5:=a3.out _ kB
 have a6:∀ W2 W3,AaA NoF wA.drew.drew W2->AaA (KF C) W2 W3->W3.cell? ↑tt=some ↑pp/\W3.cell? ↑pp=some ↑C.t/\W3.cell? ⟨w.heap.size,20,none⟩=some d/\W3.cell? ⟨N.r,4,none⟩=some ↑N.tb:=λ W2 W3 k2 k3=>⟨k3.cellF (k2.cellF zt (λ f=>f)) ttK.out,k3.cellF (k2.cellF zp (λ f=>f)) ppK.out,k3.cellF (k2.cellF zd (λ f=>f)) hA.out.nK,k3.cellF (k2.cellF (w:=wA.drew.drew) y4 (λ f=>f)) hA.out.rK⟩
 have a7:∀ W2,AaA NoF wA.drew.drew W2->W2.cell? ↑tt=some ↑pp/\W2.cell? ↑pp=some ↑C.t/\W2.cell? ⟨w.heap.size,20,none⟩=some d:=λ W2 k2=>⟨k2.cellF zt (λ f=>f),k2.cellF zp (λ f=>f),k2.cellF zd (λ f=>f)⟩
 clear c0 c1 c2 c20 c21 dt dm ct cp yt ym y1
 replace ⟨kB,a5,a6,a7⟩:=yh4 kB a5 a6 a7
 go_upto_region 8 with fail
 go_region_held3 (λ W=>W.cell? ↑tt=some ↑pp/\W.cell? ↑pp=some ↑C.t/\W.cell? ⟨w.heap.size,20,none⟩=some d) (first|with_reducible exact ⟨zt,zp,zd⟩|with_reducible exact x7|with_reducible exact x8) (first
  | (go_at_call 129;refine a5.out.mono ?_;rintro e wP ⟨rfl,bP,kP⟩;have x7:=a7.out wP kP;have a0:=hid (a4.out wP (kB.out.step kP) _ bP (by have:=hA.out.kA.size;exact aEK _));replace kP:=hid kP;clear bP)
  | (go_at_call 87;refine a0.out.mono ?_;rintro e w2 ⟨rfl,k2,hE⟩;obtain ⟨z1,z2,z3,z4⟩:=a6.out wP w2 kP.out k2;have x8:=And.intro z1 (And.intro z2 z3);replace ⟨k2,hE⟩:=yh2 k2 hE))
 obtain ⟨sl2,ab⟩:=hE.out w2.drew ((AaA.refl _ w2).drew)
 have hP2:=aa.out w2.drew sl2
 have v4:w2.drew.cell? ⟨N.r,4,none⟩=some ↑N.tb:=z4
 have vd:w2.drew.cell? ⟨w.heap.size,20,none⟩=some d:=z3
 have ac:∀ W2 W3,AaA NoF w2.drew W2->AaA Z W2 W3->W3.cell? ⟨N.r,4,none⟩=some ↑N.tb/\W3.cell? ⟨w.heap.size,20,none⟩=some d:=λ W2 W3 k2 k3=>⟨k3.cellF (k2.cellF v4 (λ f=>f)) hA.out.rZ,k3.cellF (k2.cellF vd (λ f=>f)) hA.out.nZ⟩
 have ad:∀ W2,AaA NoF w2.drew W2->W2.cell? ⟨N.r,4,none⟩=some ↑N.tb/\W2.cell? ⟨w.heap.size,20,none⟩=some d:=λ W2 k2=>⟨k2.cellF v4 (λ f=>f),k2.cellF vd (λ f=>f)⟩
 clear a5 a6 a7 a4 a0 a3 x7 x8 z1 z2 z3 z4 zt zp zd sl2 y4
 replace ⟨hP2,ab,ac,ad⟩:=yh4 hP2 ab ac ad
 go_upto_region 9 with fail
 go_region_held3 (λ W=>W.cell? ⟨N.r,4,none⟩=some ↑N.tb/\W.cell? ⟨w.heap.size,20,none⟩=some d) (first|with_reducible exact ⟨v4,vd⟩|with_reducible exact x9|with_reducible exact x10) (first
  | (go_at_call 129;refine hP2.out.mono ?_;rintro e wQ ⟨rfl,bQ,kQ⟩;have x9:=ad.out wQ kQ;have aj:=hid (ab.out wQ _ kQ bQ (aEK _));replace kQ:=hid kQ;clear bQ)
  | (go_at_call 130;refine aj.out.mono ?_;rintro e w4 ⟨rfl,k4,hF⟩;have x10:=ac.out wQ w4 kQ.out k4;have hQ:=hid (hFin.out _ (hF w4 (AaA.refl _ w4)));clear k4 hF))
 go_wp2
 exact hQ.out
end
end Go.Vk
