/- Part of the proof: Ns9 Nn5 Nn6. -/
import Derived.Test.YtjeelghnmkefcaaGreatQ36
import Derived.Test.YtjeelghnmkefcaaGreatQ41
import Derived.Deep.RegionWith
import Derived.Deep.RegionHeld3
import Derived.StillTailTactics
set_option linter.unusedVariables false
set_option maxHeartbeats 16000000
set_option maxRecDepth 100000
namespace Go.Vk
open Go.RowKit Go.Proofs
open Tryz (prog)
def J7 (i:Nat) (T:TS):Prop:=T.lm.head<=17*i/\T.wr<=10000+2100*i
def AmV (i:Nat) (w:World) (r:Nat) (F X:Nat->Prop):Prop:=
 ∃ (C:TxC) (N:RgN) (T:TS) (B:TB) (Z:Nat->Prop),N.r=r/\NX w C N T B Z X/\Aa8 B T C.G/\J7 i T/\F=AaX C N Z
def RigP (w:World) (e:Ending) (w':World):Prop:=
 ∃ r F X,e=U (.pointer (some ⟨r,0,none⟩))/\w'.cell? ⟨r,10,none⟩=some ↑true/\AmV 0 w' r F X/\(∀ i,F i->w.heap.size<=i)/\(∀ i,i<w.heap.size->X i)/\AaA NoF w w'
section
variable {w w' w0:World} {C:TxC} {N:RgN} {T T':TS} {B:TB} {Z X:Nat->Prop}
theorem NX.c10 (h:NX w C N T B Z X):w.cell? ⟨N.r,10,none⟩=some ↑true:=by
 have:=h.bR.1.cell 10
 simpa [agD] using this
theorem atJ (h:NX w C N T B Z X) (hs:Aa8 B T C.G) (h0:T.st=0) (hp:T.put=[]) :
  w.cell? ⟨N.r,2,none⟩=some ↑N.ta/\w.cell? ↑N.ta=some ↑N.p /\
  Calls prog 35 #[↑N.p] w λ e w1=>e=U (I 0)/\w1.cell? ⟨N.r,4,none⟩=some ↑N.tb/\w1.cell? ↑N.tb=some ↑N.m /\
   Calls prog 49 #[↑N.m] w1 λ e w2=>e=U (I 0)/\w2.cell? ⟨N.r,10,none⟩=some ↑true/\w2.frozen? ⟨N.r,10,none⟩=false /\
    ∃ T' B' Z' X',NX (w2.setCell ⟨N.r,10,none⟩ ↑true) C N T' B' Z' X'/\Aa8 B' T' C.G/\T.Like T'/\(∀ i,X i->X' i)/\(∀ i,AaX C N Z' i->Zn w w2 (AaX C N Z) i)/\AaA (AaX C N Z) w (w2.setCell ⟨N.r,10,none⟩ ↑true):=by
 have hb:=h.bR.1
 have hn:=h.node false
 have a0:=T.clear_ok C.G h0 hp
 refine ⟨by have:=hb.cell 2;simpa [agD] using this,by have:=hn.ht.cell 0;simpa [tabO,RgN.tab,RgN.pool] using this,(h.pl.clearA hn.hp hn.xp).mono ?_⟩
 rintro e w1 ⟨rfl,p1,k1⟩
 rw [a0]
 have h1:=h.pool k1 p1 (T.clear_like C.G)
 have a3:=h.pl.len 0 (by have:=h.pl.geo.b1;omega)
 have a4:=h.pl.len 1 (by have:=h.pl.geo.b1;omega)
 obtain ⟨q1,q2⟩:=hs.clear a3 a4
 rw [a0] at q1
 obtain ⟨M,_,hM⟩:=h.pl.rep
 have a5:B.R.put.length<=16:=by rw [hs.n.put];exact hM.le
 have a1:=h.pl.geo
 refine ⟨rfl,by have:=h1.bR.1.cell 4;simpa [agD] using this,h1.ref.cell0,(arG h1.ref a5 (by rw [hs.n.data];have:=a1.b1;have:=a1.b2;unfold Geom.data;omega)).mono ?_⟩
 rintro e w2 ⟨rfl,s2⟩
 rw [q1]
 have h2:=h1.doc s2
 have a2:=h2.bR.1
 have kr:AaA (· = N.r) w2 (w2.setCell ⟨N.r,10,none⟩ ↑true):=(AaA.refl (· = N.r) w2).setCell (p:=⟨N.r,10,none⟩) (.inl rfl) _
 have a6:Blk (w2.setCell ⟨N.r,10,none⟩ ↑true) N.r (agD C.d C.sb ↑N.ta ↑N.ua N.tb C.G true):=by
  have:=a2.setCell 10 ↑true
  simpa [agD] using this
 have z1:=k1.size
 have z2:=s2.k.size
 refine ⟨rfl,h2.c10,a2.frz 10,_,_,_,_,h2.mineR kr a6,q2,T.clear_like C.G,λ i hi=>.inl hi,λ i hi=>?_,?_⟩
 ·rcases hi with hi|(hi|hi)|hi
  ·exact .inl (.inl hi)
  ·exact .inl (.inr (.inl hi))
  ·exact .inr ⟨by omega,hi.2⟩
  ·exact .inl (.inr (.inr hi))
 ·refine ((k1.mono (G:=AaX C N Z) λ _ _ f=>.inl f).trans s2.k (λ i _ f=>.inr (.inl f))).trans kr (λ i _ f=>.inr (.inr (.inl ⟨_,List.mem_cons_self ..,f⟩)))
theorem aqA {j:Nat} (hj:j<4):acD (aaD 512) j=aaD 128:=by
 unfold acD aaD
 rw [List.drop_replicate,List.take_replicate]
 congr 1;omega
theorem ayA (s lg n:Nat) (life:Int):ApZ ⟨ahS (s - (3+lg)) n,List.replicate n (aaD 128),List.replicate n (aaD 128)⟩ (λ _=>aaD 512) ⟨s,lg,n,life⟩ where
 ob:=(af9 512).symm
 on:=(af9 512).symm
 w:=λ k h1 h2=>by
  dsimp only at h2 ⊢
  rw [List.getElem?_replicate,if_pos (by omega),aqA (agS k)]
 lw:=aEW
 data:=rfl
 blocks:=rfl
 nodes:=rfl
 dead:=rfl
theorem StAt.keeps {w w':World} {sb d l mo:Nat} {F:List Nat} {G:Geom} {D:DM} {ov:List OEnt} {oc:Nat} {op:Bool} (h:StAt w sb d l mo F G D ov oc op) {Gf:Nat->Prop} (k:AaA Gf w w') (h1:¬ Gf sb) (h2:∀ i∈F,¬ Gf i) (h3:∀ i∈aaH mo ov,¬ Gf i):StAt w' sb d l mo F G D ov oc op:=
 { h with hs:=k.blk h.hs h1,hd:=h.hd.keeps k (λ i hi=>h2 i hi),ho:=h.ho.keeps k (λ i hi=>h3 i hi) }
theorem aBE {w w':World} {d sb l mo r tb m s lg n:Nat} {F:List Nat} {Z X:Nat->Prop} (hp:AbY s lg n) (h2:s<=2048)
  (h:Ak5 w d sb l mo r tb m F ⟨s,lg,n,ad7 s lg n⟩ (newD s lg n) [] 0 ⟨ahS (s - (3+lg)) n,List.replicate n (aaD 128),List.replicate n (aaD 128)⟩ Z X w')
  (a1:∀ i,Z i->X i) (a2:¬ Z r) (a3:X r) (hlt:∀ i,X i->i<w.heap.size) (geo:AtR ⟨s,lg,n,ad7 s lg n⟩) (a4:mo<w.heap.size)
  (hl:Blk w l (logO d (newL lg (ad7 s lg n)))) (lF:l∉F) (lsb:l≠sb) (xl:∀ i,X i->i≠l) (n4:n % 4=0) (n0:4<=n) :
  ∃ (C:TxC) (N:RgN) (B:TB) (Z' X':Nat->Prop),N.r=r/\C.ov=[]/\NX w' C N ⟨λ _=>aaD 512,[],0,λ _=>aaD 512,newL lg (ad7 s lg n),10000,false,0⟩ B Z' X'/\Aa8 B ⟨λ _=>aaD 512,[],0,λ _=>aaD 512,newL lg (ad7 s lg n),10000,false,0⟩ C.G /\
   (∀ i,AaX C N Z' i->(i∈F∨Z i∨i=r∨i=sb∨i=l∨i=mo)∨w.heap.size<=i/\i<w'.heap.size)/\(∀ i,X i->X' i)/\AaA (λ i=>i=sb∨i=r∨Z i) w w':=by
 obtain ⟨life,g,hAn,hI,a5,hz⟩:=al1 hp h2
 obtain ⟨g',a6,a7,a8⟩:=ayB hp h2
 have hp':=hp
 unfold AbY at hp'
 have a0:afD (newD s lg n) (ad7 s lg n)=false:=by unfold afD ad7;rw [hI.burnt,hI.lf,a5];simp
 obtain ⟨C,N,Z',X',z1,z2,z3,z4,z5,z6,z7,z8⟩:=h.rig 0 a1 a2 a3 hlt geo a0 (old:=λ _=>aaD 512) (L:=newL lg (ad7 s lg n)) (wr:=10000)
  (λ b hb=>by
   have hb':b<s - (3+lg):=hb
   have e:cmtB (newD s lg n) (ovOf []) (3+lg) b=(newD s lg n).now (3+lg+b):=rfl
   show cmtB (newD s lg n) (ovOf []) (3+lg) b=_
   rw [e,hI.now _ (by omega),hz _ (by omega)])
  a4 ⟨⟨s,g',a6,a7,by show 3+lg+(s - (3+lg))<=s;omega,h2⟩,a8⟩ hl lF lsb xl
  ⟨rfl,rfl,rfl,rfl,by dsimp only;omega,⟨aEK _,aEY _⟩,(by decide:1<=2/\2<2147483648)⟩ (λ e he=>by cases he) n4 n0 (ayA s lg n _)
 refine ⟨C,N,_,Z',X',z1,z3,z4,?_,z6,z7,z8⟩
 rw [z2];exact z5
def rigZ (tb:Nat):Obj:=.cells #[.pointer none,.pointer none,.pointer none,.pointer none,↑tb,I 0,I 0,I 0,I 0,I 0,↑false] 55 (0,0)
theorem aC1 (w:World) (a b c:Int):Calls prog 21 #[.agg #[I a,I b,I c]] w (RigP w):=by
 have a6:=λ w=>axI w a b c
 have hp:=asU a b c
 have h2:=(aq1 a b c).2
 have h3:=an4 c
 have h4:=ar3 b
 have h5:=aq1 a b c
 have a1:∀ life,AtR ⟨apH a b c,gLog b,aiM c,life⟩:=λ life=>by
  unfold ahY at h5
  refine ⟨?_,?_,?_,?_⟩
  ·unfold Geom.blocks;dsimp only;omega
  ·unfold Geom.blocks;dsimp only;omega
  ·dsimp only;omega
  ·dsimp only;omega
 unfold ahY at h5
 generalize apH a b c=s at *
 generalize gLog b=lg at *
 generalize aiM c=n at *
 have hM:=λ w=>aDG w s lg n hp h2
 have a7:∀ w (x:Int),x=((s - (3+lg):Nat):Int)->Calls prog 46 #[I x,I n] w λ e w'=>
  ∃ tb m,e=U (.pointer (some ⟨tb,0,none⟩))/\Aa3 w' tb m ⟨ahS (s - (3+lg)) n,List.replicate n (aaD 128),List.replicate n (aaD 128)⟩ (λ i=>w.heap.size<=i/\i<w'.heap.size)/\AaA NoF w w':=λ w x hx=>by rw [hx];exact aCP w _ n (by omega) (by omega) (by omega)
 have kG:=(AaA.refl NoF w).alloc (.cells #[I a,I b,I c] 23 (0,0))
 have aj:3+lg<=s:=by omega
 generalize hPost:RigP w=Post
 replace ⟨a6,hp,a1,hM,a7,kG,hPost⟩:=yh7 a6 hp a1 hM a7 kG hPost;clear h5
 go_enter Tryz.func21,Tryz.ntmps21
 go_upto_region 1 with fail
 go_wp2_with fail
 refine (a6.out _).mono ?_
 rintro e w1 ⟨rfl,k1⟩
 have k1':=kG.out.step k1
 clear a6 kG k1
 have sA:=Blk.new w1 (.cells #[I s,I lg,I n] 32 (0,0))
 have kA:=k1'.alloc (.cells #[I s,I lg,I n] 32 (0,0))
 go_upto_region 2 with fail
 have ad:=k1'.size
 generalize hw2:w1.alloc (.cells #[I s,I lg,I n] 32 (0,0))=w2 at *
 have ae:w1.heap.size<w2.heap.size:=sA.lt
 generalize w1.heap.size=sb0 at *
 have s0:=sA.cell 0
 have s1:=sA.cell 1
 have s2:=sA.cell 2
 simp at s0 s1 s2
 clear hw2 k1' w1
 replace ⟨sA,kA⟩:=yh2 sA kA
 go_wp2_with fail
 refine (a7.out _ _ (by omega)).mono ?_
 rintro e w3 ⟨tb,m,rfl,tr,k3⟩
 have kB:=kA.out.step k3
 have sB:=k3.blk sA.out (λ f=>f)
 have af:=k3.size
 clear s0 s1 s2 kA sA a7 k3
 have kC:=kB.alloc (rigZ tb)
 have rC:=Blk.new w3 (rigZ tb)
 have sC:=sB.alloc (rigZ tb)
 have tC:=tr.keeps ((AaA.refl NoF w3).alloc (rigZ tb)) (λ _ _ f=>f)
 have ag:=aEI w3 (rigZ tb)
 clear kB sB tr
 go_upto_region 3 with fail
 change Code.wp _ _ _ _ (w3.alloc (rigZ tb))
 have rF:∀ i,w3.heap.size<=i->i<(w3.alloc (rigZ tb)).heap.size->i=w3.heap.size:=λ i x y=>by omega
 generalize hr:w3.heap.size=r at *
 generalize w3.alloc (rigZ tb)=w4 at *
 have q0:=sC.cell 0
 have q1:=sC.cell 1
 have q2:=sC.cell 2
 simp at q0 q1 q2
 clear hr w3
 replace ⟨kC,rC,tC⟩:=yh3 kC rC tC;clear sC
 go_wp2_with fail
 refine (hM.out _).mono ?_
 rintro e w5 ⟨d,sb,l,mo,F,rfl,hS,hL,a4,x1,x2,x3,k5⟩
 have rD:=k5.blk rC.out (λ f=>f)
 have tD:=tC.out.keeps k5 (λ _ _ f=>f)
 have kD:=kC.out.step k5
 have ah:=rC.out.lt
 have a0:∀ i,i=sb∨i=l∨i=mo∨i∈F->r<i:=λ i hi=>aEJ ah (a4 i hi)
 have e0:=rD.cell 0
 have e1:=rD.cell 1
 have e4:=rD.cell 4
 have e5:=rD.cell 5
 have e6:=rD.cell 6
 have e7:=rD.cell 7
 have e8:=rD.cell 8
 have e9:=rD.cell 9
 have ef:=rD.frz
 unfold rigZ at e0 e1 e4 e5 e6 e7 e8 e9
 simp at e0 e1 e4 e5 e6 e7 e8 e9
 have hrw:w.heap.size<=r:=by omega
 clear kC rC tC hM q0 q1 q2 k5
 replace ⟨hS,hL,rD,tD,kD,a0,x1,x2⟩:=yh8 hS hL rD tD kD a0 x1 x2;clear a4 x3
 go_upto_region 8 with fail
 have kr:AaA (· = r) w5 ((w5.setCell ↑r ↑d).setCell ⟨r,1,none⟩ ↑sb):=
  ((AaA.refl (· = r) w5).setCell (p:=⟨r,0,none⟩) (.inl rfl) _).setCell (p:=⟨r,1,none⟩) (.inl rfl) _
 have bE:=(rD.out.setCell 0 ↑d).setCell 1 ↑sb
 simp at bE
 have sE:=kr.blk hS.out.hs (λ e=>by have:=a0.out sb (.inl rfl);omega)
 have a8:=auJ (G:=⟨s,lg,n,ad7 s lg n⟩) sE
 have kE:=kD.out.trans kr (λ i hi e=>by omega)
 clear e0 e1 e4 e5 e6 e7 e8 e9 ef
 generalize (w5.setCell ↑r ↑d).setCell ⟨r,1,none⟩ ↑sb=w6 at *
 replace ⟨kr,bE,a8,kE⟩:=yh4 kr bE a8 kE;clear sE
 go_wp2_with fail
 refine a8.out.mono ?_
 rintro e w7 ⟨rfl,k7⟩
 have bF:=k7.blk bE.out (λ f=>f)
 have k57:=kr.out.step (k7.mono (G:=(· = r)) λ _ _ f=>f.elim)
 have kF:=kE.out.step k7
 have e5:=bF.cell 5
 have e6:=bF.cell 6
 have e7:=bF.cell 7
 have e8:=bF.cell 8
 have e9:=bF.cell 9
 have ef:=bF.frz
 simp at e5 e6 e7 e8 e9
 unfold ae8
 dsimp only
 have a2:∃ v1,3+lg=v1:=⟨_,rfl⟩
 obtain ⟨v1,a2⟩:=a2
 obtain ⟨v2,a5⟩:∃ v2,s - (3+lg)=v2:=⟨_,rfl⟩
 obtain ⟨v3,hv3⟩:∃ v3,2+n / 4=v3:=⟨_,rfl⟩
 rw [a5,a2,hv3]
 replace ⟨bF,k57,kF,a2,a5,hv3⟩:=yh6 bF k57 kF a2 a5 hv3
 go_upto_region 9 with fail
 have bG:=((((bF.out.setCell 5 (I lg)).setCell 6 (I (v1:Nat))).setCell 7 (I (v2:Nat))).setCell 8 (I n)).setCell 9 (I (v3:Nat))
 simp at bG
 have kG:AaA (· = r) w7 (((((w7.setCell ⟨r,5,none⟩ (I lg)).setCell ⟨r,6,none⟩ (I (v1:Nat))).setCell ⟨r,7,none⟩ (I (v2:Nat))).setCell ⟨r,8,none⟩ (I n)).setCell ⟨r,9,none⟩ (I (v3:Nat))):=
  (((((AaA.refl (· = r) w7).setCell (p:=⟨r,5,none⟩) (.inl rfl) _).setCell (p:=⟨r,6,none⟩) (.inl rfl) _).setCell (p:=⟨r,7,none⟩) (.inl rfl) _).setCell (p:=⟨r,8,none⟩) (.inl rfl) _).setCell (p:=⟨r,9,none⟩) (.inl rfl) _
 clear e5 e6 e7 e8 e9 ef
 generalize ((((w7.setCell ⟨r,5,none⟩ (I lg)).setCell ⟨r,6,none⟩ (I (v1:Nat))).setCell ⟨r,7,none⟩ (I (v2:Nat))).setCell ⟨r,8,none⟩ (I n)).setCell ⟨r,9,none⟩ (I (v3:Nat))=w8 at *
 have k8:=k57.out.step kG
 have a9:=hS.out.keeps k8 (by have:=a0.out sb (.inl rfl);omega) (λ i hi e=>by have:=a0.out i (.inr (.inr (.inr hi)));omega) (λ i hi e=>by
  have:i=mo:=by simpa [aaH] using hi
  have:=a0.out mo (.inr (.inr (.inl rfl)));omega)
 have t8:=tD.out.keeps k8 (λ i z e=>by omega)
 have l8:=k8.blk hL.out (by have:=a0.out l (.inr (.inl rfl));omega)
 have kW:AaA NoF w w8:=kF.out.trans kG (λ i hi e=>by omega)
 have b8:Blk w8 r (agD d sb (.pointer none) (.pointer none) tb ⟨s,lg,n,ad7 s lg n⟩ false):=by
  have e:agD d sb (.pointer none) (.pointer none) tb ⟨s,lg,n,ad7 s lg n⟩ false=.cells #[↑d,↑sb,.pointer none,.pointer none,.pointer (some ⟨tb,0,none⟩),I lg,I (v1:Nat),I (v2:Nat),I n,I (v3:Nat),↑false] 55 (0,0):=by
   rw [← a2.out,← a5.out,← hv3.out];rfl
  rw [e];exact bG
 have ai:=b8.lt
 have a3:∀ i,i=sb∨i=l∨i=mo∨i∈F->w.heap.size<=i:=λ i hi=>by have:=a0.out i hi;omega
 have aa:∀ i,(i=r∨w2.heap.size<=i/\i<r)->i<w8.heap.size/\i≠sb/\i∉F/\i∉aaH mo []:=λ i hi=>by
  have ak:i<=r:=by rcases hi with hi|hi<;>omega
  refine ⟨by omega,λ e=>by have:=a0.out sb (.inl rfl);omega,λ e=>by have:=a0.out i (.inr (.inr (.inr e)));omega,λ e=>?_⟩
  have e2:i=mo:=by simpa [aaH] using e
  have:=a0.out mo (.inr (.inr (.inl rfl)));omega
 have hB:=asA b8 a9 t8 (by show 0<n;omega) (by show n<=1024;omega) aa (.inl rfl) (λ i hi=>.inr hi) (λ z=>by omega)
 have ac:mo<w8.heap.size:=a9.ho.hm.lt
 have hFin:∀ w9,Ak5 w8 d sb l mo r tb m F ⟨s,lg,n,ad7 s lg n⟩ (newD s lg n) [] 0 ⟨ahS (s - (3+lg)) n,List.replicate n (aaD 128),List.replicate n (aaD 128)⟩ (λ i=>w2.heap.size<=i/\i<r) (λ i=>i=r∨w2.heap.size<=i/\i<r) w9 ->
   ∃ ta p,w9.cell? ⟨r,10,none⟩=some ↑true/\w9.cell? ⟨r,2,none⟩=some (.pointer (some ⟨ta,0,none⟩))/\w9.cell? ⟨ta,0,none⟩=some (.pointer (some ⟨p,0,none⟩)) /\
    Calls prog 35 #[.pointer (some ⟨p,0,none⟩)] w9 λ e wA=>e=U (I 0)/\∃ tb m,wA.cell? ⟨r,4,none⟩=some (.pointer (some ⟨tb,0,none⟩))/\wA.cell? ⟨tb,0,none⟩=some (.pointer (some ⟨m,0,none⟩)) /\
     Calls prog 49 #[.pointer (some ⟨m,0,none⟩)] wA λ e wB=>e=U (I 0)/\wB.cell? ⟨r,10,none⟩=some ↑true/\wB.frozen? ⟨r,10,none⟩=false/\RigP w (U ↑r) (wB.setCell ⟨r,10,none⟩ ↑true):=λ w9 x=>by
  obtain ⟨C,N,B,Z',X',y1,y2,y3,y4,y5,y6,y7⟩:=aBE hp.out h2 x (λ i hi=>.inr hi) (λ z=>by omega) (.inl rfl) (λ i hi=>(aa i hi).1) (a1.out _) ac l8 x2.out x1.out (λ i hi e=>by have:=a0.out l (.inr (.inl rfl));rcases hi with hi|hi<;>omega) h3.2.2 h3.1
  have al:=kW.size
  have ab:∀ i,AaX C N Z' i->w.heap.size<=i:=λ i hi=>by
   rcases y5 i hi with (x|x|x|x|x|x)|x
   ·exact a3 i (.inr (.inr (.inr x)))
   ·omega
   ·omega
   ·exact a3 i (.inl x)
   ·exact a3 i (.inr (.inl x))
   ·exact a3 i (.inr (.inr (.inl x)))
   ·omega
  have k9:AaA NoF w w9:=kW.trans y7 (λ i hi f=>by
   rcases f with f|f|f
   ·have:=a3 i (.inl f);omega
   ·omega
   ·omega)
  have hN:=y3.olds rfl y2 ab k9.size
  obtain ⟨c1,c2,c3⟩:=atJ hN y4 rfl rfl
  have c10:=hN.c10
  rw [y1] at c1 c3 c10
  refine ⟨N.ta,N.p,c10,c1,c2,c3.mono ?_⟩
  rintro e wA ⟨rfl,d1,d2,d3⟩
  refine ⟨rfl,N.tb,N.m,d1,d2,d3.mono ?_⟩
  rintro e wB ⟨rfl,g1,g2,T',B',Z'',X'',g3,g4,g5,g6,g7,g8⟩
  have z9:=k9.size
  have c10B:=g3.c10
  rw [y1] at c10B
  refine ⟨rfl,g1,g2,r,_,X'',rfl,c10B,⟨C,N,T',B',Z'',y1,g3,g4,?_,rfl⟩,λ i hi=>?_,λ i hi=>g6 i (.inr hi),k9.trans g8 (λ i hi f=>by have:=ab i f;omega)⟩
  ·unfold J7
   rw [g5.1,g5.2.1]
   exact ⟨aEK _,aEK _⟩
  ·rcases g7 i hi with x|x
   ·exact ab i x
   ·omega
 clear hp a1 k8 a9 t8 l8 kW b8 aa ac a3 bG kG k7 hS hL rD tD kD a0 x1 x2 kr bE kE bF k57 kF a2 a5 hv3
 replace ⟨hB,hFin⟩:=yh2 hB hFin
 go_wp2_with fail
 refine hB.out.mono ?_
 rintro e w9 ⟨rfl,x⟩
 obtain ⟨ta,p,c10,c1,c2,c3⟩:=hFin.out w9 x
 clear x hFin hB
 replace c3:=hid c3
 go_wp2_with fail
 refine c3.out.mono ?_
 rintro e wA ⟨rfl,tb',m',d1,d2,d3⟩
 clear c3 c10 c1 c2
 replace d3:=hid d3
 go_wp2_with fail
 refine d3.out.mono ?_
 rintro e wB ⟨rfl,g1,g2,g3⟩
 clear d3 d1 d2
 rw [hPost.out] at g3
 replace g3:=hid g3
 go_wp2
 exact g3.out
end
theorem as8 {cur b z:List UInt8} {o:Nat} (h:o+b.length<=cur.length):lay (cur++z) o b=lay cur o b++z:=by
 unfold lay
 rw [List.take_append_of_le_length (by omega),List.drop_append_of_le_length (by omega),aEQ,aEQ]
def AnM (w:World) (C:TxC) (r:Nat × TS) (X:Nat->Prop) (g:Nat) (e:Ending) (w':World):Prop:=endE r.1 e/\Aa6 w' C r.2 X/\AaA (λ i=>KF C i∨i=g) w w'
section
variable {w w':World} {C:TxC} {T T':TS} {X Y:Nat->Prop} {tab p:Nat}
theorem avD (h:Ab4 w C T X tab p) (h0:T.st=0) (k g c:Nat) (h1:1<=k) (h2:k<=C.G.n) (hg:Blk w g (aaE (T.raw (nblk k)++aaD c))) (hX:X g) (ad:g≠tab) (ae:g≠p) {n:Nd} (hn:n.ptr.length=12) (hf:Ac4 n) :
  Calls prog 104 #[↑tab,afX k (nblk k) g (512+c),ndV n] w (AnM w C (T.laySl k (encN n)) X g):=by
 have ac:=aiU h.pl.geo h2
 have aj:=h.pl.geo.n2
 have a2:=h.pl.len (nblk k) ac
 have a3:=aeJ n hn
 have hlt:=agS k
 have af:=h.pl.lt g hX
 have a4:AaA NoF w ((w.alloc (ac5 k (nblk k) g (512+c))).alloc (ndO n)):=((AaA.refl _ w).alloc _).alloc _
 have hA:=h.wide a4
 have a6:=a4.blk hg (λ f=>f)
 have a7:=(Blk.new w (ac5 k (nblk k) g (512+c))).alloc (ndO n)
 have a5:=Blk.new (w.alloc (ac5 k (nblk k) g (512+c))) (ndO n)
 rw [aEI] at a5
 have a8:=λ w=>aeL w n
 have hE:=λ w=>ajM w hn
 have hB:=λ w=>arM w k (nblk k) g c h1 (by omega)
 have aa:(lay (T.raw (nblk k)) (128*nix k) (encN n)).length=512:=akH a2 a3 hlt
 have ab:T.laySl k (encN n)=T.putB (nblk k) (lay (T.raw (nblk k)) (128*nix k) (encN n)):=by unfold TS.laySl TS.putB;rw [if_pos h0]
 have hP:∀ w',Aa6 w' C (T.laySl k (encN n)).2 X->AaA (λ i=>KF C i∨i=g) w w'->∀ e,endE (T.laySl k (encN n)).1 e->AnM w C (T.laySl k (encN n)) X g e w':=λ w' a b e x=>⟨x,a,b⟩
 generalize AnM w C (T.laySl k (encN n)) X g=Post at *
 obtain ⟨d,ud,hd⟩:=acJ
 unfold afX ndV at *
 replace ⟨h,hX,a2,a3,a4,a6,a7,a5⟩:=yh8 h hX a2 a3 a4 a6 a7 a5;replace ⟨a8,hE,hB,aa,ab,hP,ud,hd⟩:=yh8 a8 hE hB aa ab hP ud hd;replace ⟨hn,hf⟩:=yh2 hn hf;clear h0 hg hA
 go_enter Tryz.func104,Tryz.ntmps104
 go_upto_region 0 with fail
 go_step
 refine aaR rfl _ _ (by go_simp;exact ⟨rfl,rfl⟩) ?_
 simp only [wz]
 refine aaY rfl 39 (.tmp 2) rfl _ _ (by exact a8.out _) ?_
 simp only [wz]
 go_upto_region 1 with fail
 rw [show (w.alloc (.cells #[I k,I (nblk k:Nat),.slice ↑g 512 (512+c)] 160 (0,0))).heap.size=w.heap.size+1 from aEI _ _]
 change Code.wp _ _ _ _ ((w.alloc (ac5 k (nblk k) g (512+c))).alloc (ndO n))
 have hzA:((w.alloc (ac5 k (nblk k) g (512+c))).alloc (ndO n)).heap.size=w.heap.size+1+1:=by simp only [aEI]
 generalize (w.alloc (ac5 k (nblk k) g (512+c))).alloc (ndO n)=wA at *
 replace hzA:=hid hzA
 go_step
 refine aaN rfl 39 (.tmp 5) rfl (w.heap.size+1) 0 39 (ndC n) 17 d rfl a5.out (by rw [aaM hn.out];decide) ud.out hd.out aaK ?_
 rw [abR hn.out]
 simp only [wz]
 go_wp2_with fail
 refine (hE.out _).mono ?_
 rintro e w1 ⟨k1,ag⟩
 rcases ag with ⟨_,gE,ah,rfl,a9⟩|⟨x,_⟩
 rotate_left
 ·exact absurd hf.out x
 have g1:=k1.blk a6.out (λ f=>f)
 have s1:=k1.blk a7.out (λ f=>f)
 have kB:=a4.out.step k1
 have z1:=k1.size
 have l3:=af
 clear k1 a4 a6 a7 a5 hE a8
 have c0:=s1.cell 0
 have c1:=s1.cell 1
 have c2:=s1.cell 2
 simp at c0 c1 c2
 have ai:gE≠g:=by have:=hzA.out;omega
 replace ⟨g1,s1,kB,a9⟩:=yh4 g1 s1 kB a9;clear ah z1 ai
 go_wp2_with (go_at_call 103;refine (akF _).mono ?_;rintro e w3 ⟨rfl,rfl⟩)
 refine (hB.out _).mono ?_
 rintro e w2 ⟨rfl,k2⟩
 have g2:=k2.blk g1.out (λ f=>f)
 have s2:=k2.blk s1.out (λ f=>f)
 have e2:=k2.blk a9.out (λ f=>f)
 have kC:=kB.out.step k2
 have z2:=k2.size
 clear k2 kB g1 s1 a9 c0 c1 c2 hB
 replace ⟨g2,s2,e2,kC⟩:=yh4 g2 s2 e2 kC;clear z2
 dsimp only
 go_step
 refine aaR rfl _ _ (by go_simp;exact ⟨rfl,rfl⟩) ?_
 simp only [wz]
 refine ae4 rfl (.tmp 16) (.tmp 17) 40 40 rfl 5 afL amP 5 5 g (128*nix k) 128 128 gE 0 128 128 rfl rfl _ _ g2.out e2.out (by rw [aEH,a2.out];omega) (by rw [a3.out];decide) ?_
 intro w4 b4 k4 z4
 rw [show Nat.min 128 128=128 from rfl,aER,aEO (by rw [a3.out];decide),as8 (by rw [a3.out,a2.out];omega)] at b4
 have N2:=h.out.quiet kC.out
 have N4:=N2.mine k4 (λ i e=>⟨e ▸ hX.out,e ▸ ad,e ▸ ae⟩)
 have N5:=N4.quiet ((AaA.refl NoF w4).drew)
 have s4:=k4.blk s2.out (by show ¬ w.heap.size=g;omega)
 obtain ⟨a0,b0⟩:=N5.cells
 have a1:=N5.pl.put (nblk k) ac g (512+c) _ (aaD c) b4.drew hX.out aa.out
 rw [← ab.out] at a1
 have k5:AaA (λ i=>KF C i∨i=g) w w4.drew:=((kC.out.mono (F:=λ _=>False) (G:=λ i=>KF C i∨i=g) (λ _ _ f=>f.elim)).trans k4 (λ i _ e=>.inr e)).drew
 have hfin:∀ e w',AdN w4.drew C X (T.laySl k (encN n)).2 (I ((T.laySl k (encN n)).1:Nat)) e w'->e=U (I ((T.laySl k (encN n)).1:Nat))/\∀ e,endE (T.laySl k (encN n)).1 e->Post e w':=λ e w' ⟨x1,x2,x3⟩=>⟨x1,hP.out w' x2 (k5.trans x3 (λ i _ y=>.inl y))⟩
 have d0:w4.drew.cell? ↑w.heap.size=some (I k):=by have:=s4.drew.cell 0;simpa using this
 have d1:w4.drew.cell? ⟨w.heap.size,1,none⟩=some (I (nblk k:Nat)):=by have:=s4.drew.cell 1;simpa using this
 have d2:w4.drew.cell? ⟨w.heap.size,2,none⟩=some (.slice ↑g 512 (512+c)):=by have:=s4.drew.cell 2;simpa using this
 generalize AdN w4.drew C X (T.laySl k (encN n)).2 (I ((T.laySl k (encN n)).1:Nat))=PutP at a1 hfin
 generalize (T.laySl k (encN n)).1=cz at *
 clear N2 N4 k4 s2 g2 e2 kC z4 b4
 replace ⟨a1,hfin⟩:=yh2 a1 hfin;clear N5 s4 k5
 go_upto_region 4 with fail
 go_still_tail 11,(by kernel_rfl)
 change wpList _ _ _ _ _ w4.drew
 generalize w4.drew=w5 at *
 go_wp2_with fail
 refine a1.out.mono ?_
 intro e w6 hp6
 obtain ⟨rfl,hF⟩:=hfin.out _ _ hp6
 clear hp6 a1 hfin a0 b0 d0 d1 d2
 by_cases hz:cz=0
 ·have hQ:=hF (U (.tuple #[])) (.inl ⟨hz,rfl⟩)
  subst hz
  replace ⟨hQ,hF⟩:=yh2 hQ hF
  go_wp2_with (go_at_call 103;refine (akF _).mono ?_;rintro e w3 ⟨rfl,rfl⟩)
  go_end0
  exact hQ.out
 ·have hQ:=hF (thrE cz) (.inr ⟨hz,rfl⟩)
  replace hQ:=hid hQ;clear hF
  go_wp2_with (go_at_call 103;refine (ajH _ cz hz).mono ?_;rintro e w3 ⟨rfl,rfl⟩)
  exact ⟨rfl,hQ.out⟩
end
def AcI (w:World) (C:TxC) (c:Nat) (T0:TS) (X G:Nat->Prop) (R:World->Prop) (e:Ending) (w':World):Prop:=endE c e/\Aa6 w' C T0 X/\R w'/\AaA (λ i=>KF C i∨G i) w w'
def outN (G:Geom) (k:Int):Prop:=k<1∨(G.n:Int)<k
instance (G:Geom) (k:Int):Decidable (outN G k):=inferInstanceAs (Decidable (_∨_))
def TS.loadC (T:TS) (G:Geom) (k:Int):Nat × Nd:=if outN G k then (11,Nd.zero) else rdN (T.slot k.toNat)
theorem ai8 {bs z:List UInt8} (h:bs.length=512) {j:Nat} (hj:j<4):acD (bs++z) j=acD bs j:=by
 unfold acD
 rw [List.drop_append_of_le_length (by omega),List.take_append_of_le_length (by rw [aET];omega)]
section
variable {w w':World} {C:TxC} {T T':TS} {X Y:Nat->Prop} {tab p:Nat}
theorem aBN (h:Ab4 w C T X tab p) (h0:T.st=0) {bt bk bn:Nat} {k:Int} (ct:w.cell? ↑bt=some ↑tab) (ck:w.cell? ↑bk=some (I k)) (hb:Blk w bn (ndO Nd.zero))
  (xt:X bt) (xk:X bk) (xn:X bn) (n1:bn≠tab) (n2:bn≠p) (n3:bt≠bn) (n4:bk≠bn) :
  Calls prog 93 #[↑bt,↑bk,↑bn] w (AcI w C (T.loadC C.G k).1 T X (· = bn) (λ w'=>Blk w' bn (ndO (T.loadC C.G k).2))):=by
 have hK:=λ (w:World) (h:Ab4 w C T X tab p)=>aiV h k
 have a4:=h.pl.geo.n2
 have a1:=λ i (hi:X i)=>h.pl.notF hi
 by_cases ho:outN C.G k
 ·have hc:T.loadC C.G k=(11,Nd.zero):=if_pos ho
  rw [hc]
  have hP:∀ w',AaA NoF w w'->AcI w C 11 T X (· = bn) (λ w'=>Blk w' bn (ndO Nd.zero)) (thrE 11) w':=λ w' kk=>⟨adE (by decide),h.pl.quiet kk,kk.blk hb (λ f=>f),kk.mono λ _ _ f=>f.elim⟩
  dsimp only
  generalize AcI w C 11 T X (· = bn) (λ w'=>Blk w' bn (ndO Nd.zero))=Post at *
  replace ⟨h,h0,hb,hK,a1,hP,hc,ho⟩:=yh8 h h0 hb hK a1 hP hc ho
  go_enter Tryz.func93,Tryz.ntmps93
  go_wp2_with fail
  refine (hK.out _ h.out).mono ?_
  rintro e w1 ⟨k1,hX⟩
  rcases hX with ⟨x,_⟩|⟨_,rfl⟩
  ·exact absurd ho.out x
  ·exact ⟨rfl,hP.out _ k1⟩
 ·have hc:T.loadC C.G k=rdN (T.slot k.toNat):=if_neg ho
  rw [hc]
  have ho':=ho
  unfold outN at ho'
  obtain ⟨q,rfl⟩:∃ q:Nat,k=q:=⟨k.toNat,by omega⟩
  rw [Int.toNat_natCast]
  have hS:=λ (w:World) (h:Ab4 w C T X tab p)=>alY h h0 q (by omega) (by omega)
  have a0:=h.pl.len (nblk q) (aiU h.pl.geo (by omega))
  have hH:=λ (w:World) (g c:Nat) (h:Blk w g (aaE (T.raw (nblk q)++aaD c)))=>aqC w q (nblk q) g c _ h (by rw [aEH,a0];omega) (by omega) (by omega)
  have hsl:∀ c,acD (T.raw (nblk q)++aaD c) (nix q)=T.slot q:=λ c=>ai8 a0 (agS q)
  have hP:∀ w' e,endE (rdN (T.slot q)).1 e->Aa6 w' C T X->Blk w' bn (ndO (rdN (T.slot q)).2)->AaA (λ i=>KF C i∨i=bn) w w'->AcI w C (rdN (T.slot q)).1 T X (· = bn) (λ w'=>Blk w' bn (ndO (rdN (T.slot q)).2)) e w':=λ w' e a b d f=>⟨a,b,d,f⟩
  generalize AcI w C (rdN (T.slot q)).1 T X (· = bn) (λ w'=>Blk w' bn (ndO (rdN (T.slot q)).2))=Post at *
  replace ⟨h,hb,hK,a1,hP,ho,hS,hH⟩:=yh8 h hb hK a1 hP ho hS hH;replace hsl:=hid hsl;clear h0 hc a0 ho'
  go_enter Tryz.func93,Tryz.ntmps93
  go_wp2_with fail
  refine (hK.out _ h.out).mono ?_
  rintro e w1 ⟨k1,hX⟩
  rcases hX with ⟨_,rfl⟩|⟨x,_⟩
  rotate_left
  ·exact absurd x ho.out
  have N1:=h.out.quiet k1
  have b1:=k1.blk hb.out (λ f=>f)
  replace ct:=k1.cellF ct (λ f=>f)
  replace ck:=k1.cellF ck (λ f=>f)
  clear hK
  replace ⟨N1,b1,k1⟩:=yh3 N1 b1 k1
  go_wp2_with fail
  refine (hS.out _ N1.out).mono ?_
  rintro e w2 ⟨g,c,rfl,a2,hg,N2,k2⟩
  have l2:=N1.out.pl.lt
  have a3:∀ i,X i->i≠g:=λ i hi=>by have:=l2 i hi;omega
  have b2:=k2.blk b1.out (a1.out bn xn)
  have kA:AaA (λ i=>KF C i∨i=bn) w w2:=(k1.out.mono (F:=λ _=>False) (G:=λ i=>KF C i∨i=bn) (λ _ _ f=>f.elim)).step (k2.mono λ _ _ f=>.inl f)
  have P2:Aa6 w2 C T X:=N2.pl.less (λ i hi=>.inl hi)
  clear k2 k1 b1 N1 hS ct ck
  replace ⟨b2,kA,hg,P2⟩:=yh4 b2 kA hg P2;clear l2 a3 N2 a2
  go_wp2_with fail
  refine (hH.out _ _ _ hg.out).mono ?_
  rintro e w3 ⟨k3,hX⟩
  rw [hsl.out c] at hX
  have b3:=k3.blk b2.out (λ f=>f)
  have P3:=P2.out.quiet k3
  have kB:=kA.out.step (k3.mono λ _ _ f=>f.elim)
  clear hH k3 b2 P2 kA hg hsl
  rcases hX with ⟨hz,rfl⟩|⟨hz,rfl⟩
  ·have hn:(rdN (T.slot q)).2.ptr.length=12:=by
    rcases ac7 (T.slot q) with ⟨_,_,z⟩|⟨_,_,z⟩|⟨_,z⟩
    ·rw [z];rfl
    ·rw [z];exact abZ _
    ·rw [z];rfl
   dsimp only
   go_step
   refine aaL rfl 39 (.tmp 2) (.tmp 9) rfl bn 0 39 (ndC Nd.zero) (ndC (rdN (T.slot q)).2) rfl rfl b3 (by rw [aaM hn];decide) (by rw [aaM hn];exact aaK) (abJ _) ?_
   intro w4 b4 k4 _
   rw [aa4 (by rw [aaM hn];rfl)] at b4
   have P4:=P3.grow k4 (λ i _ e=>e ▸ xn) (λ i hi=>⟨aEJ (P3.lt i hi) k4.size,.inl hi⟩)
   have hPP:=hP.out w4 _ (.inl ⟨hz,rfl⟩) P4 b4 (kB.step (k4.mono λ _ _ e=>.inr e))
   clear b3 P3 kB b4 k4 P4
   replace ⟨hPP,hz⟩:=yh2 hPP hz
   go_wp2
   go_end0
   exact hPP.out
  ·have hn:(rdN (T.slot q)).2=Nd.zero:=by
    rcases ac7 (T.slot q) with ⟨_,_,z⟩|⟨_,_,z⟩|⟨_,z⟩
    ·rw [z]
    ·rw [z] at hz;exact absurd rfl hz
    ·rw [z]
   exact ⟨rfl,hP.out w3 _ (adE hz) P3 (by rw [hn];exact b3) kB⟩
end
end Go.Vk
