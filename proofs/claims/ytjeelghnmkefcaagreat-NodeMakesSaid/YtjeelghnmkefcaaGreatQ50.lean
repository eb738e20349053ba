/- Part of the proof: NtM NtN NtO. -/
import Derived.Test.YtjeelghnmkefcaaGreatQ46
import Derived.Test.YtjeelghnmkefcaaGreatQ49
import Derived.Deep.Slices
import Derived.ChangeSlices
import Derived.Lib.SmallJoins
import Derived.DataShut
set_option linter.unusedVariables false
set_option maxHeartbeats 16000000
set_option maxRecDepth 100000
namespace Go.Vk
open Go.RowKit Go.Proofs
open Tryz (prog)
section
variable {w w' w0 w1 wA:World} {C:TxC} {N:RgN} {T:TS} {B:TB} {Z X:Nat->Prop} {i:Nat}
theorem Ab8.keep {d:Value} {l:List UInt8} {F:Nat->Prop} (h:Ab8 w d l) (k:AaA F w w') (hF:l≠[]->∀ g,d.ownBlock=some g->¬ F g):Ab8 w' d l:=by
 obtain ⟨p,c,e,h⟩:=h
 refine ⟨p,c,e,?_⟩
 rcases h with h|⟨g,o,rfl,hc⟩
 ·exact .inl h
 ·refine .inr ⟨g,o,rfl,λ i hi=>k.cellF (hc i hi) (hF (by rintro rfl;simp at hi) g (by rw [e];rfl))⟩
theorem arH {kd a b:Int} {n:Nd} {d:Value} {o:Bool} {f:FuncId} (hn:n.ptr.length=12) (hA:AdK w wA C N T B Z X kd a b n d o) (a0:(Instr.box 42 (opV kd a b n d o)).run prog w=.ok ↑w.heap.size wA)
  (hk:(kd=7/\f=54)∨(kd=8/\f=55)∨(kd=9/\f=55)∨(f=56/\kd≠1/\kd≠2/\kd≠3/\kd≠4/\kd≠5/\kd≠7/\kd≠8/\kd≠9))
  (hE:Calls prog f #[↑N.r,.pointer (some ⟨N.tab o,0,none⟩),opV kd a b n d o] wA (AaG (i+1) wA N.r (AaX C N Z) (Zn w wA X))) :
  Calls prog 22 #[↑N.r,opV kd a b n d o] w (AaG (i+1) w N.r (AaX C N Z) X):=by
 have hFin:∀ e w',AaG (i+1) wA N.r (AaX C N Z) (Zn w wA X) e w'->e=U ↑true/\AaG (i+1) w N.r (AaX C N Z) X e w':=λ e w' x=>⟨x.1,x.mv hA.kA⟩
 obtain ⟨c0,c1,c2,c20,c21⟩:=acV hA.bO hn
 obtain ⟨d2,d3⟩:=hA.nx.c23
 have a1:Blk wA w.heap.size (.cells (opC kd a b n d o).toArray 42 (0,0)):=hA.bO
 obtain ⟨dd,ud,a2⟩:=az4
 have hl:=ag5 hn kd a b d o
 have a3:=au9 hn kd a b d o
 unfold opV at a0 hE ⊢
 unfold RgN.tab at hE
 generalize opC kd a b n d o=oc at *
 generalize AaG (i+1) w N.r (AaX C N Z) X=Post at *
 generalize AaG (i+1) wA N.r (AaX C N Z) (Zn w wA X)=PostA at *
 clear c1 c2 c20 hA
 replace ⟨a0,hE,hFin,a1,ud,a2,hl,a3⟩:=yh8 a0 hE hFin a1 ud a2 hl a3
 go_enter Tryz.func22,Tryz.ntmps22
 go_upto_region 0 with fail
 go_step
 refine aaY rfl 42 (.tmp 1) rfl _ _ (by exact a0.out) ?_
 rcases hk with ⟨rfl,rfl⟩|⟨rfl,rfl⟩|⟨rfl,rfl⟩|⟨rfl,h1,h2,h3,h4,h5,h7,h8,h9⟩
 rotate_left 3
 have b1:((kd:Int) == 1)=false:=by simpa using h1
 have b2:((kd:Int) == 2)=false:=by simpa using h2
 have b3:((kd:Int) == 3)=false:=by simpa using h3
 have b4:((kd:Int) == 4)=false:=by simpa using h4
 have b5:((kd:Int) == 5)=false:=by simpa using h5
 have b7:((kd:Int) == 7)=false:=by simpa using h7
 have b8:((kd:Int) == 8)=false:=by simpa using h8
 have b9:((kd:Int) == 9)=false:=by simpa using h9
 all_goals cases o
 rotate_left 2
 focus (go_upto_region 26 with fail)
 rotate_left
 focus (go_upto_region 26 with fail)
 rotate_left
 iterate 4
  focus (go_upto_region 29 with fail)
  rotate_left
 iterate 2
  focus (go_upto_region 30 with fail)
  rotate_left
 all_goals
  go_step
  iterate 2
   refine aaR rfl _ _ (by go_simp;first|exact ⟨rfl,rfl⟩|rfl) ?_
   simp only [wz]
  refine aaN rfl 42 (.tmp 3) rfl w.heap.size 0 42 oc 22 dd rfl a1.out (by rw [hl.out];decide) ud.out a2.out aoS ?_
  rw [a3.out]
  simp only [wz]
  go_wp2_with fail
  refine hE.out.mono ?_
  rintro e w2 x
  obtain ⟨rfl,hQ⟩:=hFin.out _ _ x
  clear hE x hFin
  replace hQ:=hid hQ
  go_wp2
  exact hQ.out
theorem aCV (h:NX w C N T B Z X) (hs:Aa8 B T C.G) (hJ:J7 i T) (hi:i<=65537) (kd a b:Int) (ha:IntKind.i64.wrap a=a) {n:Nd} (hn:n.ptr.length=12) (d:Value) (o:Bool) (l:List UInt8) (hd:Ab8 w d l) (a1:l≠[]->∀ g,d.ownBlock=some g->¬ AaX C N Z g) :
  Calls prog 22 #[↑N.r,opV kd a b n d o] w (AaG (i+1) w N.r (AaX C N Z) X):=by
 have hA:=AdK.make h kd a b n d o
 have a0:=ad4 w kd a b n d o
 by_cases h1:kd=1
 ·subst h1;exact aAL h hs hJ a b hn d o
 by_cases h2:kd=2
 ·subst h2;exact aAK h hs hJ a b hn d o
 by_cases h3:kd=3
 ·subst h3;exact aAJ h hs hJ a b hn d o
 by_cases h4:kd=4
 ·subst h4;exact aAI h hs hJ a b ha hn d o
 by_cases h5:kd=5
 ·subst h5;exact aAH h hs hJ a b hn d o
 by_cases h7:kd=7
 ·subst h7;exact arH hn hA a0 (.inl ⟨rfl,rfl⟩) (aDK hA.nx hs hJ o 7 a b hn d o)
 by_cases h8:kd=8
 ·subst h8;exact arH hn hA a0 (.inr (.inl ⟨rfl,rfl⟩)) (azU hA.nx hs hJ hi o (.inl rfl) a b hn d o)
 by_cases h9:kd=9
 ·subst h9;exact arH hn hA a0 (.inr (.inr (.inl ⟨rfl,rfl⟩))) (azU hA.nx hs hJ hi o (.inr rfl) a b hn d o)
 exact arH hn hA a0 (.inr (.inr (.inr ⟨rfl,h1,h2,h3,h4,h5,h7,h8,h9⟩))) (aCA hA.nx hs hJ o kd a b ha hn d o l (hd.keep hA.kA (λ _ _ _ f=>f)) a1)
end
end Go.Vk
namespace Go.Vk
open Go.ChangeShapes Go.WideShapes Go.RowKit Go.Proofs
open Tryz (prog)
theorem aqL {α:Type} (p:Nat->α->Prop):∀ n,(∀ i,i<n->∃ x,p i x)->∃ l:List α,l.length=n/\∀ i (h:i<l.length),p i l[i]
 | 0,_=>⟨[],rfl,λ i h=>by cases h⟩
 | n+1,h=>by
  obtain ⟨l,h1,h2⟩:=aqL p n (λ i hi=>h i (by omega))
  obtain ⟨x,hx⟩:=h n (by omega)
  refine ⟨l++[x],by simp [h1],λ i hi=>?_⟩
  rw [aEH,h1] at hi
  by_cases e:i<n
  ·rw [List.getElem_append_left (by omega)];exact h2 i (by omega)
  ·have:i=n:=by simp at hi;omega
   subst this
   rw [List.getElem_append_right (by omega)]
   simpa [h1] using hx
theorem addA (b off i:Nat):(⟨b,off,none⟩:Addr).add i=⟨b,off+i,none⟩:=by
 unfold Addr.add
 split<;>simp_all
theorem aEE (b off i j:Nat):((⟨b,off,none⟩:Addr).add i).add j=⟨b,off+i+j,none⟩:=by
 rw [addA,addA]
theorem asF {n:Int} (h:(Lit.int .i64 n).wf=true):IntKind.i64.wrap n=n:=by
 obtain ⟨h1,h2⟩:=(Lit.wf_int_iff _ _).1 h
 have e1:IntKind.i64.min=-9223372036854775808:=by decide
 have e2:IntKind.i64.max=9223372036854775807:=by decide
 rw [e1] at h1
 rw [e2] at h2
 rw [IntKind.wrap_i64];omega
theorem au8 {H:Type} {enc:TypeId × Value->H} {W:World} {base:Nat} {spare:Nat->Bool} {held:Bool} {v:Value} {fuel:Nat} {y:DataW H × List MemPlace} (h:DataW.trod enc prog W base spare held fuel 40 [v]=some y):∃ l,Ab8 W v l:=by
 have a2:prog.cellsOf 5=1:=by kernel_rfl
 rcases open_ints Tryz.underlying40 Tryz.underlying5 a2 h with ⟨a0,_⟩|⟨a,len,cap,zs,a0,hb,hl,hm,a3,_,hx,a4⟩
 ·simp at a0
  subst a0
  exact ⟨[],none,0,rfl,.inl rfl⟩
 ·simp at a0
  subst a0
  have a1:len<=zs.length:=by rw [a3];split<;>omega
  refine ⟨(zs.take len).map λ z=>UInt8.ofNat z.toNat,some a,cap,by rw [aEU,aEM,Nat.min_eq_left a1],?_⟩
  by_cases hz:len=0
  ·left;rw [hz];rfl
  ·right
   obtain ⟨b,off,spot⟩:=a
   have h0:=hx 0 (by omega)
   have a5:spot=none:=by
    have:=World.cell?_spot h0
    simpa [Addr.add] using this
   subst a5
   refine ⟨b,off,rfl,λ i hi=>?_⟩
   rw [aEU,aEM,Nat.min_eq_left a1] at hi
   have q:=hx i (by omega)
   rw [addA] at q
   rw [q,List.getElem_map,List.getElem_take,aEL,aEG (by omega)]
   have hw:=a4 zs[i] (List.getElem_mem _)
   obtain ⟨h1,h2⟩:=(Lit.wf_int_iff _ _).1 hw
   have e1:IntKind.u8.min=0:=by decide
   have e2:IntKind.u8.max=255:=by decide
   rw [e1] at h1
   rw [e2] at h2
   show some (Value.int .u8 zs[i])=some (Value.int .u8 _)
   have:((UInt8.ofNat zs[i].toNat).toNat:Int)=zs[i]:=by
    rw [UInt8.toNat_ofNat'];omega
   rw [this]
theorem asM {H:Type} {enc:TypeId × Value->H} {P:Program} {W:World} {base:Nat} {spare:Nat->Bool} {held:Bool} {t:TypeId} {f0 f1 f2 f3 f4 f5:Field} {fuel:Nat} {cs:List Value} {y:DataW H × List MemPlace} (ht:P.underlying t=some (.struct #[f0,f1,f2,f3,f4,f5])) (h:DataW.trod enc P W base spare held fuel t cs=some y) :
  cs.length=P.cellsOf t/\∃ y0 y1 y2 y3 y4 y5 n,DataW.trod enc P W base spare held n f0.type ((cs.drop f0.offset).take (P.cellsOf f0.type))=some y0/\DataW.trod enc P W base spare held n f1.type ((cs.drop f1.offset).take (P.cellsOf f1.type))=some y1/\DataW.trod enc P W base spare held n f2.type ((cs.drop f2.offset).take (P.cellsOf f2.type))=some y2/\DataW.trod enc P W base spare held n f3.type ((cs.drop f3.offset).take (P.cellsOf f3.type))=some y3/\DataW.trod enc P W base spare held n f4.type ((cs.drop f4.offset).take (P.cellsOf f4.type))=some y4/\DataW.trod enc P W base spare held n f5.type ((cs.drop f5.offset).take (P.cellsOf f5.type))=some y5:=by
 obtain ⟨xs,n,_,_,hl,hlen,hf⟩:=DataW.trod_struct ht h
 match xs,hlen with
 | [y0,y1,y2,y3,y4,y5],_=>exact ⟨hl,y0,y1,y2,y3,y4,y5,n,hf 0 f0 rfl,hf 1 f1 rfl,hf 2 f2 rfl,hf 3 f3 rfl,hf 4 f4 rfl,hf 5 f5 rfl⟩
theorem apN {H:Type} {enc:TypeId × Value->H} {P:Program} {W:World} {base:Nat} {spare:Nat->Bool} {held:Bool} {t:TypeId} {f0 f1 f2 f3 f4 f5 f6 f7:Field} {fuel:Nat} {cs:List Value} {y:DataW H × List MemPlace} (ht:P.underlying t=some (.struct #[f0,f1,f2,f3,f4,f5,f6,f7])) (h:DataW.trod enc P W base spare held fuel t cs=some y) :
  cs.length=P.cellsOf t/\∃ y0 y1 y2 y3 y4 y5 y6 y7 n,DataW.trod enc P W base spare held n f0.type ((cs.drop f0.offset).take (P.cellsOf f0.type))=some y0/\DataW.trod enc P W base spare held n f1.type ((cs.drop f1.offset).take (P.cellsOf f1.type))=some y1/\DataW.trod enc P W base spare held n f2.type ((cs.drop f2.offset).take (P.cellsOf f2.type))=some y2/\DataW.trod enc P W base spare held n f3.type ((cs.drop f3.offset).take (P.cellsOf f3.type))=some y3/\DataW.trod enc P W base spare held n f4.type ((cs.drop f4.offset).take (P.cellsOf f4.type))=some y4/\DataW.trod enc P W base spare held n f5.type ((cs.drop f5.offset).take (P.cellsOf f5.type))=some y5/\DataW.trod enc P W base spare held n f6.type ((cs.drop f6.offset).take (P.cellsOf f6.type))=some y6/\DataW.trod enc P W base spare held n f7.type ((cs.drop f7.offset).take (P.cellsOf f7.type))=some y7:=by
 obtain ⟨xs,n,_,_,hl,hlen,hf⟩:=DataW.trod_struct ht h
 match xs,hlen with
 | [y0,y1,y2,y3,y4,y5,y6,y7],_=>exact ⟨hl,y0,y1,y2,y3,y4,y5,y6,y7,n,hf 0 f0 rfl,hf 1 f1 rfl,hf 2 f2 rfl,hf 3 f3 rfl,hf 4 f4 rfl,hf 5 f5 rfl,hf 6 f6 rfl,hf 7 f7 rfl⟩
theorem akY {cs:List Value} {j:Nat} {v:Value} (h:(cs.drop j).take 1=[v]):cs[j]? = some v:=by
 have:((cs.drop j).take 1)[0]? = some v:=by rw [h];rfl
 rw [List.getElem?_take,if_pos (by decide),List.getElem?_drop] at this
 exact this
theorem au6 {H:Type} {enc:TypeId × Value->H} {W:World} {base:Nat} {spare:Nat->Bool} {held:Bool} {fuel:Nat} {cs:List Value} {y:DataW H × List MemPlace} (h:DataW.trod enc prog W base spare held fuel 39 cs=some y):∃ n:Nd,n.ptr.length=12/\cs=ndC n:=by
 obtain ⟨hl,y0,y1,y2,y3,y4,y5,y6,y7,m,t0,t1,t2,t3,t4,t5,t6,t7⟩:=apN Tryz.underlying39 h
 have k0:prog.cellsOf 39=17:=by kernel_rfl
 have k1:prog.cellsOf 3=1:=by kernel_rfl
 have k2:prog.cellsOf 37=10:=by kernel_rfl
 rw [k0] at hl
 simp only [k1,k2] at t0 t1 t2 t3 t4 t5 t6 t7
 obtain ⟨x0,g0,_⟩:=DataW.trod_int Tryz.underlying3 t0
 obtain ⟨x1,g1,_⟩:=DataW.trod_int Tryz.underlying3 t1
 obtain ⟨x2,g2,_⟩:=DataW.trod_int Tryz.underlying3 t2
 obtain ⟨x3,g3,_⟩:=DataW.trod_int Tryz.underlying3 t3
 obtain ⟨x4,g4,_⟩:=DataW.trod_int Tryz.underlying3 t4
 obtain ⟨x6,g6,_⟩:=DataW.trod_int Tryz.underlying3 t6
 obtain ⟨x7,g7,_⟩:=DataW.trod_int Tryz.underlying3 t7
 obtain ⟨xs,q,_,_,_,a2,hx⟩:=DataW.trod_array Tryz.underlying37 t5
 have hA:∀ i,i<10->∃ x,cs[5+i]? = some (I x):=λ i hi=>by
  have h1:=hx i hi
  rw [k1,aEG (by omega)] at h1
  obtain ⟨x,g,_⟩:=DataW.trod_int Tryz.underlying3 h1
  have:=akY g
  rw [List.getElem?_take,if_pos (by omega),List.getElem?_drop,Nat.mul_one] at this
  exact ⟨x,this⟩
 have a0:∀ i,i<17->∃ x:Int,cs[i]? = some (I x):=λ i hi=>by
  by_cases h5:5<=i/\i<15
  ·obtain ⟨x,e⟩:=hA (i - 5) (by omega)
   rw [show 5+(i - 5)=i by omega] at e
   exact ⟨x,e⟩
  ·have:i=0∨i=1∨i=2∨i=3∨i=4∨i=15∨i=16:=by omega
   rcases this with rfl|rfl|rfl|rfl|rfl|rfl|rfl
   ·exact ⟨_,akY g0⟩
   ·exact ⟨_,akY g1⟩
   ·exact ⟨_,akY g2⟩
   ·exact ⟨_,akY g3⟩
   ·exact ⟨_,akY g4⟩
   ·exact ⟨_,akY g6⟩
   ·exact ⟨_,akY g7⟩
 obtain ⟨L,hL,a1⟩:=aqL (λ i (x:Int)=>cs[i]? = some (I x)) 17 a0
 have e:cs=L.map (.int .i64):=by
  refine List.ext_getElem? λ i=>?_
  by_cases hi:i<17
  ·rw [a1 i (by omega),aEZ,aEG (by omega)];rfl
  ·rw [List.getElem?_eq_none (by omega),List.getElem?_eq_none (by rw [aEU];omega)]
 match L,hL with
 | a :: b :: c :: d :: f :: R,hL=>
  refine ⟨⟨a,b,c,d,f,R⟩,?_,e⟩
  simp only [List.length_cons] at hL
  show R.length=12
  omega
structure OpR where
 k:Int
 a:Int
 b:Int
 n:Nd
 d:Value
 o:Bool
 l:List UInt8
def OpR.c (x:OpR):List Value:=opC x.k x.a x.b x.n x.d x.o
structure OpOk (w:World) (x:OpR):Prop where
 n:x.n.ptr.length=12
 a:IntKind.i64.wrap x.a=x.a
 d:Ab8 w x.d x.l
theorem aA5 {H:Type} {enc:TypeId × Value->H} {W:World} {base:Nat} {spare:Nat->Bool} {held:Bool} {fuel:Nat} {cs:List Value} {y:DataW H × List MemPlace} (h:DataW.trod enc prog W base spare held fuel 42 cs=some y):∃ x:OpR,cs=x.c/\OpOk W x:=by
 obtain ⟨hl,y0,y1,y2,y3,y4,y5,m,t0,t1,t2,t3,t4,t5⟩:=asM Tryz.underlying42 h
 have k0:prog.cellsOf 42=22:=by kernel_rfl
 have k1:prog.cellsOf 3=1:=by kernel_rfl
 have k2:prog.cellsOf 39=17:=by kernel_rfl
 have k3:prog.cellsOf 40=1:=by kernel_rfl
 have k4:prog.cellsOf 4=1:=by kernel_rfl
 rw [k0] at hl
 match cs,hl with
 | c0 :: c1 :: c2 :: R,hl=>
  simp only [List.length_cons] at hl
  simp only [k1,k2,k3,k4,aER,List.take_succ_cons,List.take_zero,List.drop_succ_cons] at t0 t1 t2 t3 t4 t5
  obtain ⟨x0,g0,_⟩:=DataW.trod_int Tryz.underlying3 t0
  obtain ⟨x1,g1,_,f1⟩:=DataW.trod_int Tryz.underlying3 t1
  obtain ⟨x2,g2,_⟩:=DataW.trod_int Tryz.underlying3 t2
  obtain ⟨n,hn,e3⟩:=au6 t3
  have hd:(R.drop 17).length=2:=by rw [aET];omega
  have hs:R=R.take 17++R.drop 17:=(List.take_append_drop 17 R).symm
  have a0:R.drop 18=(R.drop 17).drop 1:=by rw [List.drop_drop]
  rw [a0] at t5
  generalize R.drop 17=Q at *
  match Q,hd with
  | [q0,q1],_=>
   simp only [List.take_succ_cons,List.take_zero,List.drop_succ_cons,aER] at t4 t5
   obtain ⟨l,a1⟩:=au8 t4
   obtain ⟨o,g5,_⟩:=DataW.trod_bool Tryz.underlying4 t5
   simp only [List.cons.injEq,and_true] at g0 g1 g2 g5
   subst g0 g1 g2 g5
   refine ⟨⟨x0,x1,x2,n,q0,o,l⟩,?_,hn,asF f1,a1⟩
   rw [hs,e3]
   simp [OpR.c,opC]
def AnQ (w:World) (v:Value) (ss:List OpR):Prop:=
 ∃ a cap,v=.slice a ss.length cap/\(ss=[]∨∃ g o,a=some ⟨g,o,none⟩/\∀ i (h:i<ss.length),(∀ j,j<22->w.cell? ⟨g,o+i*22+j,none⟩=ss[i].c[j]?)/\OpOk w ss[i])
theorem ax7 {H:Type} {enc:TypeId × Value->H} {W:World} {base b0:Nat} {r:Reach} {spare:Nat->Bool} {held:Bool} {v:Value} {d:DataW H} {ps:List MemPlace} (a3:Value.okWide prog W r b0 24 v) (h:DataW.Trod enc prog W base spare held 24 v d ps) :
  ∃ ss,AnQ W v ss:=by
 obtain ⟨a0,len,cap,rfl⟩:=okWide_slice Tryz.underlying24 a3
 obtain ⟨fuel,hf⟩:=h
 have a6:prog.cellsOf 42=22:=by kernel_rfl
 rcases Go.Deep.open_slice Tryz.underlying24 hf with ⟨a1,_⟩|⟨a,len',cap',m,n,D,Pl,a1,hb,hl,hm,a7,_,hx⟩
 ·simp [Value.cells] at a1
  obtain ⟨rfl,rfl,rfl⟩:=a1
  exact ⟨[],none,0,rfl,.inl rfl⟩
 ·simp [Value.cells] at a1
  obtain ⟨rfl,rfl,rfl⟩:=a1
  rw [a6] at hx
  have ab:len<=m:=by rw [a7];split<;>omega
  have a4:∀ i,i<len->∃ x:OpR,(∀ j,j<22->W.cell? ((a.add (i*22)).add j)=x.c[j]?)/\OpOk W x:=by
   intro i hi
   obtain ⟨cs',h1,h2⟩:=hx i (by omega)
   obtain ⟨_,ac,a2⟩:=World.cells?_some h1
   obtain ⟨x,e,a8⟩:=aA5 h2
   exact ⟨x,λ j hj=>by rw [a2 j hj,e],a8⟩
  obtain ⟨ss,a9,a5⟩:=aqL _ len a4
  refine ⟨ss,some a,cap,by rw [a9],?_⟩
  by_cases hz:len=0
  ·left;exact List.eq_nil_of_length_eq_zero (by omega)
  ·right
   obtain ⟨b,off,spot⟩:=a
   have h0:=(a5 0 (by omega)).1 0 (by decide)
   have aa:spot=none:=by
    have:=World.cell?_spot (h0.trans (show _=some _ from rfl))
    simpa [Addr.add] using this
   subst aa
   refine ⟨b,off,rfl,λ i hi=>?_⟩
   obtain ⟨q0,q1⟩:=a5 i hi
   exact ⟨λ j hj=>by rw [← aEE];exact q0 j hj,q1⟩
end Go.Vk
namespace Go.Vk
open Go.RowKit Go.Proofs
open Tryz (prog)
section
variable {w0 w w' w1:World} {r i:Nat} {F X:Nat->Prop} {e:Ending}
theorem Ab8.own_lt {w:World} {v:Value} {l:List UInt8} (h:Ab8 w v l) (hl:l≠[]) (g:Nat) (hg:v.ownBlock=some g):g<w.heap.size:=by
 obtain ⟨a,cap,rfl,hx⟩:=h
 rcases hx with hx|⟨g',o,rfl,hx⟩
 ·exact absurd hx hl
 ·have h0:=hx 0 (List.length_pos_iff.2 hl)
  have:g'=g:=by simpa [Value.ownBlock] using hg
  subst this
  exact World.block_lt_of_cell? w _ h0
theorem AmV.quiet (h:AmV i w r F X) (k:AaA NoF w w'):AmV i w' r F X:=by
 obtain ⟨C,N,T,B,Z,h1,h2,h3,h4,h5⟩:=h
 exact ⟨C,N,T,B,Z,h1,h2.calm k,h3,h4,h5⟩
theorem AmV.c10 (h:AmV i w r F X):w.cell? ⟨r,10,none⟩=some ↑true:=by
 obtain ⟨C,N,T,B,Z,rfl,h2,_⟩:=h
 exact h2.c10
theorem AmV.step (h:AmV i w r F X) (hi:i<=65537) (x:OpR) (hx:OpOk w x) (hF:x.l≠[]->∀ g,x.d.ownBlock=some g->¬ F g) :
  Calls prog 22 #[↑r,.agg x.c.toArray] w (AaG (i+1) w r F X):=by
 obtain ⟨C,N,T,B,Z,rfl,h2,h3,h4,rfl⟩:=h
 exact aCV h2 h3 h4 hi x.k x.a x.b hx.a hx.n x.d x.o x.l hx.d hF
def AjW (w0:World) (r i:Nat) (w:World):Prop:=∃ F X,AmV i w r F X/\(∀ j,F j->w0.heap.size<=j)/\AaA NoF w0 w
theorem AjW.quiet (h:AjW w0 r i w) (k:AaA NoF w w'):AjW w0 r i w':=by
 obtain ⟨F,X,h1,h2,h3⟩:=h
 exact ⟨F,X,h1.quiet k,h2,h3.step k⟩
theorem AjW.keeps (h:AjW w0 r i w):AaA NoF w0 w:=by
 obtain ⟨F,X,h1,h2,h3⟩:=h
 exact h3
theorem OpOk.keep {x:OpR} (h:OpOk w x) (k:AaA NoF w w'):OpOk w' x:=⟨h.n,h.a,h.d.keeps k (λ _ _ f=>f)⟩
theorem AjW.step (h:AjW w0 r i w) (hi:i<=65537) (x:OpR) (hx:OpOk w0 x) :
  Calls prog 22 #[↑r,.agg x.c.toArray] w λ e w'=>e=U ↑true/\w'.cell? ⟨r,10,none⟩=some ↑true/\AjW w0 r (i+1) w':=by
 obtain ⟨F,X,h1,h2,h3⟩:=h
 refine (h1.step hi x (hx.keep h3) (λ hl g e f=>by have:=hx.d.own_lt hl g e;have:=h2 g f;omega)).mono ?_
 rintro e w' ⟨rfl,F',X',s1,s2,s3,s4⟩
 have z3:=h3.size
 exact ⟨rfl,s1.c10,F',X',s1,λ j hj=>(s3 j hj).elim (h2 j) (λ x=>by omega),h3.trans s2 (λ j hj f=>by have:=h2 j f;omega)⟩
end
theorem aA7 {n:Nd} (k a b:Int) (d:Value) (o:Bool) (hd:d.oneCell'=true):∀ v∈opC k a b n d o,v.oneCell'=true:=by
 intro v hv
 simp only [opC,List.mem_append,List.mem_cons,List.not_mem_nil,or_false] at hv
 rcases hv with ((rfl|rfl|rfl)|hv)|rfl|rfl
 ·rfl
 ·rfl
 ·rfl
 ·exact abJ n v hv
 ·exact hd
 ·rfl
theorem OpOk.one {w:World} {x:OpR} (h:OpOk w x):∀ v∈x.c,v.oneCell'=true:=by
 obtain ⟨a,c,e,_⟩:=h.d
 exact aA7 _ _ _ _ _ (by rw [e];rfl)
def opZ:List Value:=opC 0 0 0 Nd.zero (.slice none 0 0) false
theorem aA6:opZ.length=22:=by kernel_rfl
theorem ay8 (w:World):(Instr.alloc 42 true (.tuple #[])).run prog w=.ok ↑w.heap.size (w.alloc (.cells opZ.toArray 42 (0,0))):=by kernel_rfl
theorem AnQ.keeps {w w':World} {v:Value} {ss:List OpR} (h:AnQ w v ss) (k:AaA NoF w w'):AnQ w' v ss:=by
 obtain ⟨a,cap,e,hx⟩:=h
 refine ⟨a,cap,e,hx.imp id ?_⟩
 rintro ⟨g,o,rfl,hc⟩
 refine ⟨g,o,rfl,λ i hi=>?_⟩
 obtain ⟨q0,q1⟩:=hc i hi
 refine ⟨λ j hj=>?_,q1.keep k⟩
 have hl:ss[i].c.length=22:=ag5 q1.n _ _ _ _ _
 have:=q0 j hj
 rw [aEG (by omega)] at this ⊢
 exact k.cellF this (λ f=>f)
def AnL (w:World) (e:Ending) (w':World):Prop:=e=U ↑true/\AaA NoF w w'
theorem ax2 (w:World) (a b c:Int) (va:Value) (ss:List OpR) (ac:AnQ w va ss) (k1 k2:Int) :
  Calls prog 20 #[.agg #[I a,I b,I c],va,I k1,I k2] w (AnL w):=by
 have hR:=λ w=>aC1 w a b c
 have kA:AaA NoF w (w.alloc (.cells #[I a,I b,I c] 23 (0,0))):=(AaA.refl _ w).alloc _
 obtain ⟨aA,cA,rfl,a3⟩:=ac
 obtain ⟨n,hn⟩:∃ n,ss.length=n:=⟨_,rfl⟩
 rw [hn]
 have a0:∀ w',AaA NoF w w'->AnL w (U ↑true) w':=λ w' k=>⟨rfl,k⟩
 generalize hPost:AnL w=Post at *
 obtain ⟨dd,ud,a4⟩:=az4
 by_cases hM:n<=65536
 ·have ad:¬ (n:Int) > 65536:=by omega
  replace ⟨hR,kA,a3,hn,a0,hPost,ud,a4⟩:=yh8 hR kA a3 hn a0 hPost ud a4
  go_enter Tryz.func20,Tryz.ntmps20
  go_upto_region 3 with fail
  go_wp2_with fail
  refine (hR.out _).mono ?_
  rintro e w1 ⟨r,F,X,rfl,c10,hS,hF,hX,k1⟩
  have hP0:AjW w r 0 w1:=⟨F,X,hS,λ j hj=>aE4 kA.out.size (hF j hj),kA.out.step k1⟩
  clear hR hS hF hX k1 kA
  replace hP0:=hid hP0
  go_wp2_with fail
  go_loopw [10] (λ v W=>∃ k:Nat,k<=n/\v=I k/\AjW w r k W) (λ v _=>n - (RowKit.intOf v).toNat)
  case atStart=>exact ⟨0,by omega,rfl,hP0.out⟩
  case round=>
   obtain ⟨k,hk1,rfl,hDu⟩:=hrel
   clear hP0
   replace hDu:=hid hDu
   by_cases ae:k<n
   ·have af:(k:Int)<n:=by omega
    rcases a3.out with hx|⟨g,o,rfl,a9⟩
    ·exfalso
     have hn':=hn.out
     rw [hx] at hn'
     simp at hn'
     omega
    have hkl':k<ss.length:=by rw [hn.out];exact ae
    obtain ⟨q0,q1⟩:=a9 k hkl'
    clear a9 a3
    generalize ss[k]=s at *
    have aa:∀ W,AaA NoF w W->W.rangeAt g (o+k*22) s.c:=λ W kW j v hv=>by
     have hj:j<22:=by
      have:=(List.getElem?_eq_some_iff.1 hv).1
      have e:s.c.length=22:=ag5 q1.n _ _ _ _ _
      omega
     exact kW.cellF ((q0 j hj).trans hv) (λ f=>f)
    have a2:s.c.length=22:=ag5 q1.n _ _ _ _ _
    have a7:=q1.one
    have hst:∀ W,AjW w r k W->Calls prog 22 #[↑r,.agg s.c.toArray] W λ e w'=>e=U ↑true/\w'.cell? ⟨r,10,none⟩=some ↑true/\AjW w r (k+1) w':=λ W hW=>hW.step (by omega) s q1
    have a1:=aa wr hDu.out.keeps
    have a8:(s.c.drop 0).take 22=s.c:=by rw [aER,aEO (by omega)]
    have a5:=aA6
    have hfin:∀ W,AjW w r (k+1) W->∃ k':Nat,k'<=n/\Value.int .i64 ((k:Int)+1)=I k'/\AjW w r k' W:=λ W h=>⟨k+1,by omega,by go_num,h⟩
    clear q0 q1 aa
    generalize s.c=oc at *
    replace ⟨a1,a2,a7,hst,a8,a5,hfin⟩:=yh7 a1 a2 a7 hst a8 a5 hfin
    go_upto_region 9 with fail
    go_step
    iterate 3
     refine aaR rfl _ _ (by go_simp;first|exact ⟨rfl,rfl⟩|rfl) ?_
     simp only [wz]
    refine wpList_load_mid rfl 42 (.tmp 31) rfl g (o+k*22) rfl oc dd a1.out ud.out a4.out (by rw [a2.out];exact aoS) ?_
    simp only [wz]
    refine aa0 rfl _ rfl _ _ (ay8 _) ?_
    simp only [wz]
    refine aaL rfl 42 (.tmp 11) (.tmp 32) rfl wr.heap.size 0 42 opZ oc rfl rfl (Blk.new _ _) (by rw [a2.out,a5.out];decide) (by rw [a2.out];exact aoS) a7.out ?_
    intro w6 b6 k6 ag
    rw [aa4 (by rw [a2.out,a5.out])] at b6
    clear ag
    have kz:AaA NoF wr w6:=((AaA.refl NoF wr).alloc _).fresh k6 (λ i e=>by omega)
    have ab:=hDu.out.quiet kz
    have a6:=hst.out _ ab
    clear hst hDu k6 kz a1
    replace ⟨b6,a6⟩:=yh2 b6 a6;clear ab
    go_upto_region 10 with fail
    go_step
    iterate 1
     refine aaR rfl _ _ (by go_simp;first|exact ⟨rfl,rfl⟩|rfl) ?_
     simp only [wz]
    refine aaN rfl 42 (.tmp 11) rfl wr.heap.size 0 42 oc 22 dd rfl b6.out (by rw [a2.out];decide) ud.out a4.out aoS ?_
    rw [a8.out]
    simp only [wz]
    go_wp2_with fail
    refine a6.out.mono ?_
    rintro e w7 ⟨rfl,c7,hD7⟩
    clear a6 b6
    replace hD7:=hid hD7
    go_wp2
    exact ⟨hfin.out _ hD7.out,by simp [RowKit.intOf];omega⟩
   ·have af:¬ (k:Int)<n:=by omega
    go_wp2
    exact a0.out _ hDu.out.keeps
 ·have ad:(n:Int) > 65536:=by omega
  replace ⟨kA,hn,a0⟩:=yh3 kA hn a0;clear hR a3 hPost ud a4
  go_enter Tryz.func20,Tryz.ntmps20
  go_wp2
  exact a0.out _ kA.out
end Go.Vk
