/- Part of the proof: NtB NtC Nt2 NtE. -/
import Derived.Test.YtjeelghnmkefcaaGreatQ02
import Derived.Test.YtjeelghnmkefcaaGreatQ22
import Derived.Test.YtjeelghnmkefcaaGreatQ41
import Derived.Test.YtjeelghnmkefcaaGreatQ45
set_option linter.unusedVariables false
set_option maxHeartbeats 16000000
set_option maxRecDepth 100000
namespace Go.Vk
open Go.RowKit Go.Proofs
open Tryz (prog)
section
variable {w:World} {C:TxC} {N:RgN} {T:TS} {B:TB} {Z X:Nat->Prop} {i:Nat}
structure AdK (w wA:World) (C:TxC) (N:RgN) (T:TS) (B:TB) (Z X:Nat->Prop) (k a b:Int) (n:Nd) (d:Value) (o:Bool):Prop where
 nx:NX wA C N T B Z (Zn w wA X)
 bO:Blk wA w.heap.size (opO k a b n d o)
 kA:AaA NoF w wA
 nK:¬ KF C w.heap.size
 nZ:¬ Z w.heap.size
 rK:¬ KF C N.r
 rZ:¬ Z N.r
theorem AdK.make (h:NX w C N T B Z X) (k a b:Int) (n:Nd) (d:Value) (o:Bool):AdK w (w.alloc (opO k a b n d o)) C N T B Z X k a b n d o:=by
 have kA:=(AaA.refl NoF w).alloc (opO k a b n d o)
 have hA:=h.other kA (λ _ _ f=>f.elim)
 have bO:=Blk.new w (opO k a b n d o)
 exact ⟨hA,bO,kA,hA.pl.notF (.inr ⟨aEK _,bO.lt⟩),λ z=>by have:=h.pl.lt _ (h.zX _ z);omega,hA.pl.notF (.inl h.bR.2.1),h.bR.2.2⟩
theorem NX.put_le (h:NX w C N T B Z X) (hs:Aa8 B T C.G):B.R.put.length<=16/\B.R.nodes<=1024/\(T.raw 1).length=512/\B.R.nowN=aaZ (T.raw 1):=by
 obtain ⟨M,_,hM⟩:=h.pl.rep
 have hg:=h.pl.geo
 exact ⟨by rw [hs.n.put];exact hM.le,by rw [hs.n.nodes];exact hg.n2,h.pl.len 1 (by have:=hg.b1;omega),hs.n.nn⟩
theorem aAI (h:NX w C N T B Z X) (hs:Aa8 B T C.G) (hJ:J7 i T) (a b:Int) (ha:IntKind.i64.wrap a=a) {n:Nd} (hn:n.ptr.length=12) (d:Value) (o:Bool) :
  Calls prog 22 #[↑N.r,opV 4 a b n d o] w (AaG (i+1) w N.r (AaX C N Z) X):=by
 have hA:=AdK.make h 4 a b n d o
 have a1:=ad4 w 4 a b n d o
 obtain ⟨p1,p2,p3,p4⟩:=h.put_le hs
 have hg:=h.pl.geo
 obtain ⟨q1,q2⟩:=hs.free a p3 (by have:=hg.n2;omega) h.len
 generalize w.alloc (opO 4 a b n d o)=wA at *
 have hN:=hA.nx.node o
 have hPr:=hA.nx.pair hJ (T.free_like C.G a) q2 (v2:=I ((T.free C.G a).1:Nat)) (a2:=#[↑N.tb,I a]) (f2:=53) ((aBD hN a).mono λ e w1 x=>⟨x.1,x.2.1.pl,x.2.2⟩)
  (λ w1 t l=>by
   have:=aAB t p1 p2 (T.raw 1) p4 p3 a ha
   unfold AjT at this
   rw [q1] at this
   exact this)
 obtain ⟨c0,c1,c2,c20,c21⟩:=acV hA.bO hn
 obtain ⟨d2,d3⟩:=hA.nx.c23
 have d4:=hA.nx.c4
 have hFin:∀ w',AaG (i+1) wA N.r (AaX C N Z) (Zn w wA X) (U ↑true) w'->AaG (i+1) w N.r (AaX C N Z) X (U ↑true) w':=λ w' x=>x.mv hA.kA
 have hlen:=ag5 hn 4 a b d o
 generalize AaG (i+1) w N.r (AaX C N Z) X=Post at *
 generalize AaG (i+1) wA N.r (AaX C N Z) (Zn w wA X)=PostA at *
 unfold RgN.tab at hPr
 unfold opV at a1 ⊢
 generalize (T.free C.G a).1=v at *
 clear hN
 replace ⟨hA,a1,hPr,hFin⟩:=yh4 hA a1 hPr hFin;clear hlen h hs hJ hg q1 q2 p1 p2 p3 p4
 go_enter Tryz.func22,Tryz.ntmps22
 go_upto_region 0 with fail
 go_step
 refine aaY rfl 42 (.tmp 1) rfl _ _ (by exact a1.out) ?_
 cases o
 all_goals
  go_wp2_with fail
  refine hPr.out.mono ?_
  rintro e w1 ⟨rfl,k1,hD⟩
  have f4:w1.drew.cell? ⟨N.r,4,none⟩=some ↑N.tb:=k1.cellF d4 hA.out.rK
  have f1:w1.drew.cell? ⟨w.heap.size,1,none⟩=some (I a):=k1.cellF c1 hA.out.nK
  have hD2:=hD _ ((AaA.refl NoF w1).drew)
  have a0:∀ w2,AaA Z w1.drew w2->w2.cell? ⟨N.r,4,none⟩=some ↑N.tb/\w2.cell? ⟨w.heap.size,1,none⟩=some (I a):=λ w2 kk=>⟨kk.cellF (w:=w1.drew) f4 hA.out.rZ,kk.cellF (w:=w1.drew) f1 hA.out.nZ⟩
  clear hPr c0 c1 c2 c20 c21 d2 d3 d4
  replace ⟨hD2,a0⟩:=yh2 hD2 a0;clear k1 hD
  go_upto_region 19 with fail
  go_region_held3 (λ W=>W.cell? ⟨N.r,4,none⟩=some ↑N.tb/\W.cell? ⟨w.heap.size,1,none⟩=some (I a)) (first|with_reducible exact ⟨f4,f1⟩|with_reducible exact x7) (first
   | (go_at_call 53;refine hD2.out.mono ?_;rintro e w2 ⟨rfl,k2,hE⟩;have x7:=a0.out w2 k2;replace hE:=hid (hFin.out _ (hE w2 (AaA.refl _ w2)));clear k2))
  go_wp2
  exact hE.out
theorem aAL (h:NX w C N T B Z X) (hs:Aa8 B T C.G) (hJ:J7 i T) (a b:Int) {n:Nd} (hn:n.ptr.length=12) (d:Value) (o:Bool) :
  Calls prog 22 #[↑N.r,opV 1 a b n d o] w (AaG (i+1) w N.r (AaX C N Z) X):=by
 have hA:=AdK.make h 1 a b n d o
 have a1:=ad4 w 1 a b n d o
 obtain ⟨p1,p2,p3,p4⟩:=h.put_le hs
 have hg:=h.pl.geo
 obtain ⟨q1,q2⟩:=hs.make a b p3 (by have:=hg.n2;omega) (aeJ _ (ahT a b)) h.len
 generalize w.alloc (opO 1 a b n d o)=wA at *
 have hN:=hA.nx.node o
 have hPr:=hA.nx.pair hJ (T.make_like C.G a b) q2 (v2:=.tuple #[I ((T.make C.G a b).1.1:Nat),I ((T.make C.G a b).1.2:Nat)]) (a2:=#[↑N.tb,I a,I b]) (f2:=50) ((aA9 hN a b).mono λ e w1 x=>⟨x.1,x.2.1.pl,x.2.2⟩)
  (λ w1 t l=>by
   have:=az9 t p1 p2 (T.raw 1) p4 p3 a b
   unfold AwY at this
   rw [q1] at this
   exact this)
 obtain ⟨c0,c1,c2,c20,c21⟩:=acV hA.bO hn
 obtain ⟨d2,d3⟩:=hA.nx.c23
 have d4:=hA.nx.c4
 have hFin:∀ w',AaG (i+1) wA N.r (AaX C N Z) (Zn w wA X) (U ↑true) w'->AaG (i+1) w N.r (AaX C N Z) X (U ↑true) w':=λ w' x=>x.mv hA.kA
 have hlen:=ag5 hn 1 a b d o
 generalize AaG (i+1) w N.r (AaX C N Z) X=Post at *
 generalize AaG (i+1) wA N.r (AaX C N Z) (Zn w wA X)=PostA at *
 unfold RgN.tab at hPr
 unfold opV at a1 ⊢
 generalize (T.make C.G a b).1=v at *
 obtain ⟨v,v'⟩:=v
 dsimp only at hPr
 clear hN
 replace ⟨hA,a1,hPr,hFin⟩:=yh4 hA a1 hPr hFin;clear hlen h hs hJ hg q1 q2 p1 p2 p3 p4
 go_enter Tryz.func22,Tryz.ntmps22
 go_upto_region 0 with fail
 go_step
 refine aaY rfl 42 (.tmp 1) rfl _ _ (by exact a1.out) ?_
 cases o
 all_goals
  go_wp2_with fail
  refine hPr.out.mono ?_
  rintro e w1 ⟨rfl,k1,hD⟩
  have f4:w1.drew.cell? ⟨N.r,4,none⟩=some ↑N.tb:=k1.cellF d4 hA.out.rK
  have f1:w1.drew.cell? ⟨w.heap.size,1,none⟩=some (I a):=k1.cellF c1 hA.out.nK
  have hD2:=hD _ ((AaA.refl NoF w1).drew)
  have f2:w1.drew.cell? ⟨w.heap.size,2,none⟩=some (I b):=k1.cellF c2 hA.out.nK
  have a0:∀ w2,AaA Z w1.drew w2->w2.cell? ⟨N.r,4,none⟩=some ↑N.tb/\w2.cell? ⟨w.heap.size,1,none⟩=some (I a)/\w2.cell? ⟨w.heap.size,2,none⟩=some (I b):=λ w2 kk=>⟨kk.cellF (w:=w1.drew) f4 hA.out.rZ,kk.cellF (w:=w1.drew) f1 hA.out.nZ,kk.cellF (w:=w1.drew) f2 hA.out.nZ⟩
  clear hPr c0 c1 c2 c20 c21 d2 d3 d4
  replace ⟨hD2,a0⟩:=yh2 hD2 a0;clear k1 hD
  go_upto_region 7 with fail
  go_region_held3 (λ W=>W.cell? ⟨N.r,4,none⟩=some ↑N.tb/\W.cell? ⟨w.heap.size,1,none⟩=some (I a)/\W.cell? ⟨w.heap.size,2,none⟩=some (I b)) (first|with_reducible exact ⟨f4,f1,f2⟩|with_reducible exact x7) (first
   | (go_at_call 50;refine hD2.out.mono ?_;rintro e w2 ⟨rfl,k2,hE⟩;have x7:=a0.out w2 k2;replace hE:=hid (hFin.out _ (hE w2 (AaA.refl _ w2)));clear k2))
  go_wp2
  exact hE.out
end
theorem aoJ {P:Program} {op:Oper} {a:Act} {w:World} {K:Act->World->Prop} {Q:Exit->Act->World->Prop} (t:TypeId) (ho:op.op=.alloc t) (v:Value) (w':World)
  (hr:(Instr.alloc t true (.tuple #[])).run P w=.ok v w') (h:K (a.put op.dst v) w'):op.wp P a w K Q:=by
 unfold Oper.wp
 simp only [execOp,ho,Sem.run_bind,hr,Result.andThen_ok,Sem.run_pure]
 exact h
section
variable {w w1:World} {C:TxC} {N:RgN} {T T':TS} {B B':TB} {Z X:Nat->Prop} {i:Nat}
theorem NX.hr_lt (h:NX w C N T B Z X):N.r<w.heap.size:=h.bR.1.lt
theorem NX.pairB (h:NX w C N T B Z X) (hJ:J7 i T) {f1 f2:FuncId} {a1 a2:Array Value} {v1 v2:Value} (hL:T.Like T') (hs:Aa8 B' T' C.G)
  (h1:Calls prog f1 a1 w λ e w1=>e=.returned v1/\Aa6 w1 C T' X/\AaA (KF C) w w1)
  (h2:∀ w1,Aa3 w1 N.tb N.m B Z->(∀ i,Z i->i<w1.heap.size)->Calls prog f2 a2 w1 λ e w2=>e=.returned v2/\AaS w1 w2 N.tb N.m B' Z) :
  Calls prog f1 a1 w λ e w1=>e=.returned v1/\AaA (KF C) w w1/\∀ w1',AaA NoF w1 w1'->Calls prog f2 a2 w1' λ e w2=>e=.returned v2/\AaA Z w1' w2 /\
   (∀ w',AaA NoF w2 w'->AaG (i+1) w N.r (AaX C N Z) X (U ↑true) w') /\
   ∀ w' nb,w1.heap.size<=nb->nb<w1'.heap.size->AaA (· = nb) w2 w'->AaG (i+1) w N.r (AaX C N Z) X (U ↑true) w':=by
 refine h1.mono ?_
 rintro e w1 ⟨rfl,p1,k1⟩
 refine ⟨rfl,k1,λ w1' k1'=>?_⟩
 have a0:=h.pool k1 p1 hL
 have hp:=a0.calm k1'
 refine (h2 w1' hp.ref (λ i hi=>hp.pl.lt i (hp.zX i hi))).mono ?_
 rintro e w2 ⟨rfl,s2⟩
 refine ⟨rfl,s2.k,λ w' k'=>h.two hJ (k1.step (k1'.mono λ _ _ f=>f.elim)) hp.pl hL s2 k' hs,λ w' nb n1 n2 k'=>?_⟩
 exact h.two hJ k1 p1 hL (AaS.own k1' s2 k' (λ z=>by have:=a0.pl.lt nb (a0.zX nb z);omega) n1 n2) (AaA.refl _ w') hs
theorem aAK (h:NX w C N T B Z X) (hs:Aa8 B T C.G) (hJ:J7 i T) (a b:Int) {n:Nd} (hn:n.ptr.length=12) (d:Value) (o:Bool) :
  Calls prog 22 #[↑N.r,opV 2 a b n d o] w (AaG (i+1) w N.r (AaX C N Z) X):=by
 have hA:=AdK.make h 2 a b n d o
 have a3:=ad4 w 2 a b n d o
 obtain ⟨p1,p2,p3,p4⟩:=h.put_le hs
 obtain ⟨q1,q2⟩:=hs.load a
 generalize w.alloc (opO 2 a b n d o)=wA at *
 have hN:=hA.nx.node o
 have a1:=arW (T:=T) C.G a
 have hPr:=hA.nx.pairB hJ (T.load_like C.G a) q2 (v2:=.tuple #[ndV (T.load C.G a).1.1,I ((T.load C.G a).1.2:Nat)]) (a2:=#[↑N.tb,I a]) (f2:=51) ((aBA hN a).mono λ e w1 x=>⟨x.1,x.2.1.pl,x.2.2⟩)
  (λ w1 t l=>by
   have:=aAA t l p2 a
   unfold AtP at this
   rw [q1] at this
   exact this)
 obtain ⟨c0,c1,c2,c20,c21⟩:=acV hA.bO hn
 obtain ⟨d2,d3⟩:=hA.nx.c23
 have d4:=hA.nx.c4
 have hFin:∀ w',AaG (i+1) wA N.r (AaX C N Z) (Zn w wA X) (U ↑true) w'->AaG (i+1) w N.r (AaX C N Z) X (U ↑true) w':=λ w' x=>x.mv hA.kA
 have a5:∀ j,Z j->j<wA.heap.size:=λ j z=>aEJ (h.pl.lt j (h.zX j z)) hA.kA.size
 generalize AaG (i+1) w N.r (AaX C N Z) X=Post at *
 generalize AaG (i+1) wA N.r (AaX C N Z) (Zn w wA X)=PostA at *
 unfold RgN.tab at hPr
 unfold opV at a3 ⊢
 generalize (T.load C.G a).1=v at *
 obtain ⟨nd,v⟩:=v
 dsimp only at hPr a1
 have hq:∀ w,(binOp .eql 39 (.agg (ndC nd).toArray) (.agg (ndC nd).toArray)).run prog w=.ok ↑true w:=λ w=>by
  have:=arT w a1 (b:=nd) a1
  rw [decide_eq_true rfl] at this
  exact this
 have hg:=ajG
 obtain ⟨dd,ud,hd⟩:=acJ
 have a4:=abR a1
 have a0:=aaM a1
 clear hN
 replace ⟨hA,a3,hPr,hFin,h,ud,hd,a4⟩:=yh8 hA a3 hPr hFin h ud hd a4;replace ⟨a0,a5⟩:=yh2 a0 a5;clear hs hJ q1 q2 p1 p2 p3 p4 a1
 go_enter Tryz.func22,Tryz.ntmps22
 go_upto_region 0 with fail
 go_step
 refine aaY rfl 42 (.tmp 1) rfl _ _ (by exact a3.out) ?_
 cases o
 all_goals
  go_wp2_with fail
  refine hPr.out.mono ?_
  rintro e w1 ⟨rfl,k1,hD⟩
  have aa:=k1.size
  go_upto_region 11 with (first
   | (refine aa0 rfl _ rfl _ _ (abI _) ?_;simp only [Act.put,List.setIfInBounds_toArray,List.set_cons_zero,List.set_cons_succ])
   | (refine aaL rfl 39 (.tmp 10) (.tmp 72) rfl w1.heap.size 0 39 (ndC Nd.zero) (ndC nd) rfl rfl (Blk.new _ _) (by rw [a0.out];decide) (by rw [a0.out];exact aaK) (abJ _) ?_;intro w6 b6 k6 a6;clear a6;rw [aa4 (by rw [a0.out];rfl)] at b6))
  have kz:AaA NoF w1 w6:=((AaA.refl NoF w1).alloc (ndO Nd.zero)).fresh k6 (λ i e=>by omega)
  have f4:w6.drew.cell? ⟨N.r,4,none⟩=some ↑N.tb:=kz.cellF (k1.cellF d4 hA.out.rK) (λ f=>f)
  have f1:w6.drew.cell? ⟨w.heap.size,1,none⟩=some (I a):=kz.cellF (k1.cellF c1 hA.out.nK) (λ f=>f)
  have a7:=hD w6.drew kz.drew
  have nZ1:∀ j,w1.heap.size<=j->¬ Z j:=λ j hj z=>by have:=a5.out j z;omega
  have a8:=b6.lt
  have ab:=kz.size
  have b6d:=b6.drew
  clear hPr c0 c1 c2 c20 c21 d2 d3 d4
  refine wp_region_held_drew (S:=λ W=>W.cell? ⟨N.r,4,none⟩=some ↑N.tb/\W.cell? ⟨w.heap.size,1,none⟩=some (I a)) (by kernel_rfl) ⟨f4,f1⟩ (λ hS0=>?_)
  refine wpAnyH_take (i:=0) rfl (by kernel_rfl) (by kernel_rfl) (by kernel_rfl) (λ _ _ _ h=>h) (Or.inl ⟨by rfl,λ W hW=>by obtain ⟨s4,s1⟩:=hW;first|(go_simp;rfl)|(go_simp;done)⟩) hS0 ?_
  try simp only [Act.put,List.getElem_toArray,List.getElem_cons_succ,List.getElem_cons_zero,List.setIfInBounds_toArray,List.set_cons_zero,List.set_cons_succ]
  refine wpAnyH_take (i:=1) rfl (by kernel_rfl) (by kernel_rfl) (by kernel_rfl) (λ _ _ _ h=>h) (Or.inl ⟨by rfl,λ W hW=>by obtain ⟨s4,s1⟩:=hW;first|(go_simp;rfl)|(go_simp;done)⟩) hS0 ?_
  try simp only [Act.put,List.getElem_toArray,List.getElem_cons_succ,List.getElem_cons_zero,List.setIfInBounds_toArray,List.set_cons_zero,List.set_cons_succ]
  refine wpAnyH_take (i:=2) rfl (by kernel_rfl) (by kernel_rfl) (by kernel_rfl) (λ _ _ _ h=>h) (Or.inl ⟨by rfl,λ W hW=>by obtain ⟨s4,s1⟩:=hW;first|(go_simp;rfl)|(go_simp;done)⟩) hS0 ?_
  try simp only [Act.put,List.getElem_toArray,List.getElem_cons_succ,List.getElem_cons_zero,List.setIfInBounds_toArray,List.set_cons_zero,List.set_cons_succ]
  refine wpAnyH_take (i:=3) rfl (by kernel_rfl) (by kernel_rfl) (by kernel_rfl) (λ _ _ _ h=>h) (Or.inl ⟨by rfl,λ W hW=>by obtain ⟨s4,s1⟩:=hW;first|(go_simp;rfl)|(go_simp;done)⟩) hS0 ?_
  try simp only [Act.put,List.getElem_toArray,List.getElem_cons_succ,List.getElem_cons_zero,List.setIfInBounds_toArray,List.set_cons_zero,List.set_cons_succ]
  refine wpAnyH_take (i:=4) rfl (by kernel_rfl) (by kernel_rfl) (by kernel_rfl) (λ _ _ _ h=>h) (Or.inl ⟨by rfl,λ W hW=>by obtain ⟨s4,s1⟩:=hW;first|(go_simp;rfl)|(go_simp;done)⟩) hS0 ?_
  try simp only [Act.put,List.getElem_toArray,List.getElem_cons_succ,List.getElem_cons_zero,List.setIfInBounds_toArray,List.set_cons_zero,List.set_cons_succ]
  refine wpAnyH_take (i:=5) rfl (by kernel_rfl) (by kernel_rfl) (by kernel_rfl) (λ _ _ _ h=>h) (Or.inl ⟨by rfl,λ W hW=>by obtain ⟨s4,s1⟩:=hW;first|(go_simp;rfl)|(go_simp;done)⟩) hS0 ?_
  try simp only [Act.put,List.getElem_toArray,List.getElem_cons_succ,List.getElem_cons_zero,List.setIfInBounds_toArray,List.set_cons_zero,List.set_cons_succ]
  refine wpAnyH_ready (rs:=[6,10]) (by kernel_rfl) (by simp) ?_
  refine AllReadyH.cons (i:=6) rfl (λ K hK=>?_) (AllReadyH.cons (i:=10) rfl (λ K hK=>?_) AllReadyH.nil)
  ·rw [if_pos (by rfl)]
   go_simp
   refine a7.mono ?_
   rintro e w2 ⟨rfl,k2,hE,_⟩
   have x7:w2.cell? ⟨N.r,4,none⟩=some ↑N.tb/\w2.cell? ⟨w.heap.size,1,none⟩=some (I a):=⟨k2.cellF f4 hA.out.rZ,k2.cellF f1 hA.out.nZ⟩
   refine hK.out _ _ x7 (λ _=>?_)
   clear hK K
   try simp only [Act.put,List.getElem_toArray,List.getElem_cons_succ,List.getElem_cons_zero,List.setIfInBounds_toArray,List.set_cons_zero,List.set_cons_succ]
   refine wpAnyH_take (i:=7) rfl (by kernel_rfl) (by kernel_rfl) (by kernel_rfl) (λ _ _ _ h=>h) (Or.inl ⟨by rfl,λ W hW=>by obtain ⟨s4,s1⟩:=hW;first|(go_simp;rfl)|(go_simp;done)⟩) x7 ?_
   try simp only [Act.put,List.getElem_toArray,List.getElem_cons_succ,List.getElem_cons_zero,List.setIfInBounds_toArray,List.set_cons_zero,List.set_cons_succ]
   refine wpAnyH_take (i:=8) rfl (by kernel_rfl) (by kernel_rfl) (by kernel_rfl) (λ _ _ _ h=>h) (Or.inl ⟨by rfl,λ W hW=>by obtain ⟨s4,s1⟩:=hW;first|(go_simp;rfl)|(go_simp;done)⟩) x7 ?_
   try simp only [Act.put,List.getElem_toArray,List.getElem_cons_succ,List.getElem_cons_zero,List.setIfInBounds_toArray,List.set_cons_zero,List.set_cons_succ]
   refine wpAnyH_take (i:=9) rfl (by kernel_rfl) (by kernel_rfl) (by kernel_rfl) (λ _ _ _ h=>h) (Or.inl ⟨by rfl,λ W hW=>by obtain ⟨s4,s1⟩:=hW;first|(go_simp;rfl)|(go_simp;done)⟩) x7 ?_
   try simp only [Act.put,List.getElem_toArray,List.getElem_cons_succ,List.getElem_cons_zero,List.setIfInBounds_toArray,List.set_cons_zero,List.set_cons_succ]
   refine ahA (i:=10) (by kernel_rfl) rfl (by rfl) (λ K hK=>?_)
   refine aoJ 39 rfl _ _ (abI _) ?_
   have kB:=(AaA.refl NoF w2).alloc (ndO Nd.zero)
   have bB:=Blk.new w2 (ndO Nd.zero)
   have x8:(w2.alloc (ndO Nd.zero)).cell? ⟨N.r,4,none⟩=some ↑N.tb/\(w2.alloc (ndO Nd.zero)).cell? ⟨w.heap.size,1,none⟩=some (I a):=⟨kB.cellF x7.1 (λ f=>f),kB.cellF x7.2 (λ f=>f)⟩
   refine hK.out _ _ x8 ?_
   clear hK K
   try simp only [Act.put,List.getElem_toArray,List.getElem_cons_succ,List.getElem_cons_zero,List.setIfInBounds_toArray,List.set_cons_zero,List.set_cons_succ]
   refine ahA (i:=11) (by kernel_rfl) rfl (by rfl) (λ K hK=>?_)
   refine wp_store_mid 39 (.tmp 12) (.tmp 82) rfl w2.heap.size 0 (ndC nd).toArray rfl rfl (ahJ bB 0 (ndC nd).toArray.size (by rw [List.size_toArray,a0.out];decide)) (by rw [List.size_toArray,a0.out];exact aaK) (all_oneCell_toArray (abJ _)) ?_
   obtain ⟨e1,e2,e3⟩:=ac1 w2.heap.size 39 (ndC nd) 0 _ (ndC Nd.zero) bB (by rw [a0.out];decide)
   rw [aa4 (by rw [a0.out];rfl)] at e1
   rw [List.toList_toArray]
   have kC:AaA NoF w2 ((w2.alloc (ndO Nd.zero)).setCells w2.heap.size 0 (ndC nd)):=kB.fresh e2 (λ i e=>by omega)
   generalize (w2.alloc (ndO Nd.zero)).setCells w2.heap.size 0 (ndC nd)=w9 at *
   have x9:w9.cell? ⟨N.r,4,none⟩=some ↑N.tb/\w9.cell? ⟨w.heap.size,1,none⟩=some (I a):=⟨kC.cellF x7.1 (λ f=>f),kC.cellF x7.2 (λ f=>f)⟩
   refine hK.out _ _ x9 ?_
   clear hK K
   try simp only [Act.put,List.getElem_toArray,List.getElem_cons_succ,List.getElem_cons_zero,List.setIfInBounds_toArray,List.set_cons_zero,List.set_cons_succ]
   refine wpAnyH_take (i:=12) rfl (by kernel_rfl) (by kernel_rfl) (by kernel_rfl) (λ _ _ _ h=>h) (Or.inl ⟨by rfl,λ W hW=>by obtain ⟨s4,s1⟩:=hW;first|(go_simp;rfl)|(go_simp;done)⟩) x9 ?_
   try simp only [Act.put,List.getElem_toArray,List.getElem_cons_succ,List.getElem_cons_zero,List.setIfInBounds_toArray,List.set_cons_zero,List.set_cons_succ]
   refine wpAnyH_done (by kernel_rfl) ?_ _
   refine ‹∀ (a:Act) (w:World),Code.wp _ _ _ a w->_› _ _ ?_
   have b10:=kC.blk (k2.blk b6d (nZ1 _ (aEK _))) (λ f=>f)
   have hQ:=hFin.out _ (hE w9 kC)
   clear x7 x8 x9 e2 kB bB hE
   replace ⟨e1,b10,hQ⟩:=yh3 e1 b10 hQ
   go_upto_region 12 with fail
   go_step
   refine aaN rfl 39 (.tmp 10) rfl w1.heap.size 0 39 (ndC nd) 17 dd rfl b10.out (by rw [a0.out];decide) ud.out hd.out aaK ?_
   simp only [Act.put,List.setIfInBounds_toArray,List.set_cons_zero,List.set_cons_succ]
   refine aaN rfl 39 (.tmp 12) rfl w2.heap.size 0 39 (ndC nd) 17 dd rfl e1.out (by rw [a0.out];decide) ud.out hd.out aaK ?_
   rw [a4.out]
   simp only [Act.put,List.setIfInBounds_toArray,List.set_cons_zero,List.set_cons_succ]
   go_wp2
   exact hQ.out
  ·rw [if_pos (by rfl)]
   have kB:=(AaA.refl NoF w6.drew).alloc (ndO Nd.zero)
   have bB:=Blk.new w6.drew (ndO Nd.zero)
   have bN:=b6d.alloc (ndO Nd.zero)
   have x8:(w6.drew.alloc (ndO Nd.zero)).cell? ⟨N.r,4,none⟩=some ↑N.tb/\(w6.drew.alloc (ndO Nd.zero)).cell? ⟨w.heap.size,1,none⟩=some (I a):=⟨kB.cellF f4 (λ f=>f),kB.cellF f1 (λ f=>f)⟩
   refine aoJ 39 rfl _ _ (abI _) ?_
   refine hK.out _ _ x8 (λ _=>?_)
   clear hK K
   try simp only [Act.put,List.getElem_toArray,List.getElem_cons_succ,List.getElem_cons_zero,List.setIfInBounds_toArray,List.set_cons_zero,List.set_cons_succ]
   have hD7:=hD (w6.drew.alloc (ndO Nd.zero)) (kz.drew.step kB)
   have a9:=bB.lt
   have hnb:w1.heap.size<w6.drew.heap.size:=a8
   generalize w6.drew.alloc (ndO Nd.zero)=w7 at *
   generalize w6.drew.heap.size=nb2 at *
   refine ahA (i:=6) (by kernel_rfl) rfl (by rfl) (λ K hK=>?_)
   go_simp
   refine hD7.mono ?_
   rintro e w2 ⟨rfl,k2,_,hE⟩
   have x7:w2.cell? ⟨N.r,4,none⟩=some ↑N.tb/\w2.cell? ⟨w.heap.size,1,none⟩=some (I a):=⟨k2.cellF x8.1 hA.out.rZ,k2.cellF x8.2 hA.out.nZ⟩
   have bB2:=k2.blk bB (nZ1 _ (by omega))
   have bN2:=k2.blk bN (nZ1 _ (aEK _))
   refine hK.out _ _ x7 ?_
   clear hK K
   try simp only [Act.put,List.getElem_toArray,List.getElem_cons_succ,List.getElem_cons_zero,List.setIfInBounds_toArray,List.set_cons_zero,List.set_cons_succ]
   refine wpAnyH_take (i:=7) rfl (by kernel_rfl) (by kernel_rfl) (by kernel_rfl) (λ _ _ _ h=>h) (Or.inl ⟨by rfl,λ W hW=>by obtain ⟨s4,s1⟩:=hW;first|(go_simp;rfl)|(go_simp;done)⟩) x7 ?_
   try simp only [Act.put,List.getElem_toArray,List.getElem_cons_succ,List.getElem_cons_zero,List.setIfInBounds_toArray,List.set_cons_zero,List.set_cons_succ]
   refine wpAnyH_take (i:=8) rfl (by kernel_rfl) (by kernel_rfl) (by kernel_rfl) (λ _ _ _ h=>h) (Or.inl ⟨by rfl,λ W hW=>by obtain ⟨s4,s1⟩:=hW;first|(go_simp;rfl)|(go_simp;done)⟩) x7 ?_
   try simp only [Act.put,List.getElem_toArray,List.getElem_cons_succ,List.getElem_cons_zero,List.setIfInBounds_toArray,List.set_cons_zero,List.set_cons_succ]
   refine wpAnyH_take (i:=9) rfl (by kernel_rfl) (by kernel_rfl) (by kernel_rfl) (λ _ _ _ h=>h) (Or.inl ⟨by rfl,λ W hW=>by obtain ⟨s4,s1⟩:=hW;first|(go_simp;rfl)|(go_simp;done)⟩) x7 ?_
   try simp only [Act.put,List.getElem_toArray,List.getElem_cons_succ,List.getElem_cons_zero,List.setIfInBounds_toArray,List.set_cons_zero,List.set_cons_succ]
   refine ahA (i:=11) (by kernel_rfl) rfl (by rfl) (λ K hK=>?_)
   refine wp_store_mid 39 (.tmp 12) (.tmp 82) rfl nb2 0 (ndC nd).toArray rfl rfl (ahJ bB2 0 (ndC nd).toArray.size (by rw [List.size_toArray,a0.out];decide)) (by rw [List.size_toArray,a0.out];exact aaK) (all_oneCell_toArray (abJ _)) ?_
   obtain ⟨e1,e2,e3⟩:=ac1 nb2 39 (ndC nd) 0 _ (ndC Nd.zero) bB2 (by rw [a0.out];decide)
   rw [aa4 (by rw [a0.out];rfl)] at e1
   rw [List.toList_toArray]
   generalize w2.setCells nb2 0 (ndC nd)=w9 at *
   have x9:w9.cell? ⟨N.r,4,none⟩=some ↑N.tb/\w9.cell? ⟨w.heap.size,1,none⟩=some (I a):=⟨e2.cellF x7.1 (by have:=hA.out.nx.hr_lt;dsimp only;omega),e2.cellF x7.2 (by have:=hA.out.bO.lt;dsimp only;omega)⟩
   refine hK.out _ _ x9 ?_
   clear hK K
   try simp only [Act.put,List.getElem_toArray,List.getElem_cons_succ,List.getElem_cons_zero,List.setIfInBounds_toArray,List.set_cons_zero,List.set_cons_succ]
   refine wpAnyH_take (i:=12) rfl (by kernel_rfl) (by kernel_rfl) (by kernel_rfl) (λ _ _ _ h=>h) (Or.inl ⟨by rfl,λ W hW=>by obtain ⟨s4,s1⟩:=hW;first|(go_simp;rfl)|(go_simp;done)⟩) x9 ?_
   try simp only [Act.put,List.getElem_toArray,List.getElem_cons_succ,List.getElem_cons_zero,List.setIfInBounds_toArray,List.set_cons_zero,List.set_cons_succ]
   refine wpAnyH_done (by kernel_rfl) ?_ _
   refine ‹∀ (a:Act) (w:World),Code.wp _ _ _ a w->_› _ _ ?_
   have b10:=e2.blk bN2 (by omega)
   have hQ:=hFin.out _ (hE w9 nb2 (by omega) a9 e2)
   clear x7 x8 x9 e2 kB bB hE
   replace ⟨e1,b10,hQ⟩:=yh3 e1 b10 hQ
   go_upto_region 12 with fail
   go_step
   refine aaN rfl 39 (.tmp 10) rfl w1.heap.size 0 39 (ndC nd) 17 dd rfl b10.out (by rw [a0.out];decide) ud.out hd.out aaK ?_
   simp only [Act.put,List.setIfInBounds_toArray,List.set_cons_zero,List.set_cons_succ]
   refine aaN rfl 39 (.tmp 12) rfl nb2 0 39 (ndC nd) 17 dd rfl e1.out (by rw [a0.out];decide) ud.out hd.out aaK ?_
   rw [a4.out]
   simp only [Act.put,List.setIfInBounds_toArray,List.set_cons_zero,List.set_cons_succ]
   go_wp2
   exact hQ.out
end
def padL (l:List UInt8):List UInt8:=(l++aaD 512).take 512
theorem aqS (l:List UInt8):(padL l).length=512:=by simp [padL,aaF]
theorem ayM (l:List UInt8):lay (aaD 512) 0 (l.take (Nat.min l.length 512))=padL l:=by
 unfold lay padL
 rw [List.take_zero,List.nil_append]
 by_cases h:l.length<=512
 ·rw [show Nat.min l.length 512=l.length from Nat.min_eq_left h,aEO (aEK _),List.take_append,aEO h]
  congr 1
  unfold aaD
  rw [List.drop_replicate,List.take_replicate]
  congr 1;omega
 ·rw [show Nat.min l.length 512=512 from Nat.min_eq_right (by omega)]
  have e:(l.take 512).length=512:=by rw [aEM];omega
  rw [e,List.drop_of_length_le (by rw [aaF];omega),aE3,List.take_append_of_le_length (by omega)]
theorem ao5 (w:World) (v:Value) (l:List UInt8) (h:Ab8 w v l) :
  Calls prog 129 #[v] w λ e w'=>e=U (.slice ↑w.heap.size 512 512)/\Blk w' w.heap.size (aaE (padL l))/\AaA NoF w w':=by
 obtain ⟨a0,c0,rfl,h⟩:=h
 have aa:=al2
 have a4:=ayM l
 have bz:=Blk.new w (aaE (aaD 512))
 have kz:=(AaA.refl NoF w).alloc (aaE (aaD 512))
 generalize padL l=L at *
 have hl:∃ cs:List Value,cs=(l.take (Nat.min l.length 512)).map B/\cs.length=Nat.min l.length 512:=⟨_,rfl,by rw [aEU,aEM];have:Nat.min l.length 512<=l.length:=Nat.min_le_left _ _;omega⟩
 cases a0 with
 | none=>
  have a8:l=[]:=by
   rcases h with h|⟨g,o,e,_⟩
   ·exact h
   ·cases e
  subst a8
  have e:L=aaD 512:=by rw [← a4];simp [lay]
  subst e
  replace ⟨bz,kz,a4,hl⟩:=yh4 bz kz a4 hl
  go_enter Tryz.func129,Tryz.ntmps129
  go_upto_region 2 with fail
  go_step
  refine aaR rfl _ _ (by go_simp;first|exact ⟨rfl,rfl⟩|rfl) ?_
  simp only [wz]
  refine aaR rfl _ _ (by go_simp;first|exact ⟨rfl,rfl⟩|rfl) ?_
  simp only [wz]
  generalize w.alloc (aaE (aaD 512))=wA at *
  refine aaR rfl (goInt (0:Nat)) wA ?_ ?_
  ·simp [execOp,resolve,invoke,builtin,Builtin.copy_,go_sem]
  ·simp only [wz]
   go_wp2
   go_ret
   exact ⟨rfl,bz.out,kz.out⟩
 | some ad=>
  have a1:∀ j v,((l.take (Nat.min l.length 512)).map B)[j]? = some v->(w.alloc (aaE (aaD 512))).cell? (ad.add j)=some v:=λ j v hj=>by
   rcases h with h|⟨g,o,e,h⟩
   ·subst h;simp at hj
   ·cases e
    rw [aEZ,List.getElem?_take] at hj
    split at hj
    ·rename_i hlt
     have a6:j<l.length:=by have:Nat.min l.length 512<=l.length:=Nat.min_le_left _ _;omega
     rw [aEG a6] at hj
     have hv:B l[j]=v:=by simpa using hj
     rw [Addr.add_lit,← hv]
     exact kz.cellF (h j a6) (λ f=>f)
    ·simp at hj
  obtain ⟨cs,a5,a7⟩:=hl
  rw [← a5] at a1
  have a2:∀ v∈cs,v.oneCell'=true:=λ v hv=>by rw [a5] at hv;obtain ⟨x,_,rfl⟩:=List.mem_map.1 hv;rfl
  obtain ⟨n,hn⟩:∃ n,l.length=n:=⟨_,rfl⟩
  rw [hn] at a7 ⊢
  have hfin:(w.alloc (aaE (aaD 512))).setRow w.heap.size ((((aaD 512).map B).toArray.toList.take 0++(cs++((aaD 512).map B).toArray.toList.drop (0+cs.length))).toArray)=(w.alloc (aaE (aaD 512))).setRow w.heap.size (L.map B).toArray:=by
   congr 2
   rw [← a4,a5]
   simp [lay,List.map_take,List.map_drop]
  have a3:Blk ((w.alloc (aaE (aaD 512))).setRow w.heap.size (L.map B).toArray) w.heap.size (aaE L):=setRow_heap _ _ _ _ _ (0,0) bz
  have kr:AaA NoF w ((w.alloc (aaE (aaD 512))).setRow w.heap.size (L.map B).toArray):=kz.fresh (F:=(· = w.heap.size)) ⟨rfl,rfl,rfl,by simp [World.setRow],λ k _ a9=>setRow_other _ _ k _ a9⟩ (λ i e=>by omega)
  replace ⟨bz,a1,a2,hn,hfin,a3,kr⟩:=yh7 bz a1 a2 hn hfin a3 kr;clear kz a4 a5 h
  go_enter Tryz.func129,Tryz.ntmps129
  go_upto_region 2 with fail
  go_step
  refine aaR rfl _ _ (by go_simp;first|exact ⟨rfl,rfl⟩|rfl) ?_
  simp only [wz]
  refine aaR rfl _ _ (by go_simp;first|exact ⟨rfl,rfl⟩|rfl) ?_
  simp only [wz]
  refine wpList_copy_own rfl _ _ 40 40 rfl 5 afL amP w.heap.size 0 512 512 ad n c0 rfl rfl ((aaD 512).map B).toArray 5 bz.out cs (by rw [a7]) a1.out (by simp [aaF];have:Nat.min n 512<=512:=Nat.min_le_right _ _;omega) a2.out ?_
  rw [hfin.out]
  generalize (w.alloc (aaE (aaD 512))).setRow w.heap.size (L.map B).toArray=wF at *
  go_wp2
  go_ret
  exact ⟨rfl,a3.out,kr.out⟩
theorem az5 (w:World) (g c:Nat) (bs rest:List UInt8) (hg:Blk w g (aaE (bs++rest))) (hb:bs.length=512) :
  Calls prog 200 #[.slice ↑g 512 c] w λ e w'=>e=U (.slice ↑w.heap.size 512 512)/\Blk w' w.heap.size (aaE bs)/\AaA NoF w w':=by
 have a0:=al2
 have bz:=Blk.new w (aaE (aaD 512))
 have kz:=(AaA.refl NoF w).alloc (aaE (aaD 512))
 have gz:=kz.blk hg (λ f=>f)
 have hl:lay (aaD 512) 0 (((bs++rest).drop 0).take (Nat.min 512 512))=bs:=by
  rw [aER,show Nat.min 512 512=512 from rfl,← hb,List.take_left]
  unfold lay
  rw [List.take_zero,List.nil_append,List.drop_of_length_le (by rw [aaF];omega),aE3]
 replace ⟨bz,kz,gz,hl,hb⟩:=yh5 bz kz gz hl hb;clear hg
 go_enter Tryz.func200,Tryz.ntmps200
 go_upto_region 2 with fail
 go_step
 refine aaR rfl _ _ (by go_simp;first|exact ⟨rfl,rfl⟩|rfl) ?_
 simp only [wz]
 refine aaR rfl _ _ (by go_simp;first|exact ⟨rfl,rfl⟩|rfl) ?_
 simp only [wz]
 refine ae4 rfl _ _ 40 40 rfl 5 afL amP 5 5 w.heap.size 0 512 512 g 0 512 c rfl rfl (aaD 512) (bs++rest) bz.out gz.out (by rw [aaF];decide) (by rw [aEH,hb.out];omega) ?_
 intro w5 b5 k5 z5
 clear z5
 rw [hl.out] at b5
 have k6:=kz.out.fresh k5 (λ i e=>by omega)
 clear k5
 replace ⟨b5,k6⟩:=yh2 b5 k6
 go_wp2
 go_ret
 exact ⟨rfl,b5.out,k6.out⟩
def ACJ (w:World) (v:Value) (l:List Nat):Prop:=∃ a cap,v=.slice a l.length cap/\(l=[]∨∃ g,a=some ⟨g,0,none⟩/\∀ j (h:j<l.length),w.cell? ⟨g,j,none⟩=some (I l[j]))
theorem AbV.sl {w:World} {lo:Nat} {v:Value} {l:List Nat} (h:AbV w lo v l):ACJ w v l:=by
 rcases h.shape with ⟨rfl,rfl⟩|⟨g,cap,rfl,_,_,hc⟩
 ·exact ⟨none,0,rfl,.inl rfl⟩
 ·exact ⟨_,cap,rfl,.inr ⟨g,rfl,hc⟩⟩
theorem asP (w:World) (v1 v2:Value) (l:List Nat) (h1:ACJ w v1 l) (h2:ACJ w v2 l) (hl:l.length<=4096) :
  Calls prog 26 #[v1,v2] w λ e w'=>e=U ↑true/\∃ m,w'=w.drewN m:=by
 obtain ⟨a1,c1,rfl,h1⟩:=h1
 obtain ⟨a2,c2,rfl,h2⟩:=h2
 obtain ⟨n,hn⟩:∃ n,l.length=n:=⟨_,rfl⟩
 rw [hn] at hl ⊢
 have hcel:∀ k,k<n->∃ g1 g2 x,a1=some ⟨g1,0,none⟩/\a2=some ⟨g2,0,none⟩/\w.cell? ⟨g1,k,none⟩=some (I x)/\w.cell? ⟨g2,k,none⟩=some (I x):=λ k hk=>by
  rcases h1 with h1|⟨g1,e1,h1⟩
  ·rw [h1] at hn;simp at hn;omega
  ·rcases h2 with h2|⟨g2,e2,h2⟩
   ·rw [h2] at hn;simp at hn;omega
   ·exact ⟨g1,g2,_,e1,e2,h1 k (by omega),h2 k (by omega)⟩
 clear h1 h2 hn l
 replace hcel:=hid hcel
 go_enter Tryz.func26,Tryz.ntmps26
 go_wp2
 go_loopw [5] (λ i wr=>∃ k m:Nat,k<=n/\i=I k/\wr=w.drewN m) (λ i _=>n - (RowKit.intOf i).toNat)
 case atStart=>exact ⟨0,0,by omega,rfl,rfl⟩
 case round=>
  obtain ⟨k,m,hk1,rfl,rfl⟩:=hrel
  by_cases a0:k<n
  ·have a3:(k:Int)<n:=by omega
   have a4:0<=(k:Int)/\(k:Int)<(n:Nat):=by omega
   obtain ⟨g1,g2,x,rfl,rfl,q1,q2⟩:=hcel.out k a0
   go_wp2
   go_region
   go_wp2
   exact ⟨⟨k+1,m+1,by omega,by go_num,rfl⟩,by simp [RowKit.intOf];omega⟩
  ·have a3:¬ (k:Int)<n:=by omega
   go_wp2
   go_ret
   exact ⟨rfl,m,rfl⟩
section
variable {w:World} {C:TxC} {N:RgN} {T:TS} {B:TB} {Z X:Nat->Prop} {i:Nat}
theorem aCD (T:TS) (G:Geom) (kind:Int):(T.all G kind).1.1.length<=G.n:=by
 unfold TS.all
 repeat' split
 all_goals first|exact aEY _|exact ajE _ _ _
theorem NX.pairAll (h:NX w C N T B Z X) (hs:Aa8 B T C.G) (hJ:J7 i T) (o:Bool) (a:Int) (hn:B.R.nodes<=1024) :
  Calls prog 24 #[.pointer (some ⟨N.tab o,0,none⟩),I a] w λ e w1=>∃ v,e=U (.tuple #[v,I ((T.all C.G a).1.2:Nat)])/\AaA (KF C) w w1/\∀ w1',AaA NoF w1 w1' ->
   Calls prog 25 #[↑N.tb,I a] w1' λ e w2=>∃ u,e=U (.tuple #[u,I ((T.all C.G a).1.2:Nat)])/\AaA Z w1' w2 /\
    ∀ w3,AaA NoF w2 w3->Calls prog 26 #[v,u] w3 λ e w4=>e=U ↑true/\AaG (i+1) w N.r (AaX C N Z) X (U ↑true) w4:=by
 obtain ⟨q1,q2⟩:=hs.all a
 have hg:=h.pl.geo
 have a0:=aCD T C.G a
 refine (aDE (h.node o) a).mono ?_
 rintro e w1 ⟨v,rfl,n1,k1,r1,o1⟩
 refine ⟨v,rfl,k1,λ w1' k1'=>?_⟩
 have hp:=(h.pool k1 n1.pl (T.all_like C.G a)).calm k1'
 refine (aCT hp.ref hn a).mono ?_
 rintro e w2 ⟨u,rfl,s2,r2⟩
 rw [q1] at r2 ⊢
 refine ⟨u,rfl,s2.k,λ w3 k3=>?_⟩
 have r1':AbV w2 w.heap.size v (T.all C.G a).1.1:=(r1.keeps k1' (λ _ _ f=>f)).keeps s2.k (λ g e z=>by have:=(o1 g e).1;have:=h.pl.lt g (h.zX g z);omega)
 refine (asP w3 v u _ (r1'.keeps k3 (λ _ _ f=>f)).sl (r2.keeps k3 (λ _ _ f=>f)).sl (by have:=hg.n2;omega)).mono ?_
 rintro e w4 ⟨rfl,m,rfl⟩
 exact ⟨rfl,h.two hJ (k1.step (k1'.mono λ _ _ f=>f.elim)) hp.pl (T.all_like C.G a) s2 (k3.drewN m) q2⟩
theorem aAH (h:NX w C N T B Z X) (hs:Aa8 B T C.G) (hJ:J7 i T) (a b:Int) {n:Nd} (hn:n.ptr.length=12) (d:Value) (o:Bool) :
  Calls prog 22 #[↑N.r,opV 5 a b n d o] w (AaG (i+1) w N.r (AaX C N Z) X):=by
 have hA:=AdK.make h 5 a b n d o
 have a1:=ad4 w 5 a b n d o
 obtain ⟨p1,p2,p3,p4⟩:=h.put_le hs
 generalize w.alloc (opO 5 a b n d o)=wA at *
 have hPr:=hA.nx.pairAll hs hJ o a p2
 obtain ⟨c0,c1,c2,c20,c21⟩:=acV hA.bO hn
 obtain ⟨d2,d3⟩:=hA.nx.c23
 have d4:=hA.nx.c4
 have hFin:∀ w',AaG (i+1) wA N.r (AaX C N Z) (Zn w wA X) (U ↑true) w'->AaG (i+1) w N.r (AaX C N Z) X (U ↑true) w':=λ w' x=>x.mv hA.kA
 generalize AaG (i+1) w N.r (AaX C N Z) X=Post at *
 generalize AaG (i+1) wA N.r (AaX C N Z) (Zn w wA X)=PostA at *
 unfold RgN.tab at hPr
 unfold opV at a1 ⊢
 generalize (T.all C.G a).1.2=cz at *
 replace ⟨hA,a1,hPr,hFin⟩:=yh4 hA a1 hPr hFin;clear h hs hJ p1 p2 p3 p4
 go_enter Tryz.func22,Tryz.ntmps22
 go_upto_region 0 with fail
 go_step
 refine aaY rfl 42 (.tmp 1) rfl _ _ (by exact a1.out) ?_
 cases o
 all_goals
  go_wp2_with fail
  refine hPr.out.mono ?_
  rintro e w1 ⟨v,rfl,k1,hD⟩
  have f4:w1.drew.cell? ⟨N.r,4,none⟩=some ↑N.tb:=k1.cellF d4 hA.out.rK
  have f1:w1.drew.cell? ⟨w.heap.size,1,none⟩=some (I a):=k1.cellF c1 hA.out.nK
  have hD2:=hD _ ((AaA.refl NoF w1).drew)
  have a0:∀ w2,AaA Z w1.drew w2->w2.cell? ⟨N.r,4,none⟩=some ↑N.tb/\w2.cell? ⟨w.heap.size,1,none⟩=some (I a):=λ w2 kk=>⟨kk.cellF (w:=w1.drew) f4 hA.out.rZ,kk.cellF (w:=w1.drew) f1 hA.out.nZ⟩
  clear hPr c0 c1 c2 c20 c21 d2 d3 d4
  replace ⟨hD2,a0⟩:=yh2 hD2 a0;clear k1 hD
  go_upto_region 23 with fail
  go_region_held3 (λ W=>W.cell? ⟨N.r,4,none⟩=some ↑N.tb/\W.cell? ⟨w.heap.size,1,none⟩=some (I a)) (first|with_reducible exact ⟨f4,f1⟩|with_reducible exact x7) (first
   | (go_at_call 25;refine hD2.out.mono ?_;rintro e w2 ⟨u,rfl,k2,hE⟩;have x7:=a0.out w2 k2;have a2:=hid (hE w2 (AaA.refl _ w2));clear k2 hE))
  go_wp2_with fail
  refine a2.out.mono ?_
  rintro e w4 ⟨rfl,hF⟩
  have hQ:=hFin.out _ hF
  clear a2 hF
  replace hQ:=hid hQ
  go_wp2
  exact hQ.out
end
end Go.Vk
