/- Part of the proof: Ns4 NtK NtL NtD. -/
import Derived.Test.YtjeelghnmkefcaaGreatQ43
import Derived.Test.YtjeelghnmkefcaaGreatQ46
import Derived.Test.YtjeelghnmkefcaaGreatQ48
set_option linter.unusedVariables false
set_option maxHeartbeats 16000000
set_option maxRecDepth 100000
namespace Go.Vk
open Go.RowKit Go.Proofs
open Tryz (prog)
section
variable {w:World} {p t tab eb eb2 tb2:Nat} {x:Int}
theorem aBC (hb:Blk w eb (errO x)) (h2:w.cell? ↑eb2=some ↑eb) (a2:eb2≠eb) :
  CallsD prog 136 #[↑eb2,↑tb2] (.panicking [{ v:=errV 4,recovered:=false }]) w λ e u' w'=>
   e=U (.tuple #[])/\u'=.panicking [{ v:=errV 4,recovered:=true }]/\Blk w' eb (errO 4)/\AaA (· = eb) w w':=by
 have a3:∀ w,(binOp BinOp.eql 20 (.iface 63 (I 4)) .nilIface).run prog w=.ok ↑false w:=λ w=>by kernel_rfl
 have a4:∀ w,(Instr.typeAssert (.iface 63 (I 4)) 20 63 true).run prog w=.ok (.tuple #[I 4,↑true]) w:=by intro w;kernel_rfl
 have hP:Blk (w.setCell ↑eb (I 4)) eb (errO 4)/\AaA (· = eb) w (w.setCell ↑eb (I 4)):=by
  have k:AaA (· = eb) w (w.setCell ↑eb (I 4)):=(AaA.refl (· = eb) w).setCell (p:=⟨eb,0,none⟩) (.inl rfl) _
  have hb':=hb.setCell 0 (I 4)
  exact ⟨by simpa [errO] using hb',k⟩
 have a1:=hb.cell 0
 have hz:=hb.frz 0
 unfold errO at a1
 simp at a1
 unfold errV
 replace hP:=hid hP;clear hb
 refine callsD_of_wpS Tryz.func136 rfl λ c₀ cs hu=>?_
 apply wpS_seq
 apply wpS_region
 generalize a0:Code.wpS _ _=cont
 simp [wpOpsS,go_sem,recoverD,hu,Tryz.ntmps136,Exit.thenS]
 subst a0
 refine wpS_of_wp ?_
 rw [show (#[Value.pointer (some ⟨eb2,0,none⟩),↑tb2]++(Array.replicate 23 undef).setIfInBounds 3 (.iface 63 (I 4)))=#[↑eb2,↑tb2,undef,undef,undef,(.iface 63 (I 4)),undef,undef,undef,undef,undef,undef,undef,undef,undef,undef,undef,undef,undef,undef,undef,undef,undef,undef,undef] from by kernel_rfl]
 go_wp2
 simp [bodyPostS,results,Tryz.results136]
 exact hP.out
theorem atE (hS:∀ W,AaA NoF w W->Calls prog 85 #[↑t] W λ e w'=>e=U (I 4)/\∃ n,w'=W.drewN n) (ht:Blk w tab (tabO p)) (hp:Blk w p (ab3 t)) (a1:Blk w eb (errO 0)) (f:Value) :
  Calls prog 61 #[↑tab,↑eb,f] w λ e w'=>e=U (.tuple #[])/\Blk w' eb (errO 4)/\AaA (· = eb) w w':=by
 have a8:∀ (fn:Fn) (first cap:Array Value) (w:World),(Instr.makeFunc fn first cap).run prog w=.ok (.func fn first cap) w:=λ _ _ _ _=>rfl
 have l3:=a1.lt
 have kA:AaA NoF w ((w.alloc (.cells #[↑tab] 27 (0,0))).alloc (.cells #[↑eb] 122 (0,0))):=((AaA.refl _ w).alloc _).alloc _
 have a2:=Blk.new (w.alloc (.cells #[↑tab] 27 (0,0))) (.cells #[↑eb] 122 (0,0))
 rw [aEI] at a2
 have p0:=(kA.blk ht (λ f=>f)).cell 0
 have q0:=(kA.blk hp (λ f=>f)).cell 0
 unfold tabO at p0
 unfold ab3 at q0
 simp at p0 q0
 have a3:=hS _ kA
 have a4:=(Blk.new w (.cells #[↑tab] 27 (0,0))).alloc (.cells #[↑eb] 122 (0,0))
 generalize a7:(w.alloc (.cells #[↑tab] 27 (0,0))).alloc (.cells #[↑eb] 122 (0,0))=wA at *
 have a0:=a4.cell 0
 have b0:=a2.cell 0
 simp at a0 b0
 obtain ⟨Post,hPost⟩:∃ Post:Ending->World->Prop,Post=λ e w'=>e=U (.tuple #[])/\Blk w' eb (errO 4)/\AaA (· = eb) w w':=⟨_,rfl⟩
 rw [← hPost]
 clear hS
 replace ⟨hPost,a1,kA,a3,l3⟩:=yh5 hPost a1 kA a3 l3;clear ht hp a4 a2
 go_enter_defers Tryz.func61,Tryz.ntmps61
 go_upto_region 2 with fail
 clear a7
 go_wp2_with (first
  | (go_at_call 85;refine a3.out.mono ?_;rintro e w1 ⟨rfl,n,rfl⟩)
  | (go_at_call 103;refine (ajH _ 4 (by decide)).mono ?_;rintro e w3 ⟨rfl,rfl⟩))
 have kB:=kA.out.drewN n
 have a5:Blk (wA.drewN n) eb (errO 0):=kB.blk a1.out (λ f=>f)
 have b2:(wA.drewN n).cell? ⟨w.heap.size+1,0,none⟩=some ↑eb:=b0
 have n1:w.heap.size+1≠eb:=by have:=l3.out;omega
 have hD:=aBC (tb2:=w.heap.size) a5 b2 n1
 have hfin:∀ w3,Blk w3 eb (errO 4)->AaA (· = eb) (wA.drewN n) w3->Post (U (.tuple #[])) w3:=λ w3 x y=>by
  rw [hPost.out]
  exact ⟨rfl,x,(kB.mono (F:=λ _=>False) (G:=(· = eb)) (λ _ _ f=>f.elim)).trans y (λ i _ z=>z)⟩
 clear b2 a0 b0
 replace ⟨hD,hfin⟩:=yh2 hD hfin;clear a5 kB
 refine leaves_cons (f:=136) (args:=#[↑(w.heap.size+1),↑w.heap.size]) (by simp) (by simp [go_sem]) ?_
 refine hD.out.mono ?_
 rintro e u' w3 ⟨rfl,rfl,a6,hk⟩
 have hQ:=hfin.out w3 a6 hk
 clear a6 hk
 replace hQ:=hid hQ
 simp [Leaves,settle,results,Tryz.results61,go_sem]
 exact hQ.out
theorem as1 (hS:∀ W,AaA NoF w W->Calls prog 85 #[↑t] W λ e w'=>e=U (I 4)/\∃ n,w'=W.drewN n) (ht:Blk w tab (tabO p)) (hp:Blk w p (ab3 t)) (k:Int) :
  Calls prog 39 #[↑tab,I k] w λ e w'=>e=U (.tuple #[ndV Nd.zero,I 4])/\AaA NoF w w':=by
 have a2:∀ (fn:Fn) (first cap:Array Value) (w:World),(Instr.makeFunc fn first cap).run prog w=.ok (.func fn first cap) w:=λ _ _ _ _=>rfl
 obtain ⟨wA,a0⟩:∃ wA,(((w.alloc (.cells #[↑tab] 27 (0,0))).alloc (.cells #[I k] 3 (0,0))).alloc (ndO Nd.zero)).alloc (errO 0)=wA:=⟨_,rfl⟩
 have kA:AaA NoF w wA:=by rw [← a0];exact ((((AaA.refl _ w).alloc _).alloc _).alloc _).alloc _
 have hT:Blk wA w.heap.size (.cells #[↑tab] 27 (0,0)):=by rw [← a0];exact (((Blk.new w _).alloc _).alloc _).alloc _
 have hN:Blk wA (w.heap.size+1+1) (ndO Nd.zero):=by
  rw [← a0,show w.heap.size+1+1=((w.alloc (.cells #[↑tab] 27 (0,0))).alloc (.cells #[I k] 3 (0,0))).heap.size by simp only [aEI]]
  exact (Blk.new _ _).alloc _
 have hE:Blk wA (w.heap.size+1+1+1) (errO 0):=by
  rw [← a0,show w.heap.size+1+1+1=(((w.alloc (.cells #[↑tab] 27 (0,0))).alloc (.cells #[I k] 3 (0,0))).alloc (ndO Nd.zero)).heap.size by simp only [aEI]]
  exact Blk.new _ _
 have a1:=atE (λ W x=>hS W (kA.step x)) (kA.blk ht (λ f=>f)) (kA.blk hp (λ f=>f)) hE (.func (.func 93) #[] #[↑w.heap.size,↑(w.heap.size+1),↑(w.heap.size+1+1)])
 obtain ⟨Post,hPost⟩:∃ Post:Ending->World->Prop,Post=λ e w'=>e=U (.tuple #[ndV Nd.zero,I 4])/\AaA NoF w w':=⟨_,rfl⟩
 rw [← hPost]
 have hP:∀ w',AaA NoF w w'->Post (U (.tuple #[ndV Nd.zero,I 4])) w':=λ w' b=>by rw [hPost];exact ⟨rfl,b⟩
 have cT:=hT.cell 0
 simp at cT
 obtain ⟨d,ud,hd⟩:=acJ
 clear hS
 replace ⟨kA,hN,a1,hP,ud,hd⟩:=yh6 kA hN a1 hP ud hd;clear hT hE hPost ht hp
 go_enter Tryz.func39,Tryz.ntmps39
 go_upto_region 1 with fail
 change Code.wp _ _ _ _ ((((w.alloc (.cells #[↑tab] 27 (0,0))).alloc (.cells #[I k] 3 (0,0))).alloc (ndO Nd.zero)).alloc (errO 0))
 rw [a0]
 clear a0
 go_wp2_with fail
 refine a1.out.mono ?_
 rintro e w1 ⟨rfl,e1,k1⟩
 have kW:AaA NoF w w1:=kA.out.trans k1 (λ i hi x=>by omega)
 have n2:=(k1.blk hN.out (by omega)).drew
 have e2:=e1.drew
 clear e1 k1 a1 cT hN
 replace ⟨kW,n2,e2⟩:=yh3 kW n2 e2
 go_upto_region 2 with fail
 refine wp_region_still_lit (by kernel_rfl) (by kernel_rfl) ?_
 have c0:=e2.out.cell 0
 unfold errO at c0
 simp at c0
 refine ai5 rfl 39 (.tmp 4) rfl (w.heap.size+1+1) 39 (ndC Nd.zero) d rfl n2.out ud.out hd.out aaK ?_
 simp only [wz]
 still_step
 refine aiH rfl 39 (.tmp 4) (.tmp 9) rfl (w.heap.size+1+1) 39 (ndC Nd.zero) rfl rfl n2.out aaK (abJ _) ?_
 refine adL rfl 63 (.tmp 5) (.tmp 10) rfl (w.heap.size+1+1+1) 63 (I 4) rfl rfl e2.out (arI _ _) ?_
 refine wpStill_nil ?_
 simp only [Act.put]
 change Exit.then _ _ _ _ w1.drew
 have hPP:=hP.out _ kW.out.drew
 clear c0 kW
 replace hPP:=hid hPP
 go_wp2
 exact bodyPost_ret (v:=.tuple #[ndV Nd.zero,I 4]) (ajC rfl _ _ (w.heap.size+1+1) (w.heap.size+1+1+1) _ _ rfl rfl (apB _ _ 39 _ (ndC Nd.zero) d n2.out ud.out hd.out aaK) (aeW _ _ _ e2.out)) rfl hPP.out
end
section
variable {w:World} {t sb d l mo mx:Nat} {D:DM} {F:List Nat} {G:Geom} {op en:Bool} {sp:Nat}
theorem aoL (ht:Blk w t (txO sb mx sp en)) (hs:Blk w sb (acQ d l mo G.s G.lg G.n G.life op)) (h:AaI w d D F) (hst:aaT D G.life sp en≠0):Calls prog 37 #[↑t] w λ e w'=>e=U (I (aaT D G.life sp en:Nat))/\∃ m,w'=w.drewN m:=by
 have hSt:=aiP ht hs h
 generalize aaT D G.life sp en=s at *
 have a0:¬ (s:Int)=0:=by omega
 replace hSt:=hid hSt;clear ht hs h hst
 go_enter Tryz.func37,Tryz.ntmps37
 go_wp2_with (go_at_call 85;refine hSt.out.mono ?_;rintro e w1 ⟨rfl,m,rfl⟩)
 go_ret
 exact ⟨rfl,m,rfl⟩
end
section
variable {w w' w0 w1:World} {C C':TxC} {N:RgN} {sp:Nat} {D:DM} {T:TS} {B B':TB} {Z X F X0:Nat->Prop} {old:Nat->List UInt8} {L:LM} {wr i tb m:Nat}
theorem Aa3.cell11 (h:Aa3 w tb m B Z):w.cell? ⟨m,11,none⟩=some (.bool B.R.op):=by
 obtain ⟨V,Z1,Z2,a,b⟩:=h
 obtain ⟨RV,hr⟩:=a.rf
 have c:=hr.hm.cell 11
 simpa [refO] using c
theorem at3 (h:Aa3 w tb m B Z) (hd:B.R.dead=false) (ho:B.R.op=true):Calls prog 127 #[↑m] w λ e w'=>e=U (I 0)/\AaS w w' tb m ⟨{ B.R with op:=false },B.was,B.sl⟩ Z:=by
 obtain ⟨V,Z1,Z2,a,b⟩:=h
 refine (axZ a.rf hd ho).mono ?_
 rintro e w1 ⟨rfl,s1⟩
 exact ⟨rfl,AaS.doc a b s1 (by rfl)⟩
def AmO (w0:World) (i:Nat) (C:TxC) (N:RgN) (D:DM) (sp:Nat) (old:Nat->List UInt8) (L:LM) (wr:Nat) (B:TB) (Z X F X0:Nat->Prop) (w:World):Prop:=
 NEnd w C N D sp old L wr B Z X/\ApZ B old C.G/\B.R.op=false/\AaA F w0 w/\(∀ j,AaX C N Z j->Zn w0 w F j)/\(∀ j,X0 j->X j)/\L.head<=17*(i+1)/\wr<=10000+2100*(i+1)
structure EndT (w0:World) (i r ta pa t tb m:Nat) (F X0:Nat->Prop) (EI:World->Prop):Prop where
 q:∀ W W',EI W->AaA NoF W W'->EI W'
 c:∀ W,EI W->W.cell? ↑ta=some ↑pa/\W.cell? ↑pa=some ↑t/\W.cell? ⟨r,4,none⟩=some ↑tb/\W.cell? ↑tb=some ↑m/\W.cell? ⟨m,11,none⟩=some ↑false
 st:∀ W,EI W->Calls prog 85 #[↑t] W λ e w'=>e=U (I 4)/\EI w'
 ld:∀ W,EI W->Calls prog 39 #[↑ta,I 1] W λ e w'=>e=U (.tuple #[ndV Nd.zero,I 4])/\EI w'
 bg:∀ W,EI W->Calls prog 48 #[↑r] W λ e w'=>e=U (.tuple #[])/\w'.cell? ⟨r,10,none⟩=some ↑true/\AaG (i+1) w0 r F X0 (U ↑true) w'
theorem NEnd.tabs (h:NEnd w C N D sp old L wr B Z X) (o:Bool):Blk w (N.tab o) (tabO (N.pool o))/\Blk w (N.pool o) (ab3 C.t)/\w.cell? ⟨N.r,4,none⟩=some ↑N.tb:=by
 have b0:=(h.hb _ (List.mem_cons_self ..)).1.cell 4
 have b1:=h.hb (N.ta,tabO N.p) (by simp [RgN.bl])
 have b2:=h.hb (N.ua,tabO N.q) (by simp [RgN.bl])
 have b3:=h.hb (N.p,ab3 C.t) (by simp [RgN.bl])
 have b4:=h.hb (N.q,ab3 C.t) (by simp [RgN.bl])
 refine ⟨?_,?_,by simpa [agD] using b0⟩
 ·cases o
  ·exact b1.1
  ·exact b2.1
 ·cases o
  ·exact b3.1
  ·exact b4.1
theorem AmO.quiet (h:AmO w0 i C N D sp old L wr B Z X F X0 w) (k:AaA NoF w w'):AmO w0 i C N D sp old L wr B Z X F X0 w':=by
 obtain ⟨h1,h2,h3,h4,h5,h6,h7⟩:=h
 have z:=k.size
 exact ⟨h1.quiet k,h2,h3,h4.step (k.mono λ _ _ f=>f.elim),λ j hj=>(h5 j hj).elim .inl (λ x=>.inr ⟨x.1,by omega⟩),h6,h7⟩
theorem AmO.K (o:Bool):EndT w0 i N.r (N.tab o) (N.pool o) C.t N.tb N.m F X0 (AmO w0 i C N D sp old L wr B Z X F X0) where
 q:=λ _ _ h k=>h.quiet k
 c:=λ W h=>by
  obtain ⟨a,b,c⟩:=h.1.tabs o
  have a0:=a.cell 0
  have b0:=b.cell 0
  obtain ⟨e1,e2⟩:=h.1.ref.cells
  have e3:=h.1.ref.cell11
  rw [h.2.2.1] at e3
  exact ⟨by simpa [tabO] using a0,by simpa [ab3] using b0,c,e1,e3⟩
 st:=λ W h=>h.1.state.mono (by
  rintro e w' ⟨rfl,n,rfl⟩
  exact ⟨rfl,h.quiet ((AaA.refl _ W).drewN n)⟩)
 ld:=λ W h=>(as1 (λ W' k=>(h.1.quiet k).state) (h.1.tabs o).1 (h.1.tabs o).2.1 1).mono (by
  rintro e w' ⟨rfl,k⟩
  exact ⟨rfl,h.quiet k⟩)
 bg:=λ W h=>by
  obtain ⟨h1,h2,h3,h4,h5,h6,h7,h8⟩:=h
  have z4:=h4.size
  refine (h1.begin h2 0).mono ?_
  rintro e w' ⟨rfl,C',N',Z',X',y0,yG,y1,y2,y3,y4,y5⟩
  have z5:=y5.size
  have c10:=y1.c10
  rw [y0] at c10
  refine ⟨rfl,c10,rfl,_,X',⟨C',N',_,_,Z',y0,y1,by rw [yG];exact y2,⟨h7,h8⟩,rfl⟩,h4.trans y5 (λ j hj f=>?_),λ j hj=>?_,λ j hj=>y4 j (h6 j hj)⟩
  ·have:AaX C N Z j:=by
    rcases f with f|f|f
    ·exact .inr (.inr (.inr (.inl f)))
    ·exact .inr (.inr (.inl ⟨_,List.mem_cons_self ..,f⟩))
    ·exact .inr (.inl f)
   exact (h5 j this).elim id (λ x=>by omega)
  ·rcases y3 j hj with x|x
   ·exact (h5 j x).elim .inl (λ x=>.inr ⟨x.1,by omega⟩)
   ·exact .inr ⟨by omega,x.2⟩
theorem NX.commit2 (h:NX w C N T B Z X) (hs:Aa8 B T C.G) (hJ:J7 i T) (hi:i<=65537) (h0:T.st=0) (o:Bool) :
  Calls prog 37 #[↑C.t] w λ e w1=>e=U (I 0)/\w1.cell? ⟨N.r,4,none⟩=some ↑N.tb/\w1.cell? ↑N.tb=some ↑N.m /\
   Calls prog 126 #[↑N.tb] w1 λ e w2=>e=U (I 0)/\∃ EI:World->Prop,EI w2/\EndT w i N.r (N.tab o) (N.pool o) C.t N.tb N.m (AaX C N Z) X EI:=by
 obtain ⟨j1,j2⟩:=hJ
 obtain ⟨p1,p2,_⟩:=h.put_le hs
 have hg:=h.pl.geo
 have hn:=hs.n.nodes
 have a1:=h.n0
 refine (h.commit h0 (by omega) (by omega)).mono ?_
 rintro e w1 ⟨rfl,C',D,L',wr',ht,y1,hG,b1,b2,y2,a0⟩
 refine ⟨rfl,(y1.tabs o).2.2,y1.ref.cell0,?_⟩
 refine (at8 y1.ref (by omega) p2 (by rw [hs.state];exact h0)).mono ?_
 rintro e w2 ⟨rfl,s⟩
 have s1:=y2.size
 have s2:=s.k.size
 have hK:=AmO.K (w0:=w) (i:=i) (C:=C') (N:=N) (D:=D) (sp:=0) (old:=T.raw) (L:=L') (wr:=wr') (B:=⟨B.R.commit,B.sl,B.sl⟩) (Z:=Zn w1 w2 Z) (X:=Zn w1 w2 X) (F:=AaX C N Z) (X0:=X) o
 rw [ht] at hK
 refine ⟨rfl,_,⟨y1.doc s,by rw [hG];exact hs.oldc h.dd,rfl,?_,λ j hj=>?_,λ j hj=>.inl hj,by omega,by omega⟩,hK⟩
 ·refine AaA.step (y2.mono λ j _ f=>?_) (s.k.mono λ j _ f=>.inr (.inl f))
  rcases f with f|f|f|f
  ·exact .inl f
  ·exact .inr (.inr (.inr (.inl f)))
  ·exact .inr (.inr (.inr (.inr (.inl f))))
  ·exact .inr (.inr (.inr (.inr (.inr f))))
 ·rcases a0 _ j hj with (x|(x|x)|x)|x
  ·exact .inl (.inl x)
  ·exact .inl (.inr (.inl x))
  ·exact .inr ⟨by omega,x.2⟩
  ·exact .inl (.inr (.inr x))
  ·exact .inr ⟨x.1,by omega⟩
theorem NX.abort2 (h:NX w C N T B Z X) (hs:Aa8 B T C.G) (hJ:J7 i T) (o:Bool) :
  Calls prog 38 #[↑C.t] w λ e w1=>e=U (I 0)/\w1.cell? ⟨N.r,4,none⟩=some ↑N.tb/\w1.cell? ↑N.tb=some ↑N.m /\
   Calls prog 127 #[↑N.m] w1 λ e w2=>e=U (I 0)/\∃ EI:World->Prop,EI w2/\EndT w i N.r (N.tab o) (N.pool o) C.t N.tb N.m (AaX C N Z) X EI:=by
 obtain ⟨j1,j2⟩:=hJ
 refine h.abort.mono ?_
 rintro e w1 ⟨rfl,D,sp,y1,y2⟩
 refine ⟨rfl,(y1.tabs o).2.2,y1.ref.cell0,?_⟩
 have hd:=hs.olds h.dd
 refine (at3 y1.ref hd.dead hs.n.op).mono ?_
 rintro e w2 ⟨rfl,s⟩
 have s1:=y2.size
 have s2:=s.k.size
 have hK:=AmO.K (w0:=w) (i:=i) (C:={ C with op:=false }) (N:=N) (D:=D) (sp:=sp) (old:=T.old) (L:=T.lm) (wr:=T.wr) (B:=⟨{ B.R with op:=false },B.was,B.sl⟩) (Z:=Zn w1 w2 Z) (X:=Zn w1 w2 X) (F:=AaX C N Z) (X0:=X) o
 refine ⟨rfl,_,⟨y1.doc s,⟨hd.ob,hd.on,hd.w,hd.lw,hd.data,hd.blocks,hd.nodes,hd.dead⟩,rfl,?_,λ j hj=>?_,λ j hj=>.inl hj,by omega,by omega⟩,hK⟩
 ·refine AaA.step (y2.mono λ j _ f=>?_) (s.k.mono λ j _ f=>.inr (.inl f))
  rcases f with f|f
  ·exact .inl f
  ·exact .inr (.inr (.inr (.inl f)))
 ·rcases hj with hj|(hj|hj)|hj
  ·exact .inl (.inl hj)
  ·exact .inl (.inr (.inl hj))
  ·exact .inr ⟨by omega,hj.2⟩
  ·exact .inl (.inr (.inr hj))
theorem av0 (h:NX w C N T B Z X) (hs:Aa8 B T C.G) (hJ:J7 i T) (hi:i<=65537) (kd:Int) (hk:kd=8/\T.st=0∨kd=9) (o:Bool) (a b:Int) {n:Nd} (hn:n.ptr.length=12) (d:Value) (oo:Bool) :
  Calls prog 55 #[↑N.r,.pointer (some ⟨N.tab o,0,none⟩),opV kd a b n d oo] w (AaG (i+1) w N.r (AaX C N Z) X):=by
 have hA:=AdK.make h kd a b n d oo
 have a1:=ad4 w kd a b n d oo
 generalize w.alloc (opO kd a b n d oo)=wA at *
 have a2:=λ h0=>hA.nx.commit2 hs hJ hi h0 o
 have a3:=hA.nx.abort2 hs hJ o
 obtain ⟨ct,cp⟩:=(hA.nx.node o).cells
 obtain ⟨c0,c1,c2,c20,c21⟩:=acV hA.bO hn
 have hFin:∀ w',AaG (i+1) wA N.r (AaX C N Z) (Zn w wA X) (U ↑true) w'->AaG (i+1) w N.r (AaX C N Z) X (U ↑true) w':=λ w' x=>x.mv hA.kA
 obtain ⟨ud0,a6⟩:∃ x,x=aaM (n:=Nd.zero) (by rfl):=⟨_,rfl⟩
 have a4:∀ EI,EndT wA i N.r (N.tab o) (N.pool o) C.t N.tb N.m (AaX C N Z) (Zn w wA X) EI->∀ W,EI W->Calls prog 48 #[↑N.r] W λ e w'=>e=U (.tuple #[])/\w'.cell? ⟨N.r,10,none⟩=some ↑true/\AaG (i+1) w N.r (AaX C N Z) X (U ↑true) w':=λ EI x W y=>(x.bg W y).mono (by
  rintro e w' ⟨rfl,z1,z2⟩
  exact ⟨rfl,z1,hFin w' z2⟩)
 clear hFin
 unfold opV at a1 ⊢
 generalize hPost:AaG (i+1) w N.r (AaX C N Z) X=Post at *
 generalize N.tab o=tt at *
 generalize N.pool o=pp at *
 clear c1 c2 c20 c21 a6
 replace ⟨a1,a2,a3,a4,ud0⟩:=yh5 a1 a2 a3 a4 ud0;clear hA h hs hJ hPost
 rcases hk with ⟨rfl,h0⟩|rfl
 have hE:=hid (a2.out h0)
 clear h0
 rotate_left
 have hE:=a3
 all_goals
  go_enter Tryz.func55,Tryz.ntmps55
  go_upto_region 0 with fail
  go_step
  refine aaY rfl 42 (.tmp 2) rfl _ _ (by exact a1.out) ?_
  go_wp2_with fail
  refine hE.out.mono ?_
  rintro e w1 ⟨rfl,d4,d5,hM⟩
  clear hE a2 a3 ct cp c0
  replace hM:=hid hM
  go_wp2_with fail
  refine hM.out.mono ?_
  rintro e w2 ⟨rfl,EI,a0,hK⟩
  obtain ⟨ct,cp,u4,ut,um⟩:=hK.c _ a0
  have a5:=a4.out EI hK
  clear hM d4 d5 a4
  replace ⟨a0,hK,a5⟩:=yh3 a0 hK a5
  go_wp2_with fail
  refine (hK.out.st _ a0.out).mono ?_
  rintro e w3 ⟨rfl,hE3⟩
  clear ct cp u4 ut um a0
  replace hE3:=hid hE3
  go_wp2_with fail
  refine (hK.out.ld _ hE3.out).mono ?_
  rintro e w4 ⟨rfl,hE4⟩
  clear hE3
  replace hE4:=hid hE4
  go_upto_region 12 with (first
    | (refine aa0 rfl _ rfl _ _ (abI _) ?_;simp only [wz])
    | (refine aaL rfl 39 (.tmp 13) (.tmp 75) rfl w4.heap.size 0 39 (ndC Nd.zero) (ndC Nd.zero) rfl rfl (Blk.new _ _) (by rw [ud0.out];decide) (by rw [ud0.out];exact aaK) (abJ _) ?_;intro w6 b6 k6 a7;clear a7 b6))
  have kz:AaA NoF w4 w6:=((AaA.refl NoF w4).alloc (ndO Nd.zero)).fresh k6 (λ i e=>by omega)
  have hE6:=hK.out.q _ _ hE4.out kz
  clear kz hE4 k6
  replace hE6:=hid hE6
  go_wp2_with fail
  refine (a5.out _ hE6.out).mono ?_
  rintro e w7 ⟨rfl,c10,hQ⟩
  clear a5 hE6 hK
  replace hQ:=hid hQ
  go_wp2
  exact hQ.out
theorem av1 (h:NX w C N T B Z X) (hs:Aa8 B T C.G) (hJ:J7 i T) (h0:T.st≠0) (o:Bool) (a b:Int) {n:Nd} (hn:n.ptr.length=12) (d:Value) (oo:Bool) :
  Calls prog 55 #[↑N.r,.pointer (some ⟨N.tab o,0,none⟩),opV 8 a b n d oo] w (AaG (i+1) w N.r (AaX C N Z) X):=by
 have hA:=AdK.make h 8 a b n d oo
 have a1:=ad4 w 8 a b n d oo
 generalize w.alloc (opO 8 a b n d oo)=wA at *
 have hE:Calls prog 37 #[↑C.t] wA λ e w1=>e=U (I (T.st:Nat))/\∃ k,w1=wA.drewN k:=by
  obtain ⟨M,⟨own,xc,y1,y2,y3⟩,hM⟩:=hA.nx.pl.rep
  have hst:=hM.stsp
  have:=aoL y1.ht y1.hs y1.hd (by rw [hst];exact h0)
  rw [hst] at this
  exact this
 have hM:=λ k=>ap6 (hA.nx.calm ((AaA.refl NoF wA).drewN k)).ref (by rw [hs.state];exact h0)
 rw [hs.state] at hM
 have a0:=λ k=>(hA.nx.done hs hJ ((AaA.refl NoF wA).drewN k)).mv hA.kA
 obtain ⟨ct,cp⟩:=(hA.nx.node o).cells
 have d4:=hA.nx.c4
 have d5:=hA.nx.ref.cell0
 have d6:=hA.nx.ref.cell11
 rw [hs.n.op] at d6
 obtain ⟨c0,c1,c2,c20,c21⟩:=acV hA.bO hn
 unfold opV at a1 ⊢
 generalize hst:T.st=st at *
 generalize hPost:AaG (i+1) w N.r (AaX C N Z) X=Post at *
 generalize N.tab o=tt at *
 generalize N.pool o=pp at *
 clear c1 c2 c20 c21
 replace ⟨a1,hE,hM,a0⟩:=yh4 a1 hE hM a0;clear hA h hs hJ hPost h0 hst
 go_enter Tryz.func55,Tryz.ntmps55
 go_upto_region 0 with fail
 go_step
 refine aaY rfl 42 (.tmp 2) rfl _ _ (by exact a1.out) ?_
 go_wp2_with fail
 refine hE.out.mono ?_
 rintro e w1 ⟨rfl,k,rfl⟩
 have hQ:=a0.out k
 have a2:=hM.out k
 have u4:(wA.drewN k).cell? ⟨N.r,4,none⟩=some ↑N.tb:=d4
 have ut:(wA.drewN k).cell? ↑N.tb=some ↑N.m:=d5
 have um:(wA.drewN k).cell? ⟨N.m,11,none⟩=some ↑true:=d6
 generalize wA.drewN k=w1 at *
 clear hE ct cp c0 a0 hM d4 d5 d6
 replace ⟨a2,hQ⟩:=yh2 a2 hQ
 go_wp2_with fail
 refine a2.out.mono ?_
 rintro e w2 ⟨rfl,rfl⟩
 clear a2
 go_wp2
 exact hQ.out
theorem azU (h:NX w C N T B Z X) (hs:Aa8 B T C.G) (hJ:J7 i T) (hi:i<=65537) (o:Bool) {kd:Int} (hk:kd=8∨kd=9) (a b:Int) {n:Nd} (hn:n.ptr.length=12) (d:Value) (oo:Bool) :
  Calls prog 55 #[↑N.r,.pointer (some ⟨N.tab o,0,none⟩),opV kd a b n d oo] w (AaG (i+1) w N.r (AaX C N Z) X):=by
 rcases hk with rfl|rfl
 ·by_cases h0:T.st=0
  ·exact av0 h hs hJ hi 8 (.inl ⟨rfl,h0⟩) o a b hn d oo
  ·exact av1 h hs hJ h0 o a b hn d oo
 ·exact av0 h hs hJ hi 9 (.inr rfl) o a b hn d oo
end
theorem az4:∃ d,(prog).underlying 42=some d/\d.isRow=true:=⟨_,(show (prog).underlying 42=some (.struct ((prog).fieldsOf 42)) by kernel_rfl),rfl⟩
theorem aoS:((prog).info? 42).map (·.size)=some 22:=by kernel_rfl
theorem au9 {n:Nd} (hn:n.ptr.length=12) (k a b:Int) (d:Value) (o:Bool):((opC k a b n d o).drop 0).take 22=opC k a b n d o:=by
 rw [aER,aEO (by rw [ag5 hn];decide)]
section
variable {w w' w0 w1:World} {C:TxC} {N:RgN} {T:TS} {B:TB} {Z X:Nat->Prop} {i:Nat}
theorem awP (h:NX w C N T B Z X) (hs:Aa8 B T C.G) (hJ:J7 i T) (o:Bool) (a b:Int) {n:Nd} (hn:n.ptr.length=12) (d:Value) (oo:Bool) :
  Calls prog 56 #[↑N.r,.pointer (some ⟨N.tab o,0,none⟩),opV 17 a b n d oo] w (AaG (i+1) w N.r (AaX C N Z) X):=by
 have hA:=AdK.make h 17 a b n d oo
 have a0:=ad4 w 17 a b n d oo
 generalize w.alloc (opO 17 a b n d oo)=wA at *
 have hE:=aDT hA.nx hs hJ o 17 a b hn d oo
 have hFin:∀ e w',AaG (i+1) wA N.r (AaX C N Z) (Zn w wA X) e w'->e=U ↑true/\AaG (i+1) w N.r (AaX C N Z) X e w':=λ e w' x=>⟨x.1,x.mv hA.kA⟩
 obtain ⟨c0,c1,c2,c20,c21⟩:=acV hA.bO hn
 have a1:Blk wA w.heap.size (.cells (opC 17 a b n d oo).toArray 42 (0,0)):=hA.bO
 obtain ⟨dd,ud,hd⟩:=az4
 have hl:=ag5 hn 17 a b d oo
 have a2:=au9 hn 17 a b d oo
 unfold opV at a0 hE ⊢
 generalize opC 17 a b n d oo=oc at *
 generalize AaG (i+1) w N.r (AaX C N Z) X=Post at *
 generalize AaG (i+1) wA N.r (AaX C N Z) (Zn w wA X)=PostA at *
 generalize N.tab o=tt at *
 clear c1 c2 c20 c21
 replace ⟨a0,hE,hFin,a1,ud,hd,hl,a2⟩:=yh8 a0 hE hFin a1 ud hd hl a2;clear hA h hs hJ
 go_enter Tryz.func56,Tryz.ntmps56
 go_upto_region 0 with fail
 go_step
 refine aaY rfl 42 (.tmp 2) rfl _ _ (by exact a0.out) ?_
 go_upto_region 35 with fail
 go_step
 iterate 2
  refine aaR rfl _ _ (by go_simp;first|exact ⟨rfl,rfl⟩|rfl) ?_
  simp only [wz]
 refine aaN rfl 42 (.tmp 5) rfl w.heap.size 0 42 oc 22 dd rfl a1.out (by rw [hl.out];decide) ud.out hd.out aoS ?_
 rw [a2.out]
 simp only [wz]
 go_wp2_with fail
 refine hE.out.mono ?_
 rintro e w2 x
 obtain ⟨rfl,hQ⟩:=hFin.out _ _ x
 clear hE x hFin
 replace hQ:=hid hQ
 go_wp2
 exact hQ.out
theorem ay5 (h:NX w C N T B Z X) (hs:Aa8 B T C.G) (hJ:J7 i T) (o:Bool) (kd a b:Int) (h6:kd≠6) (a1:kd≠10) (a2:kd≠11) (a3:kd≠12) (a4:kd≠13) (a5:kd≠14) (a6:kd≠15) (a7:kd≠16) (a8:kd≠17) {n:Nd} (hn:n.ptr.length=12) (d:Value) (oo:Bool) :
  Calls prog 56 #[↑N.r,.pointer (some ⟨N.tab o,0,none⟩),opV kd a b n d oo] w (AaG (i+1) w N.r (AaX C N Z) X):=by
 have hA:=AdK.make h kd a b n d oo
 have a0:=ad4 w kd a b n d oo
 generalize w.alloc (opO kd a b n d oo)=wA at *
 have hQ:=(hA.nx.done hs hJ (AaA.refl NoF wA)).mv hA.kA
 obtain ⟨c0,c1,c2,c20,c21⟩:=acV hA.bO hn
 have b6:((kd:Int) == 6)=false:=by simpa using h6
 have b10:((kd:Int) == 10)=false:=by simpa using a1
 have b11:((kd:Int) == 11)=false:=by simpa using a2
 have b12:((kd:Int) == 12)=false:=by simpa using a3
 have b13:((kd:Int) == 13)=false:=by simpa using a4
 have b14:((kd:Int) == 14)=false:=by simpa using a5
 have b15:((kd:Int) == 15)=false:=by simpa using a6
 have b16:((kd:Int) == 16)=false:=by simpa using a7
 have b17:((kd:Int) == 17)=false:=by simpa using a8
 unfold opV at a0 ⊢
 generalize AaG (i+1) w N.r (AaX C N Z) X=Post at *
 generalize N.tab o=tt at *
 clear c1 c2 c20 c21
 replace ⟨a0,hQ⟩:=yh2 a0 hQ;clear hA h hs hJ
 go_enter Tryz.func56,Tryz.ntmps56
 go_upto_region 0 with fail
 go_step
 refine aaY rfl 42 (.tmp 2) rfl _ _ (by exact a0.out) ?_
 go_wp2
 exact hQ.out
theorem aCA (h:NX w C N T B Z X) (hs:Aa8 B T C.G) (hJ:J7 i T) (o:Bool) (kd a b:Int) (ha:IntKind.i64.wrap a=a) {n:Nd} (hn:n.ptr.length=12) (d:Value) (oo:Bool) (l:List UInt8) (hd:Ab8 w d l) (a8:l≠[]->∀ g,d.ownBlock=some g->¬ AaX C N Z g) :
  Calls prog 56 #[↑N.r,.pointer (some ⟨N.tab o,0,none⟩),opV kd a b n d oo] w (AaG (i+1) w N.r (AaX C N Z) X):=by
 by_cases h6:kd=6
 ·subst h6;exact ay6 h hs hJ o a b hn d oo
 by_cases a0:kd=10
 ·subst a0;exact awW h hs hJ o a b hn d oo l hd a8
 by_cases a1:kd=11
 ·subst a1;exact awV h hs hJ o a b hn d oo
 by_cases a2:kd=12
 ·subst a2;exact awU h hs hJ o a b ha hn d oo
 by_cases a3:kd=13
 ·subst a3;exact awT h hs hJ o a b hn d oo
 by_cases a4:kd=14
 ·subst a4;exact awS h hs hJ o a b ha hn d oo
 by_cases a5:kd=15
 ·subst a5;exact awR h hs hJ o a b hn d oo
 by_cases a6:kd=16
 ·subst a6;exact awQ h hs hJ o a b hn d oo
 by_cases a7:kd=17
 ·subst a7;exact awP h hs hJ o a b hn d oo
 exact ay5 h hs hJ o kd a b h6 a0 a1 a2 a3 a4 a5 a6 a7 hn d oo
end
section
variable {w:World} {C:TxC} {N:RgN} {T:TS} {B:TB} {Z X:Nat->Prop} {i:Nat}
theorem aAJ (h:NX w C N T B Z X) (hs:Aa8 B T C.G) (hJ:J7 i T) (a b:Int) {n:Nd} (hn:n.ptr.length=12) (d:Value) (o:Bool) :
  Calls prog 22 #[↑N.r,opV 3 a b n d o] w (AaG (i+1) w N.r (AaX C N Z) X):=by
 have hA:=AdK.make h 3 a b n d o
 have a1:=ad4 w 3 a b n d o
 obtain ⟨p1,p2,p3,p4⟩:=h.put_le hs
 obtain ⟨q1,q2⟩:=hs.save a (aeJ n hn) h.len
 generalize w.alloc (opO 3 a b n d o)=wA at *
 have hN:=hA.nx.node o
 have hPr:=hA.nx.pair hJ (T.save_like C.G a n) q2 (v2:=I ((T.save C.G a n).1:Nat)) (a2:=#[↑N.tb,I a,ndV n]) (f2:=52) ((aA8 hN a hn).mono λ e w1 x=>⟨x.1,x.2.1.pl,x.2.2⟩)
  (λ w1 t l=>by
   have:=az7 t p1 p2 a hn
   unfold AjT at this
   rw [q1] at this
   exact this)
 obtain ⟨c0,c1,c2,c20,c21⟩:=acV hA.bO hn
 obtain ⟨d2,d3⟩:=hA.nx.c23
 have d4:=hA.nx.c4
 have hFin:∀ w',AaG (i+1) wA N.r (AaX C N Z) (Zn w wA X) (U ↑true) w'->AaG (i+1) w N.r (AaX C N Z) X (U ↑true) w':=λ w' x=>x.mv hA.kA
 have a3:=ax8 hn 3 a b d o
 have a4:=ag5 hn 3 a b d o
 have sz:=aaK
 obtain ⟨dd,ud,hd⟩:=acJ
 have a0:=hA.bO
 generalize AaG (i+1) w N.r (AaX C N Z) X=Post at *
 generalize AaG (i+1) wA N.r (AaX C N Z) (Zn w wA X)=PostA at *
 unfold RgN.tab at hPr
 unfold ndV at hPr
 unfold opV at a1 ⊢
 unfold opO at a0
 generalize opC 3 a b n d o=oc at *
 have a5:=aaM hn
 generalize ndC n=cl at *
 generalize (T.save C.G a n).1=v at *
 clear hN
 replace ⟨hA,a1,hPr,hFin,h,a3,a4,sz⟩:=yh8 hA a1 hPr hFin h a3 a4 sz;replace ⟨ud,hd,a0,a5⟩:=yh4 ud hd a0 a5;clear hs hJ q1 q2 p1 p2 p3 p4
 go_enter Tryz.func22,Tryz.ntmps22
 go_upto_region 0 with fail
 go_step
 refine aaY rfl 42 (.tmp 1) rfl _ _ (by exact a1.out) ?_
 cases o
 all_goals
  go_upto_region 14 with fail
  go_step
  iterate 4
   refine aaR rfl _ _ (by go_simp;first|exact ⟨rfl,rfl⟩|rfl) ?_
   simp only [Act.put,List.setIfInBounds_toArray,List.set_cons_zero,List.set_cons_succ]
  refine aaN rfl 39 (.tmp 97) rfl w.heap.size 3 42 oc 17 dd rfl a0.out (by rw [a4.out];decide) ud.out hd.out sz.out ?_
  rw [a3.out]
  go_wp2_with fail
  refine hPr.out.mono ?_
  rintro e w1 ⟨rfl,k1,hD⟩
  have f4:w1.drew.cell? ⟨N.r,4,none⟩=some ↑N.tb:=k1.cellF d4 hA.out.rK
  have f1:w1.drew.cell? ⟨w.heap.size,1,none⟩=some (I a):=k1.cellF c1 hA.out.nK
  have fb:=(k1.blk a0.out hA.out.nK).drew
  have hD2:=hD _ ((AaA.refl NoF w1).drew)
  clear hPr c0 c1 c2 c20 c21 d2 d3 d4
  clear k1 hD
  go_upto_region 15 with fail
  refine wp_region_held_drew (S:=λ W=>W.cell? ⟨N.r,4,none⟩=some ↑N.tb/\W.cell? ⟨w.heap.size,1,none⟩=some (I a)/\Blk W w.heap.size (.cells oc.toArray 42 (0,0))) (by kernel_rfl) ⟨f4,f1,fb⟩ (λ hS0=>?_)
  refine wpAnyH_take (i:=0) rfl (by kernel_rfl) (by kernel_rfl) (by kernel_rfl) (λ _ _ _ h=>h) (Or.inl ⟨by rfl,λ W hW=>by obtain ⟨s4,s1,_⟩:=hW;first|(go_simp;rfl)|(go_simp;done)⟩) hS0 ?_
  try simp only [Act.put,List.getElem_toArray,List.getElem_cons_succ,List.getElem_cons_zero,List.setIfInBounds_toArray,List.set_cons_zero,List.set_cons_succ]
  refine wpAnyH_take (i:=1) rfl (by kernel_rfl) (by kernel_rfl) (by kernel_rfl) (λ _ _ _ h=>h) (Or.inl ⟨by rfl,λ W hW=>by obtain ⟨s4,s1,_⟩:=hW;first|(go_simp;rfl)|(go_simp;done)⟩) hS0 ?_
  try simp only [Act.put,List.getElem_toArray,List.getElem_cons_succ,List.getElem_cons_zero,List.setIfInBounds_toArray,List.set_cons_zero,List.set_cons_succ]
  refine wpAnyH_take (i:=2) rfl (by kernel_rfl) (by kernel_rfl) (by kernel_rfl) (λ _ _ _ h=>h) (Or.inl ⟨by rfl,λ W hW=>by obtain ⟨s4,s1,_⟩:=hW;first|(go_simp;rfl)|(go_simp;done)⟩) hS0 ?_
  try simp only [Act.put,List.getElem_toArray,List.getElem_cons_succ,List.getElem_cons_zero,List.setIfInBounds_toArray,List.set_cons_zero,List.set_cons_succ]
  refine wpAnyH_take (i:=3) rfl (by kernel_rfl) (by kernel_rfl) (by kernel_rfl) (λ _ _ _ h=>h) (Or.inl ⟨by rfl,λ W hW=>by obtain ⟨s4,s1,_⟩:=hW;first|(go_simp;rfl)|(go_simp;done)⟩) hS0 ?_
  try simp only [Act.put,List.getElem_toArray,List.getElem_cons_succ,List.getElem_cons_zero,List.setIfInBounds_toArray,List.set_cons_zero,List.set_cons_succ]
  refine wpAnyH_take (i:=4) rfl (by kernel_rfl) (by kernel_rfl) (by kernel_rfl) (λ _ _ _ h=>h) (Or.inl ⟨by rfl,λ W hW=>by obtain ⟨s4,s1,_⟩:=hW;first|(go_simp;rfl)|(go_simp;done)⟩) hS0 ?_
  try simp only [Act.put,List.getElem_toArray,List.getElem_cons_succ,List.getElem_cons_zero,List.setIfInBounds_toArray,List.set_cons_zero,List.set_cons_succ]
  refine wpAnyH_take (i:=5) rfl (by kernel_rfl) (by kernel_rfl) (by kernel_rfl) (λ _ _ _ h=>h) (Or.inl ⟨by rfl,λ W hW=>by obtain ⟨s4,s1,_⟩:=hW;first|(go_simp;rfl)|(go_simp;done)⟩) hS0 ?_
  try simp only [Act.put,List.getElem_toArray,List.getElem_cons_succ,List.getElem_cons_zero,List.setIfInBounds_toArray,List.set_cons_zero,List.set_cons_succ]
  refine wpAnyH_take (i:=6) rfl (by kernel_rfl) (by kernel_rfl) (by kernel_rfl) (λ _ _ _ h=>h) (Or.inl ⟨by rfl,λ W hW=>by obtain ⟨s4,s1,_⟩:=hW;first|(go_simp;rfl)|(go_simp;done)⟩) hS0 ?_
  try simp only [Act.put,List.getElem_toArray,List.getElem_cons_succ,List.getElem_cons_zero,List.setIfInBounds_toArray,List.set_cons_zero,List.set_cons_succ]
  refine wpAnyH_take (i:=7) rfl (by kernel_rfl) (by kernel_rfl) (by kernel_rfl) (λ _ _ _ h=>h) (yieldsIf_load_mid (by rfl) 39 (.tmp 106) rfl w.heap.size 3 rfl cl dd (λ W hW=>by have:=af4 hW.2.2 3 17;rwa [a3.out] at this) ud.out hd.out (by rw [a5.out];exact aaK)) hS0 ?_
  try simp only [Act.put,List.getElem_toArray,List.getElem_cons_succ,List.getElem_cons_zero,List.setIfInBounds_toArray,List.set_cons_zero,List.set_cons_succ]
  refine ahA (i:=8) (by kernel_rfl) rfl (by rfl) (λ K hK=>?_)
  go_simp
  refine hD2.mono ?_
  rintro e w2 ⟨rfl,k2,hE⟩
  refine hK.out _ _ ⟨k2.cellF f4 hA.out.rZ,k2.cellF f1 hA.out.nZ,k2.blk fb hA.out.nZ⟩ ?_
  clear hK K
  try simp only [Act.put,List.getElem_toArray,List.getElem_cons_succ,List.getElem_cons_zero,List.setIfInBounds_toArray,List.set_cons_zero,List.set_cons_succ]
  have a6:w2.cell? ⟨N.r,4,none⟩=some ↑N.tb/\w2.cell? ⟨w.heap.size,1,none⟩=some (I a)/\Blk w2 w.heap.size (.cells oc.toArray 42 (0,0)):=⟨k2.cellF f4 hA.out.rZ,k2.cellF f1 hA.out.nZ,k2.blk fb hA.out.nZ⟩
  refine wpAnyH_take (i:=9) rfl (by kernel_rfl) (by kernel_rfl) (by kernel_rfl) (λ _ _ _ h=>h) (Or.inl ⟨by rfl,λ W hW=>by obtain ⟨s4,s1,_⟩:=hW;first|(go_simp;rfl)|(go_simp;done)⟩) a6 ?_
  try simp only [Act.put,List.getElem_toArray,List.getElem_cons_succ,List.getElem_cons_zero,List.setIfInBounds_toArray,List.set_cons_zero,List.set_cons_succ]
  refine wpAnyH_done (by kernel_rfl) ?_ _
  refine ‹∀ (a:Act) (w:World),Code.wp _ _ _ a w->_› _ _ ?_
  have hQ:=hFin.out _ (hE w2 (AaA.refl _ w2))
  clear hS0 a6 hE k2 f4 f1 fb
  replace hQ:=hid hQ
  go_wp2
  exact hQ.out
end
end Go.Vk
