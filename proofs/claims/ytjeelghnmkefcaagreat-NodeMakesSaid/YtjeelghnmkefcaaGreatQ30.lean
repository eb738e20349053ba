/- Part of the proof: Nq5 Nq6 Nq7 Pk0 Nq4. -/
import Derived.Test.YtjeelghnmkefcaaGreatQ21
import Derived.Test.YtjeelghnmkefcaaGreatQ27
import Derived.Test.YtjeelghnmkefcaaGreatQ29
set_option linter.unusedVariables false
set_option maxHeartbeats 16000000
set_option maxRecDepth 100000
namespace Go.Vk
open Go.RowKit Go.Proofs
open Tryz (prog)
theorem asR (w:World) {n:Nd} (hn:n.ptr.length=12) (h0:n=Nd.zero):Calls prog 191 #[ndV n] w λ e w'=>e=U ↑true/\AaA NoF w w':=by
 have hq:=λ w=>alD w hn
 have a0:=aeL w n
 have a1:Blk (w.alloc (ndO n)) w.heap.size (ndO n):=Blk.new w _
 rw [decide_eq_true h0] at hq
 obtain ⟨d,ud,hd⟩:=acJ
 have hg:=ajG
 have a2:=abR hn
 have hl:=aaM hn
 have hk:=(AaA.refl NoF w).alloc (ndO n)
 unfold ndV at a0 ⊢
 unfold ndO at a1 a0 hk
 generalize a3:ndC n=cl at *
 generalize a4:w.alloc (.cells cl.toArray 39 (0,0))=w1 at *
 replace ⟨a1,ud,hd,hk,a2,hl,hn,a0⟩:=yh8 a1 ud hd hk a2 hl hn a0;clear h0 a3 a4
 go_enter Tryz.func191,Tryz.ntmps191
 iterate 3 go_step
 refine aaY rfl 39 (.tmp 0) rfl _ _ (by exact a0.out) ?_
 go_upto_region 1 with fail
 go_step
 refine aaN rfl 39 (.tmp 1) rfl w.heap.size 0 39 cl 17 d rfl a1.out (by rw [hl.out];decide) ud.out hd.out aaK ?_
 rw [a2.out]
 go_wp2_with fail
 go_ret
 exact ⟨rfl,hk.out⟩
theorem asS (w:World) {n:Nd} (hn:n.ptr.length=12) (h0:n≠Nd.zero):Calls prog 191 #[ndV n] w λ e w'=>e=U (.bool (decide (Ac4 n)))/\AaA NoF w w':=by
 have hq:=λ w=>alD w hn
 have ad:=aeL w n
 have a6:Blk (w.alloc (ndO n)) w.heap.size (ndO n):=Blk.new w _
 rw [decide_eq_false h0] at hq
 obtain ⟨d,ud,hd⟩:=acJ
 have hg:=ajG
 have ae:=abR hn
 have hl:=aaM hn
 have hk:=(AaA.refl NoF w).alloc (ndO n)
 obtain ⟨x0,x1,x2,x3,x4,x15,x16,xd⟩:=abF hn
 have a0:¬ NdIn n->decide (Ac4 n)=false:=λ h=>decide_eq_false (λ x=>x.elim h0 h)
 obtain ⟨pf,m1,m2,af⟩:∃ pf:Nat->Int,(∀ y∈n.ptr,∃ j,j<12/\y=pf j)/\(∀ j,j<12->pf j∈n.ptr)/\∀ (w:World) (i:Nat),i<12->Calls prog 193 #[ndV n,I i] w λ e w'=>e=U (I (pf i))/\AaA NoF w w':=by
  have g:∀ j (h:j<12),n.ptr[j]'(by omega)=n.ptr.getD j 0:=λ j h=>by rw [aEL,aEG (by omega)];rfl
  refine ⟨λ j=>n.ptr.getD j 0,λ y hy=>?_,λ j h=>?_,λ w i hi=>?_⟩
  ·obtain ⟨j,hj,e⟩:=List.getElem_of_mem hy
   exact ⟨j,by omega,by rw [← e];exact g j (by omega)⟩
  ·show n.ptr.getD j 0∈n.ptr
   rw [← g j h];exact List.getElem_mem _
  ·have:=am4 w hn i hi
   rw [g i hi] at this
   exact this
 have a1:NdIn n->decide (Ac4 n)=true:=λ h=>decide_eq_true (.inr h)
 unfold ndV at ad af ⊢
 unfold ndO at a6 ad hk
 generalize ah:ndC n=cl at *
 generalize ai:w.alloc (.cells cl.toArray 39 (0,0))=w1 at *
 have y0:=(a6.cell 0).trans x0
 have y1:=(a6.cell 1).trans x1
 have y2:=(a6.cell 2).trans x2
 have y3:=(a6.cell 3).trans x3
 have y4:=(a6.cell 4).trans x4
 clear x0 x1 x2 x3 x4 x15 x16 xd
 generalize ag:decide (Ac4 n)=res at *
 generalize a4:n.kind=nk at *
 generalize aa:n.links=nl at *
 generalize a7:n.parent=np at *
 generalize ab:n.size=ns at *
 generalize ac:n.owned=no at *
 replace ⟨a6,ud,hd,hk,ae,hl,hn,ad⟩:=yh8 a6 ud hd hk ae hl hn ad;replace ⟨a0,a1,af,m1,m2,a4,aa,a7⟩:=yh8 a0 a1 af m1 m2 a4 aa a7;replace ⟨ab,ac⟩:=yh2 ab ac;clear h0 ah ai ag
 go_enter Tryz.func191,Tryz.ntmps191
 iterate 3 go_step
 refine aaY rfl 39 (.tmp 0) rfl _ _ (by exact ad.out) ?_
 go_upto_region 1 with fail
 go_step
 refine aaN rfl 39 (.tmp 1) rfl w.heap.size 0 39 cl 17 d rfl a6.out (by rw [hl.out];decide) ud.out hd.out aaK ?_
 rw [ae.out]
 go_upto_region 3 with fail
 clear hq hg
 by_cases c1:nk<1
 ·have b1:decide (nk<1)=true:=decide_eq_true c1
  have hF:=a0.out (λ y=>by have:=y.k;have:=a4.out;omega)
  subst hF
  clear c1
  go_wp2_with fail
  go_ret
  exact ⟨rfl,hk.out⟩
 have b1:decide (nk<1)=false:=decide_eq_false c1
 by_cases c2:3<nk
 ·have b2:decide (3<nk)=true:=decide_eq_true c2
  have hF:=a0.out (λ y=>by have:=y.k;have:=a4.out;omega)
  subst hF
  clear c1 c2
  go_wp2_with fail
  go_ret
  exact ⟨rfl,hk.out⟩
 have b2:decide (3<nk)=false:=decide_eq_false c2
 by_cases c3:nl<0
 ·have b3:decide (nl<0)=true:=decide_eq_true c3
  have hF:=a0.out (λ y=>by have:=y.l;have:=aa.out;omega)
  subst hF
  clear c1 c2 c3
  go_wp2_with fail
  go_ret
  exact ⟨rfl,hk.out⟩
 have b3:decide (nl<0)=false:=decide_eq_false c3
 by_cases c4:64<nl
 ·have b4:decide (64<nl)=true:=decide_eq_true c4
  have hF:=a0.out (λ y=>by have:=y.l;have:=aa.out;omega)
  subst hF
  clear c1 c2 c3 c4
  go_wp2_with fail
  go_ret
  exact ⟨rfl,hk.out⟩
 have b4:decide (64<nl)=false:=decide_eq_false c4
 by_cases c5:ns<0
 ·have b5:decide (ns<0)=true:=decide_eq_true c5
  have hF:=a0.out (λ y=>by have:=y.s;have:=ab.out;omega)
  subst hF
  clear c1 c2 c3 c4 c5
  go_wp2_with fail
  go_ret
  exact ⟨rfl,hk.out⟩
 have b5:decide (ns<0)=false:=decide_eq_false c5
 by_cases c6:8459264<ns
 ·have b6:decide (8459264<ns)=true:=decide_eq_true c6
  have hF:=a0.out (λ y=>by have:=y.s;have:=ab.out;omega)
  subst hF
  clear c1 c2 c3 c4 c5 c6
  go_wp2_with fail
  go_ret
  exact ⟨rfl,hk.out⟩
 have b6:decide (8459264<ns)=false:=decide_eq_false c6
 by_cases c7:no<0
 ·have b7:decide (no<0)=true:=decide_eq_true c7
  have hF:=a0.out (λ y=>by have:=y.o;have:=ac.out;omega)
  subst hF
  clear c1 c2 c3 c4 c5 c6 c7
  go_wp2_with fail
  go_ret
  exact ⟨rfl,hk.out⟩
 have b7:decide (no<0)=false:=decide_eq_false c7
 by_cases c8:2048<no
 ·have b8:decide (2048<no)=true:=decide_eq_true c8
  have hF:=a0.out (λ y=>by have:=y.o;have:=ac.out;omega)
  subst hF
  clear c1 c2 c3 c4 c5 c6 c7 c8
  go_wp2_with fail
  go_ret
  exact ⟨rfl,hk.out⟩
 have b8:decide (2048<no)=false:=decide_eq_false c8
 replace ⟨c1,c2,c3,c4,c5,c6,c7,c8⟩:=yh8 c1 c2 c3 c4 c5 c6 c7 c8
 go_upto_region 5 with fail
 by_cases d1:nk=2
 ·have kb:(nk == 2)=true:=by simpa using d1
  have kn:(nk != 2)=false:=by simpa using d1
  by_cases d2:np<1
  ·have f2:decide (np<1)=true:=decide_eq_true d2
   have hF:=a0.out (λ y=>by have:=y.d (a4.out.trans d1);have:=a7.out;omega)
   subst hF
   clear d1 d2
   go_wp2_with fail
   go_ret
   exact ⟨rfl,hk.out⟩
  have f2:decide (np<1)=false:=decide_eq_false d2
  by_cases d3:1024<np
  ·have f3:decide (1024<np)=true:=decide_eq_true d3
   have hF:=a0.out (λ y=>by have:=y.d (a4.out.trans d1);have:=a7.out;omega)
   subst hF
   clear d1 d2 d3
   go_wp2_with fail
   go_ret
   exact ⟨rfl,hk.out⟩
  have f3:decide (1024<np)=false:=decide_eq_false d3
  have hG:(∀ x∈n.ptr,0<=x/\x<=2047)->res=true:=λ q=>a1.out ⟨by have:=a4.out;have:=c1.out;have:=c2.out;omega,by have:=aa.out;have:=c3.out;have:=c4.out;omega,by have:=ab.out;have:=c5.out;have:=c6.out;omega,by have:=ac.out;have:=c7.out;have:=c8.out;omega,λ e=>by have:=a4.out;have:=a7.out;omega,λ e=>by have:=a4.out;have:=a7.out;omega,q⟩
  have hB:∀ j,j<12->¬ (0<=pf j/\pf j<=2047)->res=false:=λ j h x=>a0.out λ y=>x (y.q _ (m2.out j h))
  have hA:(∀ j,j<12->0<=pf j/\pf j<=2047)->res=true:=λ x=>hG λ y hy=>by
   obtain ⟨j,hj,rfl⟩:=m1.out y hy
   exact x j hj
  replace ⟨d1,d2⟩:=yh2 d1 d2;clear d3
  clear hG
  replace ⟨hA,hB⟩:=yh2 hA hB
  go_wp2_with fail
  go_loopw [3] (λ i wr=>∃ k:Nat,k<=12/\i=I k/\(∀ j,j<k->0<=pf j/\pf j<=2047)/\Blk wr w.heap.size (.cells cl.toArray 39 (0,0))/\AaA NoF w wr) (λ i _=>12 - (intOf i).toNat)
  case atStart=>exact ⟨0,by omega,rfl,λ j h=>by omega,a6.out,hk.out⟩
  case round=>
   obtain ⟨k,hk1,rfl,a2,a3,kr⟩:=hrel
   by_cases hlt:k<12
   ·have a8:(k:Int)<12:=by omega
    have hp:=af.out wr k hlt
    have a5:=hB.out k hlt
    generalize hv:pf k=v at hp a5
    replace ⟨hp,a5,a3,kr,a2,hv⟩:=yh6 hp a5 a3 kr a2 hv
    go_wp2_with (refine aaN rfl 39 (.tmp 1) rfl w.heap.size 0 39 cl 17 d rfl a3.out (by rw [hl.out];decide) ud.out hd.out aaK ?_;rw [ae.out])
    refine hp.out.mono ?_
    rintro e w5 ⟨rfl,k5⟩
    have b5:=k5.blk a3.out (λ f=>f)
    have kk:=kr.out.step k5
    by_cases e1:v<0
    ·have g1:decide (v<0)=true:=decide_eq_true e1
     have hF:=a5.out (λ y=>by omega)
     subst hF
     clear hp k5 e1 a8
     replace ⟨b5,kk⟩:=yh2 b5 kk
     go_wp2_with fail
     go_ret
     exact ⟨rfl,kk.out⟩
    have g1:decide (v<0)=false:=decide_eq_false e1
    by_cases e2:2048<=v
    ·have g2:decide (2048<=v)=true:=decide_eq_true e2
     have hF:=a5.out (λ y=>by omega)
     subst hF
     clear hp k5 e1 e2 a8
     replace ⟨b5,kk⟩:=yh2 b5 kk
     go_wp2_with fail
     go_ret
     exact ⟨rfl,kk.out⟩
    have g2:decide (2048<=v)=false:=decide_eq_false e2
    have a9:∀ j,j<k+1->0<=pf j/\pf j<=2047:=λ j hj=>by
     by_cases x:j=k
     ·subst x;rw [hv.out];omega
     ·exact a2.out j (by omega)
    clear hp k5 a5 a3 kr a2
    replace ⟨b5,kk,e1,e2,a9⟩:=yh5 b5 kk e1 e2 a9
    go_wp2_with fail
    go_roundw
    case rel=>exact ⟨k+1,by omega,by go_num,a9.out,b5.out,kk.out⟩
    case measure=>simp [intOf];omega
   ·have a8:¬ (k:Int)<12:=by omega
    obtain rfl:k=12:=by omega
    have hF:=hA.out a2
    subst hF
    replace ⟨a2,a3,kr⟩:=yh3 a2 a3 kr
    go_wp2_with fail
    go_ret
    exact ⟨rfl,kr.out⟩
 ·have kb:(nk == 2)=false:=by simpa using d1
  have kn:(nk != 2)=true:=by simpa using d1
  by_cases d2:np=0
  ·have f2:(np != 0)=false:=by simpa using d2
   have hG:(∀ x∈n.ptr,0<=x/\x<=2047)->res=true:=λ q=>a1.out ⟨by have:=a4.out;have:=c1.out;have:=c2.out;omega,by have:=aa.out;have:=c3.out;have:=c4.out;omega,by have:=ab.out;have:=c5.out;have:=c6.out;omega,by have:=ac.out;have:=c7.out;have:=c8.out;omega,λ e=>by have:=a4.out;have:=a7.out;omega,λ e=>by have:=a4.out;have:=a7.out;omega,q⟩
   have hB:∀ j,j<12->¬ (0<=pf j/\pf j<=2047)->res=false:=λ j h x=>a0.out λ y=>x (y.q _ (m2.out j h))
   have hA:(∀ j,j<12->0<=pf j/\pf j<=2047)->res=true:=λ x=>hG λ y hy=>by
    obtain ⟨j,hj,rfl⟩:=m1.out y hy
    exact x j hj
   replace ⟨d1,d2⟩:=yh2 d1 d2
   clear hG
   replace ⟨hA,hB⟩:=yh2 hA hB
   go_wp2_with fail
   go_loopw [3] (λ i wr=>∃ k:Nat,k<=12/\i=I k/\(∀ j,j<k->0<=pf j/\pf j<=2047)/\Blk wr w.heap.size (.cells cl.toArray 39 (0,0))/\AaA NoF w wr) (λ i _=>12 - (intOf i).toNat)
   case atStart=>exact ⟨0,by omega,rfl,λ j h=>by omega,a6.out,hk.out⟩
   case round=>
    obtain ⟨k,hk1,rfl,a2,a3,kr⟩:=hrel
    by_cases hlt:k<12
    ·have a8:(k:Int)<12:=by omega
     have hp:=af.out wr k hlt
     have a5:=hB.out k hlt
     generalize hv:pf k=v at hp a5
     replace ⟨hp,a5,a3,kr,a2,hv⟩:=yh6 hp a5 a3 kr a2 hv
     go_wp2_with (refine aaN rfl 39 (.tmp 1) rfl w.heap.size 0 39 cl 17 d rfl a3.out (by rw [hl.out];decide) ud.out hd.out aaK ?_;rw [ae.out])
     refine hp.out.mono ?_
     rintro e w5 ⟨rfl,k5⟩
     have b5:=k5.blk a3.out (λ f=>f)
     have kk:=kr.out.step k5
     by_cases e1:v<0
     ·have g1:decide (v<0)=true:=decide_eq_true e1
      have hF:=a5.out (λ y=>by omega)
      subst hF
      clear hp k5 e1 a8
      replace ⟨b5,kk⟩:=yh2 b5 kk
      go_wp2_with fail
      go_ret
      exact ⟨rfl,kk.out⟩
     have g1:decide (v<0)=false:=decide_eq_false e1
     by_cases e2:2048<=v
     ·have g2:decide (2048<=v)=true:=decide_eq_true e2
      have hF:=a5.out (λ y=>by omega)
      subst hF
      clear hp k5 e1 e2 a8
      replace ⟨b5,kk⟩:=yh2 b5 kk
      go_wp2_with fail
      go_ret
      exact ⟨rfl,kk.out⟩
     have g2:decide (2048<=v)=false:=decide_eq_false e2
     have a9:∀ j,j<k+1->0<=pf j/\pf j<=2047:=λ j hj=>by
      by_cases x:j=k
      ·subst x;rw [hv.out];omega
      ·exact a2.out j (by omega)
     clear hp k5 a5 a3 kr a2
     replace ⟨b5,kk,a9⟩:=yh3 b5 kk a9;clear e1 e2
     go_wp2_with fail
     go_roundw
     case rel=>exact ⟨k+1,by omega,by go_num,a9.out,b5.out,kk.out⟩
     case measure=>simp [intOf];omega
    ·have a8:¬ (k:Int)<12:=by omega
     obtain rfl:k=12:=by omega
     have hF:=hA.out a2
     subst hF
     replace kr:=hid kr;clear a2 a3
     go_wp2_with fail
     go_ret
     exact ⟨rfl,kr.out⟩
  ·have f2:(np != 0)=true:=by simpa using d2
   have hF:=a0.out (λ y=>by have:=y.p (λ e=>d1 (a4.out.symm.trans e));have:=a7.out;omega)
   subst hF
   clear d1 d2
   go_wp2_with fail
   go_ret
   exact ⟨rfl,hk.out⟩
theorem aA1 (w:World) {n:Nd} (hn:n.ptr.length=12):Calls prog 191 #[ndV n] w λ e w'=>e=U (.bool (decide (Ac4 n)))/\AaA NoF w w':=by
 by_cases h:n=Nd.zero
 ·have:decide (Ac4 n)=true:=decide_eq_true (.inl h)
  rw [this]
  exact asR w hn h
 ·exact asS w hn h
theorem aBQ (pre b:List UInt8) (s m:Nat) (h:s+b.length<=m):lay (pre++aaD m) (pre.length+s) b=pre++aaD s++b++aaD (m - s - b.length):=by
 unfold lay
 have e:aaD m=aaD s++(aaD b.length++aaD (m - s - b.length)):=by
  unfold aaD
  rw [List.replicate_append_replicate,List.replicate_append_replicate]
  congr 1;omega
 rw [e]
 have t:(pre++(aaD s++(aaD b.length++aaD (m - s - b.length)))).take (pre.length+s)=pre++aaD s:=by
  rw [← aEQ]
  exact aE0 (by rw [aEH,aaF])
 have d:(pre++(aaD s++(aaD b.length++aaD (m - s - b.length)))).drop (pre.length+s+b.length)=aaD (m - s - b.length):=by
  rw [← aEQ,← aEQ]
  exact List.drop_left' (by rw [aEH,aEH,aaF,aaF])
 rw [t,d]
 simp only [aEQ]
theorem al5 {v a:Nat} (h:v<256 ^ a) (c:Nat):aaB v (a+c)=aaB v a++aaD c:=by
 induction c with
 | zero=>simp [aaD]
 | succ c ih=>
  have hz:aa9 v (a+c)=0:=by
   unfold aa9
   have h1:v<2 ^ (8*(a+c)):=aEJ h (by rw [show (256:Nat)=2 ^ 8 from rfl,← Nat.pow_mul];exact aE5 (by decide) (by omega))
   rw [Nat.div_eq_of_lt h1]
   rfl
  rw [← Nat.add_assoc,af7,ih,hz,aEQ]
  unfold aaD
  rw [List.replicate_succ']
structure QenS (w0 w:World) (g:Nat) (cl:List Value) (pre:List UInt8):Prop where
 bg:Blk w g (aaE (pre++aaD (128 - pre.length)))
 b:Blk w w0.heap.size (.cells cl.toArray 39 (0,0))
 k:AaA NoF w0 w
 lo:w0.heap.size<g
theorem QenS.num {w0 w:World} {g:Nat} {cl:List Value} {pre:List UInt8} (h:QenS w0 w g cl pre) (s n v at_:Nat) (a0:pre.length+s=at_) (hn:n<=8) (hv:v<9223372036854775808) (hl:pre.length+s+n<=128) :
  Calls prog 192 #[.slice ↑g 128 128,I at_,I n,I v] w λ e w'=>e=U (.tuple #[])/\QenS w0 w' g cl (pre++aaD s++aaB v n):=by
 subst a0
 have hlen:(pre++aaD (128 - pre.length)).length=128:=by rw [aEH,aaF];omega
 have:=aC3 w g 128 (pre.length+s) _ h.bg n v hn hv (by rw [hlen];omega) (by rw [hlen];decide)
 rw [hlen] at this
 refine this.mono ?_
 rintro e w' ⟨rfl,b,k⟩
 have hp:=aBQ pre (aaB v n) s (128 - pre.length) (by rw [aaC];omega)
 rw [hp] at b
 refine ⟨rfl,?_,k.blk h.b (λ e=>by have:=h.lo;omega),h.k.fresh k (λ i e=>by have:=h.lo;omega),h.lo⟩
 rw [show 128 - (pre++aaD s++aaB v n).length=128 - pre.length - s - (aaB v n).length by rw [aEH,aEH,aaF];omega]
 exact b
theorem QenS.pad {w0 w:World} {g:Nat} {cl:List Value} {pre:List UInt8} (h:QenS w0 w g cl pre) (s:Nat) (hl:pre.length+s<=128):QenS w0 w g cl (pre++aaD s):=by
 refine ⟨?_,h.b,h.k,h.lo⟩
 have:pre++aaD s++aaD (128 - (pre++aaD s).length)=pre++aaD (128 - pre.length):=by
  rw [aEQ,aEH,aaF]
  congr 1
  unfold aaD
  rw [List.replicate_append_replicate]
  congr 1;omega
 rw [this]
 exact h.bg
theorem QenS.cell {w0 w:World} {g:Nat} {cl:List Value} {pre:List UInt8} (h:QenS w0 w g cl pre) {i:Nat} {v:Value} (hv:cl.toArray[i]? = some v):w.cell? ⟨w0.heap.size,i,none⟩=some v:=(h.b.cell i).trans hv
theorem QenS.quiet {w0 w w':World} {g:Nat} {cl:List Value} {pre:List UInt8} (h:QenS w0 w g cl pre) (k:AaA NoF w w'):QenS w0 w' g cl pre:=
 ⟨k.blk h.bg (λ f=>f),k.blk h.b (λ f=>f),h.k.step k,h.lo⟩
theorem auV (w:World) {n:Nd} (hn:n.ptr.length=12):Calls prog 118 #[ndV n] w (Ah2 w n):=by
 have aD:=aBH
 have a9:=aeL w n
 have a1:Blk (w.alloc (ndO n)) w.heap.size (ndO n):=Blk.new w _
 have hF:=λ w=>aA1 w hn
 obtain ⟨d,ud,hd⟩:=acJ
 have ad:=abR hn
 have hl:=aaM hn
 have hk:=(AaA.refl NoF w).alloc (ndO n)
 obtain ⟨x0,x1,x2,x3,x4,x15,x16,xd⟩:=abF hn
 have a0:Ac4 n->∀ g w',AaA NoF w w'->w.heap.size<=g->Blk w' g (aaE (encN n))->Ah2 w n (U (.tuple #[.slice (some ⟨g,0,none⟩) 128 128,I 0])) w':=λ a g w' b c d=>⟨b,.inl ⟨a,g,c,rfl,d⟩⟩
 have a6:¬ Ac4 n->∀ w',AaA NoF w w'->Ah2 w n (U (.tuple #[.slice none 0 0,I 20])) w':=λ a w' b=>⟨b,.inr ⟨a,rfl⟩⟩
 obtain ⟨pf,m1,am⟩:∃ pf:Nat->Int,(∀ j (h:j<12),n.ptr[j]'(by omega)=pf j)/\∀ (w:World) (i:Nat),i<12->Calls prog 193 #[ndV n,I i] w λ e w'=>e=U (I (pf i))/\AaA NoF w w':=by
  have g:∀ j (h:j<12),n.ptr[j]'(by omega)=n.ptr.getD j 0:=λ j h=>by rw [aEL,aEG (by omega)];rfl
  refine ⟨λ j=>n.ptr.getD j 0,g,λ w i hi=>?_⟩
  have:=am4 w hn i hi
  rw [g i hi] at this
  exact this
 generalize Ah2 w n=Post at *
 unfold ndV at a9 hF am ⊢
 unfold ndO at a1 a9 hk
 generalize ab:ndC n=cl at *
 generalize af:w.alloc (.cells cl.toArray 39 (0,0))=w1 at *
 by_cases a2:Ac4 n
 ·rw [decide_eq_true a2] at hF
  have a0:=a0 a2
  clear a6
  have y0:=(a1.cell 0).trans x0
  have y1:=(a1.cell 1).trans x1
  have y2:=(a1.cell 2).trans x2
  have y3:=(a1.cell 3).trans x3
  have y4:=(a1.cell 4).trans x4
  have y15:=(a1.cell 15).trans x15
  have y16:=(a1.cell 16).trans x16
  clear x0 x1 x2 x3 x4 x15 x16
  replace ⟨a1,ud,hd,hk,ad,hl,hn,a9⟩:=yh8 a1 ud hd hk ad hl hn a9;replace ⟨hF,a0,ab,af,xd,a2,m1,am⟩:=yh8 hF a0 ab af xd a2 m1 am
  go_enter Tryz.func118,Tryz.ntmps118
  go_upto_region 0 with fail
  go_step
  refine aaY rfl 39 (.tmp 0) rfl _ _ (by exact a9.out) ?_
  go_upto_region 1 with fail
  go_step
  refine aaN rfl 39 (.tmp 1) rfl w.heap.size 0 39 cl 17 d rfl a1.out (by rw [hl.out];decide) ud.out hd.out aaK ?_
  rw [ad.out]
  go_wp2_with fail
  refine (hF.out _).mono ?_
  rintro e w2 ⟨rfl,k2⟩
  have hlt:=a1.out.lt
  have aE:=k2.size
  have an:=k2.blk a1.out (λ f=>f)
  replace y0:=k2.cellF y0 (λ f=>f)
  replace y1:=k2.cellF y1 (λ f=>f)
  replace y2:=k2.cellF y2 (λ f=>f)
  replace y3:=k2.cellF y3 (λ f=>f)
  replace y4:=k2.cellF y4 (λ f=>f)
  replace y15:=k2.cellF y15 (λ f=>f)
  replace y16:=k2.cellF y16 (λ f=>f)
  have ao:=hk.out.step k2
  clear k2 af a9 hk hF
  clear a1
  replace ⟨an,ao⟩:=yh2 an ao
  go_upto_region 4 with fail
  have ag:=Blk.new w2 (aaE (aaD 128))
  have ap:=an.out.alloc (aaE (aaD 128))
  have hkB:=ao.out.alloc (aaE (aaD 128))
  replace y0:=aaU y0 (aaE (aaD 128))
  clear y1 y2 y3 y4 y15 y16
  clear ao an
  generalize w2.alloc (aaE (aaD 128))=w3 at *
  have aF:w.heap.size<w2.heap.size:=by omega
  generalize w2.heap.size=g at *
  clear aE hlt aD
  clear w2
  by_cases ac:n.kind=0
  ·have hE:encN n=aaD 128:=apM ac
   have hP:=a0.out g w3 hkB (by omega) (by rw [hE];exact ag)
   clear a0
   rw [ac] at y0
   replace ⟨ag,ap,hkB,hP,ac⟩:=yh5 ag ap hkB hP ac;clear hE
   go_wp2
   exact hP.out
  ·have a4:NdIn n:=a2.out.elim (λ e=>absurd (by rw [e];rfl) ac) id
   have aw:0<=n.parent/\n.parent<=1024:=by
    by_cases e:n.kind=2
    ·have:=a4.d e;omega
    ·have:=a4.p e;omega
   have hS:QenS w w3 g cl []:=⟨by rw [List.nil_append];exact ag,ap,hkB,aF⟩
   obtain ⟨q0,e0⟩:∃ q:Nat,n.kind=q:=⟨n.kind.toNat,by have:=a4.k;omega⟩
   obtain ⟨q1,e1⟩:∃ q:Nat,n.links=q:=⟨n.links.toNat,by have:=a4.l;omega⟩
   obtain ⟨q2,e2⟩:∃ q:Nat,n.parent=q:=⟨n.parent.toNat,by omega⟩
   obtain ⟨q3,e3⟩:∃ q:Nat,n.size=q:=⟨n.size.toNat,by have:=a4.s;omega⟩
   obtain ⟨q4,e4⟩:∃ q:Nat,n.owned=q:=⟨n.owned.toNat,by have:=a4.o;omega⟩
   have b0:q0<9223372036854775808:=by have:=a4.k;omega
   have b1:q1<9223372036854775808:=by have:=a4.l;omega
   have b2:q2<9223372036854775808:=by omega
   have b3:q3<9223372036854775808:=by have:=a4.s;omega
   have b4:q4<9223372036854775808:=by have:=a4.o;omega
   have ae:n.ptr=(List.range 12).map pf:=by
    apply List.ext_getElem
    ·rw [aEU,List.length_range,hn.out]
    ·intro i h1 h2
     rw [List.getElem_map,List.getElem_range]
     exact m1.out i (by rw [hn.out] at h1;exact h1)
   have hq:∀ k,k<12->0<=pf k/\pf k<=2047:=λ k hk=>a4.q _ (by rw [ae];exact List.mem_map.2 ⟨k,List.mem_range.2 hk,rfl⟩)
   obtain ⟨flat,a3⟩:∃ flat:Nat->List UInt8,∀ k,flat k=(List.range k).flatMap λ j=>aaB (pf j).toNat 4:=⟨_,λ _=>rfl⟩
   have aq:∀ k,flat (k+1)=flat k++aaB (pf k).toNat 4:=λ k=>by rw [a3,a3,List.range_succ,List.flatMap_append];simp
   have ar:flat 0=[]:=by rw [a3];rfl
   have ah:∀ k,(flat k).length=4*k:=λ k=>by
    induction k with
    | zero=>rw [ar];rfl
    | succ k ih=>rw [aq,aEH,ih,aaC];omega
   have l0:aaB q0 2=aaB q0 1++aaD 1:=al5 (a:=1) (by have:=a4.k;omega) 1
   have l4:aaB q4 8=aaB q4 4++aaD 4:=al5 (a:=4) (by have:=a4.o;omega) 4
   have a5:ab7 n=(([]++aaD 0++aaB q0 1++aaD 1++aaB q1 2++aaD 0++aaB q2 4++aaD 0++aaB q3 8++aaD 0++aaB q4 4++aaD 4)++flat 12)++aaD 52:=by
    unfold ab7
    rw [e0,e1,e2,e3,e4,ae,List.flatMap_map,a3]
    simp only [Int.toNat_natCast]
    rw [l0,l4]
    simp [aaD]
   have aa:encN n=ab7 n++aaB (crc (ab7 n)) 4:=if_neg ac
   have hbl2:=akE n hn.out
   have x0:cl.toArray[0]? = some (I q0):=by rw [← e0,← ab.out];exact (abF hn.out).1
   have x1:cl.toArray[1]? = some (I q1):=by rw [← e1,← ab.out];exact (abF hn.out).2.1
   have x2:cl.toArray[2]? = some (I q2):=by rw [← e2,← ab.out];exact (abF hn.out).2.2.1
   have x3:cl.toArray[3]? = some (I q3):=by rw [← e3,← ab.out];exact (abF hn.out).2.2.2.1
   have x4:cl.toArray[4]? = some (I q4):=by rw [← e4,← ab.out];exact (abF hn.out).2.2.2.2.1
   have hkz':¬ ((q0:Nat):Int)=0:=by rw [← e0];exact ac
   clear y0 e0 e1 e2 e3 e4 ac hkB ag ap aw a4 ae l0 l4
   have y0:=hS.cell x0
   replace ⟨hS,x1,x2,x3,x4,b0,b1,b2⟩:=yh8 hS x1 x2 x3 x4 b0 b1 b2;replace ⟨b3,b4,hq,aq,ar,ah,a5,aa⟩:=yh8 b3 b4 hq aq ar ah a5 aa;replace hbl2:=hid hbl2;clear x0 a3
   go_wp2_with fail
   refine (hS.out.num 0 1 q0 0 rfl (by decide) b0.out (by simp only [aEH,List.length_nil,aaC,aaF];decide)).mono ?_
   rintro e w10 ⟨rfl,S1⟩
   have y1:=S1.cell x1.out
   clear hS y0
   clear w3
   replace S1:=hid S1
   go_wp2_with fail
   refine (S1.out.num 1 2 q1 2 (by simp only [aEH,List.length_nil,aaC,aaF]) (by decide) b1.out (by simp only [aEH,List.length_nil,aaC,aaF];decide)).mono ?_
   rintro e w11 ⟨rfl,S2⟩
   have y2:=S2.cell x2.out
   clear S1 y1
   clear w10
   replace S2:=hid S2
   go_wp2_with fail
   refine (S2.out.num 0 4 q2 4 (by simp only [aEH,List.length_nil,aaC,aaF]) (by decide) b2.out (by simp only [aEH,List.length_nil,aaC,aaF];decide)).mono ?_
   rintro e w12 ⟨rfl,S3⟩
   have y3:=S3.cell x3.out
   clear S2 y2
   clear w11
   replace S3:=hid S3
   go_wp2_with fail
   refine (S3.out.num 0 8 q3 8 (by simp only [aEH,List.length_nil,aaC,aaF]) (by decide) b3.out (by simp only [aEH,List.length_nil,aaC,aaF];decide)).mono ?_
   rintro e w13 ⟨rfl,S4⟩
   have y4:=S4.cell x4.out
   clear S3 y3
   clear w12
   replace S4:=hid S4
   go_wp2_with fail
   refine (S4.out.num 0 4 q4 16 (by simp only [aEH,List.length_nil,aaC,aaF]) (by decide) b4.out (by simp only [aEH,List.length_nil,aaC,aaF];decide)).mono ?_
   rintro e w14 ⟨rfl,S5⟩
   have S6:=S5.pad 4 (by simp only [aEH,List.length_nil,aaC,aaF];decide)
   clear S4 y4 S5
   clear w13
   have ai:([]++aaD 0++aaB q0 1++aaD 1++aaB q1 2++aaD 0++aaB q2 4++aaD 0++aaB q3 8++aaD 0++aaB q4 4++aaD 4).length=24:=by simp only [aEH,List.length_nil,aaC,aaF]
   generalize []++aaD 0++aaB q0 1++aaD 1++aaB q1 2++aaD 0++aaB q2 4++aaD 0++aaB q3 8++aaD 0++aaB q4 4++aaD 4=p24 at *
   replace ⟨S6,ai⟩:=yh2 S6 ai
   go_wp2_with fail
   go_loopw [5] (λ i wr=>∃ k:Nat,k<=12/\i=I k/\QenS w wr g cl (p24++flat k)) (λ i _=>12 - (intOf i).toNat)
   case atStart=>exact ⟨0,by omega,rfl,by rw [ar.out,aE3];exact S6.out⟩
   case round=>
    obtain ⟨k,hk1,rfl,S7⟩:=hrel
    clear S6
    by_cases hlt:k<12
    ·have aG:(k:Int)<12:=by omega
     have hp:=am.out wr k hlt
     have aj:=aq.out k
     have au:=hq.out k hlt
     obtain ⟨q,ax⟩:∃ q:Nat,pf k=q:=⟨(pf k).toNat,by omega⟩
     rw [ax] at hp au
     rw [ax,Int.toNat_natCast] at aj
     have af:IntKind.i64.wrap (4*(k:Int))=4*(k:Int):=aaO (by omega) (by omega)
     have hw2:IntKind.i64.wrap (24+4*(k:Int))=24+4*(k:Int):=aaO (by omega) (by omega)
     have av:=S7.b
     replace ⟨hp,aj,S7,av,au⟩:=yh5 hp aj S7 av au;clear ax
     go_wp2_with (refine aaN rfl 39 (.tmp 1) rfl w.heap.size 0 39 cl 17 d rfl av.out (by rw [hl.out];decide) ud.out hd.out aaK ?_;rw [ad.out])
     refine hp.out.mono ?_
     rintro e w5 ⟨rfl,k5⟩
     have S8:=S7.out.quiet k5
     have hnum:=S8.num 0 4 q (24+4*k) (by rw [aEH,ai.out,ah.out,Nat.add_zero]) (by decide) (by have:=au.out;omega) (by rw [aEH,ai.out,ah.out];omega)
     rw [show ((24+4*k:Nat):Int)=24+4*(k:Int) by omega] at hnum
     have ak:p24++flat k++aaD 0++aaB q 4=p24++flat (k+1):=by rw [aj.out];simp [aaD]
     rw [ak] at hnum
     clear hp k5 S7 av aj
     replace hnum:=hid hnum;clear S8 ak
     go_wp2_with fail
     refine hnum.out.mono ?_
     rintro e w6 ⟨rfl,S9⟩
     clear hnum
     replace S9:=hid S9
     go_wp2_with fail
     go_roundw
     case rel=>exact ⟨k+1,by omega,by go_num,S9.out⟩
     case measure=>simp [intOf];omega
    ·have aG:¬ (k:Int)<12:=by omega
     obtain rfl:k=12:=by omega
     have ay:=a5.out
     have aC:=aa.out
     have a7:(p24++flat 12).length=72:=by rw [aEH,ai.out,ah.out]
     generalize p24++flat 12=p72 at *
     have al:(p72++aaD (128 - p72.length)).take 124=ab7 n:=by
      rw [a7,show aaD (128 - 72)=aaD 52++aaD 4 from rfl,← aEQ,← ay]
      exact aE0 hbl2.out
     have a8:=aC2 wr g 0 128 (p72++aaD (128 - p72.length)) (λ j h=>by rw [Nat.zero_add];exact adU S7.bg j h) 124 (by rw [aEH,aaF,a7];decide) (by decide)
     rw [al] at a8
     have hnum:=S7.num 52 4 (crc (ab7 n)) 124 (by rw [a7]) (by decide) (by have:=awF (ab7 n);omega) (by rw [a7];decide)
     rw [← ay,← aC] at hnum
     have az:=aeJ n hn.out
     have aA:=S7.lo
     generalize crc (ab7 n)=cr at *
     clear ay aC al
     replace ⟨a8,hnum,az,aA⟩:=yh4 a8 hnum az aA;clear a7 S7 aa a5
     go_wp2_with fail
     refine a8.out.mono ?_
     rintro e w5 ⟨rfl,rfl⟩
     clear a8
     go_wp2_with fail
     refine hnum.out.mono ?_
     rintro e w6 ⟨rfl,S9⟩
     have aB:=S9.bg
     rw [az.out,show aaD (128 - 128)=[] from rfl,aE3] at aB
     have hP:=a0.out g w6 S9.k (by have:=aA.out;omega) aB
     clear hnum aB S9
     replace hP:=hid hP
     go_wp2_with fail
     exact hP.out
 ·rw [decide_eq_false a2] at hF
  have a6:=a6 a2
  clear a0 x0 x1 x2 x3 x4 x15 x16
  replace ⟨a1,ud,hd,hk,ad,hl,hn,a9⟩:=yh8 a1 ud hd hk ad hl hn a9;replace ⟨hF,a6⟩:=yh2 hF a6;clear ab af xd a2
  go_enter Tryz.func118,Tryz.ntmps118
  go_upto_region 0 with fail
  go_step
  refine aaY rfl 39 (.tmp 0) rfl _ _ (by exact a9.out) ?_
  go_upto_region 1 with fail
  go_step
  refine aaN rfl 39 (.tmp 1) rfl w.heap.size 0 39 cl 17 d rfl a1.out (by rw [hl.out];decide) ud.out hd.out aaK ?_
  rw [ad.out]
  go_wp2_with ((with_reducible refine (hF.out _).mono ?_);rintro e w2 ⟨rfl,k2⟩;replace k2:=hid k2)
  exact a6.out _ (hk.out.step k2.out)
def Ab8 (w:World) (v:Value) (l:List UInt8):Prop:=
 ∃ a cap,v=.slice a l.length cap/\(l=[]∨∃ g o,a=some ⟨g,o,none⟩/\∀ i (h:i<l.length),w.cell? ⟨g,o+i,none⟩=some (.int .u8 (l[i].toNat:Nat)))
theorem Ab5.sl {w:World} {lo:Nat} {v:Value} {l:List UInt8} (h:Ab5 w lo v l):Ab8 w v l:=by
 obtain ⟨a,cap,e⟩:=acG h
 refine ⟨a,cap,e,?_⟩
 by_cases hl:l=[]
 ·exact .inl hl
 ·right
  obtain ⟨g,c,e2,_⟩:=ab9 h (List.length_pos_iff.2 hl)
  rw [e] at e2
  injection e2 with e2 _ e3
  subst e2 e3
  refine ⟨g,0,rfl,λ i hi=>?_⟩
  rw [Nat.zero_add]
  rw [e] at h
  exact adS h i _ (by rw [aEZ,aEG hi];rfl)
theorem Ab8.keeps {w w':World} {v:Value} {l:List UInt8} (h:Ab8 w v l) {Gf:Nat->Prop} (k:AaA Gf w w') (hG:∀ g,v.ownBlock=some g->¬ Gf g):Ab8 w' v l:=by
 obtain ⟨a,cap,rfl,h⟩:=h
 refine ⟨a,cap,rfl,?_⟩
 rcases h with h|⟨g,o,rfl,h⟩
 ·exact .inl h
 ·exact .inr ⟨g,o,rfl,λ i hi=>k.cellF (h i hi) (hG g rfl)⟩
theorem aA0 (w:World) (v1 v2:Value) (l1 l2:List UInt8) (h1:Ab8 w v1 l1) (h2:Ab8 w v2 l2) (b1:l1.length<=4096) (b2:l2.length<=4096) :
  Calls prog 203 #[v1,v2] w λ e w'=>e=U (.bool (decide (l1=l2)))/\∃ m,w'=w.drewN m:=by
 obtain ⟨a1,c1,rfl,h1⟩:=h1
 obtain ⟨a2,c2,rfl,h2⟩:=h2
 by_cases hl:l1.length=l2.length
 ·obtain ⟨n,hn⟩:∃ n,l1.length=n:=⟨_,rfl⟩
  have a0:l2.length=n:=by omega
  rw [hn] at b1 ⊢
  rw [a0]
  have hfin:∀ k,l1.take k=l2.take k->k=n->decide (l1=l2)=true:=λ k hk e=>by
   rw [e,← hn,List.take_length,hn,← a0,List.take_length] at hk;simpa using hk
  have hst:∀ k (x:k<l1.length) (y:k<l2.length),l1.take k=l2.take k->l1[k]=l2[k]->l1.take (k+1)=l2.take (k+1):=λ k x y p q=>by
   rw [List.take_add_one,List.take_add_one,aEG x,aEG y,p,q]
  have a3:∀ k (x:k<l1.length) (y:k<l2.length),l1[k]≠l2[k]->decide (l1=l2)=false:=λ k x y p=>by
   simp only [decide_eq_false_iff_not]
   intro e
   subst e
   exact p rfl
  have hcel:∀ k,k<n->∃ g1 o1 g2 o2,a1=some ⟨g1,o1,none⟩/\a2=some ⟨g2,o2,none⟩/\(∀ (x:k<l1.length),w.cell? ⟨g1,o1+k,none⟩=some (.int .u8 (l1[k].toNat:Nat)))/\(∀ (y:k<l2.length),w.cell? ⟨g2,o2+k,none⟩=some (.int .u8 (l2[k].toNat:Nat))):=λ k hk=>by
   rcases h1 with h1|⟨g1,o1,e1,h1⟩
   ·rw [h1] at hn;simp at hn;omega
   ·rcases h2 with h2|⟨g2,o2,e2,h2⟩
    ·rw [h2] at a0;simp at a0;omega
    ·exact ⟨g1,o1,g2,o2,e1,e2,λ x=>h1 k x,λ y=>h2 k y⟩
  replace ⟨hfin,hst,a3,hcel,hn,a0,hl⟩:=yh7 hfin hst a3 hcel hn a0 hl;clear h1 h2
  go_enter Tryz.func203,Tryz.ntmps203
  go_wp2
  go_loopw [5] (λ i wr=>∃ k m:Nat,k<=n/\i=I k/\wr=w.drewN m/\l1.take k=l2.take k) (λ i _=>n - (intOf i).toNat)
  case atStart=>exact ⟨0,0,by omega,rfl,rfl,by simp⟩
  case round=>
   obtain ⟨k,m,hk1,rfl,rfl,hk2⟩:=hrel
   by_cases a4:k<n
   ·have a6:(k:Int)<n:=by omega
    have a7:0<=(k:Int)/\(k:Int)<(n:Nat):=by omega
    obtain ⟨g1,o1,g2,o2,rfl,rfl,q1,q2⟩:=hcel.out k a4
    have x1:k<l1.length:=by have:=hn.out;omega
    have x2:k<l2.length:=by have:=a0.out;omega
    replace q1:=q1 x1
    replace q2:=q2 x2
    by_cases he:l1[k]=l2[k]
    ·have hs:=hst.out k x1 x2 hk2 he
     rw [he] at q1
     generalize l2[k]=y at q1 q2
     replace ⟨hs,hk2,he⟩:=yh3 hs hk2 he
     go_wp2
     go_region
     go_wp2
     exact ⟨⟨k+1,m+1,by omega,by go_num,rfl,hs.out⟩,by simp [intOf];omega⟩
    ·have hd:=a3.out k x1 x2 he
     have a5:¬ ((l1[k].toNat:Nat):Int)=((l2[k].toNat:Nat):Int):=λ e=>he (UInt8.toNat_inj.1 (by omega))
     generalize l1[k].toNat=y1 at q1 a5
     generalize l2[k].toNat=y2 at q2 a5
     replace ⟨hd,hk2⟩:=yh2 hd hk2;clear he
     go_wp2
     go_region
     go_wp2
     go_ret
     exact ⟨by rw [hd.out];rfl,m+1,rfl⟩
   ·have a6:¬ (k:Int)<n:=by omega
    have hd:=hfin.out k hk2 (by omega)
    replace hd:=hid hd;clear hk2
    go_wp2
    go_ret
    exact ⟨by rw [hd.out];rfl,m,rfl⟩
 ·have hd:decide (l1=l2)=false:=by
   simp only [decide_eq_false_iff_not]
   intro e;exact hl (by rw [e])
  have a5:¬ (l1.length:Int)=(l2.length:Int):=by omega
  rw [hd]
  clear h1 h2
  generalize l1.length=n1 at *
  generalize l2.length=n2 at *
  clear hd
  go_enter Tryz.func203,Tryz.ntmps203
  go_wp2
  go_ret
  exact ⟨rfl,0,rfl⟩
theorem atS (w:World) (v1 v2:Value) (l1 l2:List UInt8) (h1:Ab8 w v1 l1) (h2:Ab8 w v2 l2) (b1:l1.length<=4096) (b2:l2.length<=4096) (hl:l1.length=l2.length) :
  Calls prog 195 #[v1,v2] w λ e w'=>e=U (.bool (decide (l1=l2)))/\∃ m,w'=w.drewN m:=by
 obtain ⟨a1,c1,rfl,h1⟩:=h1
 obtain ⟨a2,c2,rfl,h2⟩:=h2
 obtain ⟨n,hn⟩:∃ n,l1.length=n:=⟨_,rfl⟩
 have a0:l2.length=n:=by omega
 rw [hn] at b1 ⊢
 rw [a0]
 have hfin:∀ k,l1.take k=l2.take k->k=n->decide (l1=l2)=true:=λ k hk e=>by
  rw [e,← hn,List.take_length,hn,← a0,List.take_length] at hk;simpa using hk
 have hst:∀ k (x:k<l1.length) (y:k<l2.length),l1.take k=l2.take k->l1[k]=l2[k]->l1.take (k+1)=l2.take (k+1):=λ k x y p q=>by
  rw [List.take_add_one,List.take_add_one,aEG x,aEG y,p,q]
 have a3:∀ k (x:k<l1.length) (y:k<l2.length),l1[k]≠l2[k]->decide (l1=l2)=false:=λ k x y p=>by
  simp only [decide_eq_false_iff_not]
  intro e
  subst e
  exact p rfl
 have hcel:∀ k,k<n->∃ g1 o1 g2 o2,a1=some ⟨g1,o1,none⟩/\a2=some ⟨g2,o2,none⟩/\(∀ (x:k<l1.length),w.cell? ⟨g1,o1+k,none⟩=some (.int .u8 (l1[k].toNat:Nat)))/\(∀ (y:k<l2.length),w.cell? ⟨g2,o2+k,none⟩=some (.int .u8 (l2[k].toNat:Nat))):=λ k hk=>by
  rcases h1 with h1|⟨g1,o1,e1,h1⟩
  ·rw [h1] at hn;simp at hn;omega
  ·rcases h2 with h2|⟨g2,o2,e2,h2⟩
   ·rw [h2] at a0;simp at a0;omega
   ·exact ⟨g1,o1,g2,o2,e1,e2,λ x=>h1 k x,λ y=>h2 k y⟩
 replace ⟨hfin,hst,a3,hcel,hn,a0⟩:=yh6 hfin hst a3 hcel hn a0;clear h1 h2 hl
 go_enter Tryz.func195,Tryz.ntmps195
 go_wp2
 go_loopw [5] (λ i wr=>∃ k m:Nat,k<=n/\i=I k/\wr=w.drewN m/\l1.take k=l2.take k) (λ i _=>n - (intOf i).toNat)
 case atStart=>exact ⟨0,0,by omega,rfl,rfl,by simp⟩
 case round=>
  obtain ⟨k,m,hk1,rfl,rfl,hk2⟩:=hrel
  by_cases a4:k<n
  ·have a6:(k:Int)<n:=by omega
   have a7:0<=(k:Int)/\(k:Int)<(n:Nat):=by omega
   obtain ⟨g1,o1,g2,o2,rfl,rfl,q1,q2⟩:=hcel.out k a4
   have x1:k<l1.length:=by have:=hn.out;omega
   have x2:k<l2.length:=by have:=a0.out;omega
   replace q1:=q1 x1
   replace q2:=q2 x2
   by_cases he:l1[k]=l2[k]
   ·have hs:=hst.out k x1 x2 hk2 he
    rw [he] at q1
    generalize l2[k]=y at q1 q2
    replace ⟨hs,hk2,he⟩:=yh3 hs hk2 he
    go_wp2
    go_region
    go_wp2
    exact ⟨⟨k+1,m+1,by omega,by go_num,rfl,hs.out⟩,by simp [intOf];omega⟩
   ·have hd:=a3.out k x1 x2 he
    have a5:¬ ((l1[k].toNat:Nat):Int)=((l2[k].toNat:Nat):Int):=λ e=>he (UInt8.toNat_inj.1 (by omega))
    generalize l1[k].toNat=y1 at q1 a5
    generalize l2[k].toNat=y2 at q2 a5
    replace ⟨hd,hk2⟩:=yh2 hd hk2;clear he
    go_wp2
    go_region
    go_wp2
    go_ret
    exact ⟨by rw [hd.out];rfl,m+1,rfl⟩
  ·have a6:¬ (k:Int)<n:=by omega
   have hd:=hfin.out k hk2 (by omega)
   replace hd:=hid hd;clear hk2
   go_wp2
   go_ret
   exact ⟨by rw [hd.out];rfl,m,rfl⟩
end Go.Vk
