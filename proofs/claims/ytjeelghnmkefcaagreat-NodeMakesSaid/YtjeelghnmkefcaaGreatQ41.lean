/- Part of the proof: NrI Nt1 Ns8. -/
import Derived.Test.YtjeelghnmkefcaaGreatQ21
import Derived.Test.YtjeelghnmkefcaaGreatQ30
import Derived.Test.YtjeelghnmkefcaaGreatQ35
import Derived.Test.YtjeelghnmkefcaaGreatQ37
import Derived.Test.YtjeelghnmkefcaaGreatQ39
import Derived.Test.YtjeelghnmkefcaaGreatQ40
import Derived.Deep.RegionLaw
set_option linter.unusedVariables false
set_option maxHeartbeats 16000000
set_option maxRecDepth 100000
namespace Go.Vk
open Go.RowKit Go.Proofs
open Tryz (prog)
structure NInv (w:World) (tb m lo:Nat) (R:RP) (Zm:Nat->Prop) (k:Nat) (v:Value) (us:List Value) (wr:World):Prop where
 hb:Blk wr tb (.cells #[↑m,v,.slice none 0 0] 107 (0,0))
 own:wr.ownsRow lo 40 1 v k us
 len:us.length=k
 row:∀ u,u∈us->Ab5 wr lo u (aaD 128)
 rf:AcP wr m R Zm
 k:AaA NoF w wr
 lo:lo<=wr.heap.size
section
variable {w wr w5:World} {tb m lo k:Nat} {R:RP} {Zm:Nat->Prop} {v v':Value} {us:List Value}
theorem NInv.step (h:NInv w tb m lo R Zm k v us wr) (ht:tb<lo) (hZ:∀ i,Zm i->i<tb) (hw:w.heap.size<=tb)
  (a0:w5.ownsRow lo 40 1 v' (k+1) (us++[.slice ↑wr.heap.size 128 128])) (a1:((wr.alloc (aaE (aaD 128))).alloc (.cells #[.slice ↑wr.heap.size 128 128] 40 (0,0))).grownBy w5 v.ownBlock) :
  NInv w tb m lo R Zm (k+1) v' (us++[.slice ↑wr.heap.size 128 128]) (w5.setCell ⟨tb,1,none⟩ v')/\w5.cell? ⟨tb,1,none⟩=some v/\(∀ i,w5.frozen? ⟨tb,i,none⟩=false):=by
 have kB:AaA NoF wr ((wr.alloc (aaE (aaD 128))).alloc (.cells #[.slice ↑wr.heap.size 128 128] 40 (0,0))):=((AaA.refl _ wr).alloc _).alloc _
 have bz:=(Blk.new wr (aaE (aaD 128))).alloc (.cells #[.slice ↑wr.heap.size 128 128] 40 (0,0))
 generalize (wr.alloc (aaE (aaD 128))).alloc (.cells #[.slice ↑wr.heap.size 128 128] 40 (0,0))=wB at *
 have vlo:∀ i,v.ownBlock=some i->lo<=i/\i<wr.heap.size:=λ i e=>⟨aaV h.own i e,ad1 h.own e⟩
 have k5:AaA (λ i=>v.ownBlock=some i) wr w5:=(kB.mono (F:=λ _=>False) λ _ _ f=>f.elim).grown a1 (λ i e=>.inl e)
 have k6:AaA (λ i=>v.ownBlock=some i) wB w5:=(AaA.refl _ wB).grown a1 (λ i e=>.inl e)
 have ks:AaA (λ i=>v.ownBlock=some i∨i=tb) wr (w5.setCell ⟨tb,1,none⟩ v'):=(k5.mono (G:=λ i=>v.ownBlock=some i∨i=tb) λ _ _ e=>.inl e).setCell (p:=⟨tb,1,none⟩) (.inl (.inr rfl)) _
 have kt:AaA (· = tb) w5 (w5.setCell ⟨tb,1,none⟩ v'):=(AaA.refl (· = tb) w5).setCell (p:=⟨tb,1,none⟩) (.inl rfl) _
 have a2:=k5.blk h.hb (λ e=>by have:=vlo _ e;omega)
 have bz5:=k6.blk bz (λ e=>by have:=vlo _ e;omega)
 have a3:=a2.setCell 1 v'
 simp at a3
 have c5:=a2.cell 1
 simp at c5
 have a4:=h.lo
 have r0:Ab5 (w5.setCell ⟨tb,1,none⟩ v') lo (.slice ↑wr.heap.size 128 128) (aaD 128):=au4 (abE kt (azJ bz5 (aaF _)) (λ g e f=>by have:wr.heap.size=g:=aEP e;omega)) a4
 refine ⟨⟨a3,abN (Z:=λ i=>v'.ownBlock=some i) kt (λ i e f=>by have:=aaV a0 i e;omega) a0 (λ _ e=>e),by rw [aEH,h.len];rfl,λ u hu=>?_,h.rf.keeps ks (λ i z f=>?_),h.k.trans ks (λ i hi f=>?_),by have:=ks.size;omega⟩,c5,a2.frz⟩
 ·rcases List.mem_append.1 hu with hu|hu
  ·have hr:=h.row u hu
   exact abN (Z:=λ i=>u.ownBlock=some i) ks (λ i e f=>f.elim (λ f=>akC h.own hr (by decide) f e) (λ f=>by have:=aaV hr i e;omega)) hr (λ _ e=>e)
  ·rw [List.mem_singleton] at hu
   subst hu
   exact r0
 ·have:=hZ i z
  exact f.elim (λ f=>by have:=vlo i f;omega) (λ f=>by omega)
 ·exact f.elim (λ f=>by have:=vlo i f;omega) (λ f=>by omega)
theorem NInv.raw (h:NInv w tb m lo R Zm k v us wr):AeQ wr v (List.replicate k (aaD 128)) us:=
 ⟨by rw [aEW];exact aeG h.own (aEY _),by rw [aEW];exact h.len,λ i hi u hu=>by rw [List.getElem_replicate];exact aeG (h.row u (List.mem_of_getElem? hu)) (aEY _)⟩
theorem NInv.fin (h:NInv w tb m lo R Zm k v us wr) (ht:tb<lo) (hZ:∀ i,Zm i->w.heap.size<=i/\i<tb) (hw:w.heap.size<=tb) (h0:0<k) (hR:R.nodes=k) (k2:AaA NoF wr w5) (hv:w5.ownsRow wr.heap.size 40 1 v' k us) :
  Aa3 (w5.setCell ⟨tb,2,none⟩ v') tb m ⟨R,List.replicate k (aaD 128),List.replicate k (aaD 128)⟩ (λ i=>w.heap.size<=i/\i<(w5.setCell ⟨tb,2,none⟩ v').heap.size)/\AaA NoF w (w5.setCell ⟨tb,2,none⟩ v'):=by
 have kt:AaA (· = tb) w5 (w5.setCell ⟨tb,2,none⟩ v'):=(AaA.refl (· = tb) w5).setCell (p:=⟨tb,2,none⟩) (.inl rfl) _
 have kr:AaA (· = tb) wr (w5.setCell ⟨tb,2,none⟩ v'):=(k2.mono (F:=λ _=>False) λ _ _ f=>f.elim).step kt
 have hb:=(k2.blk h.hb (λ f=>f)).setCell 2 v'
 simp at hb
 have a1:=h.lo
 have z2:=k2.size
 have a2:=h.hb.lt
 have vlo:∀ i,v.ownBlock=some i->lo<=i/\i<wr.heap.size:=λ i e=>⟨aaV h.own i e,ad1 h.own e⟩
 have v2lo:∀ i,v'.ownBlock=some i->wr.heap.size<=i/\i<w5.heap.size:=λ i e=>⟨aaV hv i e,ad1 hv e⟩
 have ulo:∀ u,u∈us->∀ i,u.ownBlock=some i->lo<=i/\i<wr.heap.size:=λ u hu i e=>⟨aaV (h.row u hu) i e,ad1 (h.row u hu) e⟩
 have raw:=h.raw.far kr (λ i e f=>by have:=vlo i e;omega) (λ u hu i e f=>by have:=ulo u hu i e;omega)
 have hsz:(w5.setCell ⟨tb,2,none⟩ v').heap.size=w5.heap.size:=aES ..
 have a0:(w5.setCell ⟨tb,2,none⟩ v').ownsRow 0 40 1 v' k us:=abE kt (aeG hv (aEY _)) (λ i e f=>by have:=v2lo i e;omega)
 refine ⟨⟨⟨v,v',us,us⟩,Zm,λ i=>i=tb∨lo<=i/\i<w5.heap.size,{ hm:=hb,rf:=h.rf.keeps kr (λ i z f=>by have:=hZ i z;omega),ow:=raw,os:=⟨by rw [aEW];exact a0,raw.2.1,raw.2.2⟩,zt:=.inl rfl,zw:=λ i e=>.inr (by have:=vlo i e;omega),zs:=λ i e=>.inr (by have:=v2lo i e;omega),zuw:=λ u hu i e=>.inr (by have:=ulo u hu i e;omega),zus:=λ u hu i e=>.inr (by have:=ulo u hu i e;omega),dj:=λ i z f=>by have:=hZ i z;omega,lt:=λ i z=>?_,ds:=?_,lw:=⟨by rw [aEW,hR],by rw [aEW,hR]⟩,l8:=⟨λ l hl=>by rw [(List.mem_replicate.1 hl).2];exact aaF _,λ l hl=>by rw [(List.mem_replicate.1 hl).2];exact aaF _⟩ },λ i z=>?_⟩,h.k.trans kr (λ i hi f=>by omega)⟩
 ·rw [hsz]
  rcases z with z|z|z
  ·have:=hZ i z;omega
  ·omega
  ·omega
 ·show v'.ownBlock≠v.ownBlock
  intro e
  obtain ⟨g,cap,hc,h1,_⟩:=ab9 hv h0
  have:=vlo g (by rw [← e,hc];rfl)
  omega
 ·rw [hsz]
  rcases z with z|z|z
  ·have:=hZ i z;omega
  ·omega
  ·omega
end
theorem aCP (w:World) (blocks nodes:Nat) (hb:blocks<=2048) (hn:nodes<=1024) (h0:0<nodes) :
  Calls prog 46 #[I blocks,I nodes] w λ e w'=>∃ tb m,e=U (.pointer (some ⟨tb,0,none⟩))/\Aa3 w' tb m ⟨ahS blocks nodes,List.replicate nodes (aaD 128),List.replicate nodes (aaD 128)⟩ (λ i=>w.heap.size<=i/\i<w'.heap.size)/\AaA NoF w w':=by
 obtain ⟨i0,hi,a3,a4,hz2⟩:=info_parts an3
 have hN:=aCZ w blocks nodes hb hn
 replace ⟨hi,a3,a4,hz2,hN⟩:=yh5 hi a3 a4 hz2 hN;clear hb
 go_enter Tryz.func46,Tryz.ntmps46
 go_wp2_with fail
 refine hN.out.mono ?_
 rintro e w1 ⟨m,rfl,a9,k1⟩
 have kA:=k1.alloc (.cells #[.pointer (some ⟨m,0,none⟩),.slice none 0 0,.slice none 0 0] 107 (0,0))
 have bA:=Blk.new w1 (.cells #[.pointer (some ⟨m,0,none⟩),.slice none 0 0,.slice none 0 0] 107 (0,0))
 have rA:=a9.keeps ((AaA.refl NoF w1).alloc (.cells #[.pointer (some ⟨m,0,none⟩),.slice none 0 0,.slice none 0 0] 107 (0,0))) (λ _ _ f=>f)
 have hI:NInv w w1.heap.size m (w1.heap.size+1) (ahS blocks nodes) (λ i=>w.heap.size<=i/\i<w1.heap.size) 0 (.slice none 0 0) [] (w1.alloc (.cells #[.pointer (some ⟨m,0,none⟩),.slice none 0 0,.slice none 0 0] 107 (0,0))):=
  ⟨bA,World.ownsRow_nil _ _ _ _,rfl,(λ u hu=>by cases hu),rA,kA,by rw [aEI];omega⟩
 have aa:=k1.size
 clear a9 k1 kA bA rA hN
 replace hI:=hid hI
 go_wp2
 generalize (w1.alloc (.cells #[.pointer (some ⟨m,0,none⟩),.slice none 0 0,.slice none 0 0] 107 (0,0)))=wA at *
 generalize w1.heap.size=tb at *
 clear w1
 go_loopw [6] (λ i wr=>∃ (k:Nat) (v:Value) (us:List Value),k<=nodes/\i=I k/\NInv w tb m (tb+1) (ahS blocks nodes) (λ i=>w.heap.size<=i/\i<tb) k v us wr) (λ i _=>nodes - (RowKit.intOf i).toNat)
 case atStart=>exact ⟨0,_,_,by omega,rfl,hI.out⟩
 case round=>
  obtain ⟨k,v,us,hk,rfl,hV⟩:=hrel
  clear hI
  by_cases hlt:k<nodes
  ·have ab:(k:Int)<nodes:=by omega
   have a2:NInv w tb m (tb+1) (ahS blocks nodes) (λ i=>w.heap.size<=i/\i<tb) k v us wr.drew:=⟨hV.hb.drew,hV.own,hV.len,hV.row,hV.rf.keeps ((AaA.refl NoF wr).drew) (λ _ _ f=>f),hV.k.drew,hV.lo⟩
   have hown:=a2.own
   have ac:=a2.lo
   have a0:=λ w5 v' a b=>a2.step (w5:=w5) (v':=v') (by omega) (λ i z=>z.2) aa a b
   have e1w:=hV.hb.cell 1
   have e1a:=λ o=>(hV.hb.alloc o).cell 1
   have e1b:=λ o o2=>((hV.hb.alloc o).alloc o2).cell 1
   simp at e1w e1a e1b
   have q1:Hid (k+1<=maxLen):=hid (by unfold maxLen;omega)
   have q2:Hid ((k+1)*24<=140737488355328):=hid (by omega)
   have q3:Hid (tb+1<=((wr.drew.alloc (aaE (aaD 128))).alloc (.cells #[.slice ↑wr.heap.size 128 128] 40 (0,0))).heap.size):=hid (by simp only [aEI];omega)
   have q4:Hid (((wr.drew.alloc (aaE (aaD 128))).alloc (.cells #[.slice ↑wr.heap.size 128 128] 40 (0,0))).ownsRow (tb+1) 40 1 v k us):=hid ((hown.alloc _).alloc _)
   have q5:Hid (∀ (j:Nat) (u:Value),[Value.slice ↑wr.heap.size 128 128][j]? = some u->((wr.drew.alloc (aaE (aaD 128))).alloc (.cells #[.slice ↑wr.heap.size 128 128] 40 (0,0))).cell? ((⟨wr.heap.size+1,0,none⟩:Addr).add j)=some u):=hid (by
    have:=cell_one_new (wr.drew.alloc (aaE (aaD 128))) (.slice ↑wr.heap.size 128 128) 40
    rw [aEI] at this
    exact this)
   clear ac
   replace ⟨hV,a0⟩:=yh2 hV a0;clear a2 hown
   go_upto_region 5 with fail
   go_region_law (first
    | (go_simp;go_at_call 110;refine (anT _).mono ?_;rintro e w4 ⟨rfl,rfl⟩)
    | (refine afN rfl _ _ 105 rfl (tb+1) 40 i0 (.slice none 0 0) 1 24 arB hi.out a3.out a4.out hz2.out rfl (by decide) v k us rfl q4.out ⟨wr.heap.size+1,0,none⟩ 1 1 [.slice ↑wr.heap.size 128 128] rfl rfl q5.out (by intro u hu;simp at hu;subst hu;rfl) q1.out q2.out q3.out ?_;intro v' w5 hown' a1 hx ad;obtain ⟨hQ,f5,e5⟩:=a0.out w5 v' hown' a1;obtain ⟨pp,pc,rfl⟩:=acG hown';replace hQ:=hid hQ;clear hown' a1 hx ad))
   all_goals
    clear e1w e1a e1b
    go_wp2
    exact ⟨⟨k+1,_,_,by omega,by go_num,hQ.out⟩,by simp [RowKit.intOf];omega⟩
  ·have ab:¬ (k:Int)<nodes:=by omega
   obtain rfl:k=nodes:=by omega
   have d1:=hV.hb.cell 1
   simp at d1
   have hC:=alK wr v _ us hV.raw (by rw [aEW];exact h0) (by rw [aEW];omega)
   rw [aEW] at hC
   replace ⟨hV,hC⟩:=yh2 hV hC
   go_wp2_with fail
   refine hC.out.mono ?_
   rintro e w2 ⟨v2,rfl,a5,k2⟩
   have a6:=k2.blk hV.out.hb (λ f=>f)
   have e2:=a6.cell 2
   have f2:=a6.frz 2
   simp at e2
   obtain ⟨a7,a8⟩:=hV.out.fin (by omega) (λ i z=>z) aa h0 rfl k2 a5
   obtain ⟨pa,pc,rfl⟩:=acG a5
   clear hC d1 a5 k2 a6
   replace ⟨a7,a8⟩:=yh2 a7 a8
   go_wp2
   go_ret
   exact ⟨_,_,rfl,a7.out,a8.out⟩
theorem afK (w:World) (n:Int) (lo hi:Nat) (hl:lo<=hi) (hh:hi<=4096):Calls prog 36 #[I n,I lo,I hi] w λ e w'=>e=U (I (adX n lo hi:Nat))/\w=w':=by
 obtain ⟨m,hm⟩:∃ m,m=hi - lo+1:=⟨_,rfl⟩
 obtain ⟨f1,f2,f3,f4⟩:=aw7 n m (by omega)
 have hw:adX n lo hi=lo+(n % (m:Int)).toNat:=by unfold adX;rw [hm]
 have em:(hi:Int) - (lo:Int)+1=(m:Int):=by omega
 rw [hw]
 rw [← em] at f1 f2 f3 f4
 obtain ⟨q,hq⟩:∃ q,n.tmod ((hi:Int) - (lo:Int)+1)=q:=⟨_,rfl⟩
 rw [hq] at f1 f2 f3 f4
 rw [← em]
 generalize n % ((hi:Int) - (lo:Int)+1)=r at f1 f2 ⊢
 have a0:¬ (hi:Int) - (lo:Int)+1=0:=by omega
 by_cases hc:q<0
 ·have hr:=f1 hc
  clear f1 f2 em hw
  replace hr:=hid hr
  go_enter Tryz.func36,Tryz.ntmps36
  go_wp2
  go_ret
  refine ⟨?_,rfl⟩
  have:=hr.out
  show Ending.returned (I _)=_
  congr 2
  omega
 ·have hr:=f2 hc
  clear f1 f2 em hw
  replace hr:=hid hr
  go_enter Tryz.func36,Tryz.ntmps36
  go_wp2
  go_ret
  refine ⟨?_,rfl⟩
  have:=hr.out
  show Ending.returned (I _)=_
  congr 2
  omega
theorem axI (w:World) (a b c:Int):Calls prog 15 #[.agg #[I a,I b,I c]] w λ e w'=>e=U (.agg #[I (apH a b c:Nat),I (gLog b:Nat),I (aiM c:Nat)])/\AaA NoF w w':=by
 have hE:=ar4 b c
 obtain ⟨q1,h1⟩:∃ q,adX c 1 256=q:=⟨_,rfl⟩
 obtain ⟨q2,h2⟩:∃ q,gLog b=q:=⟨_,rfl⟩
 obtain ⟨q3,h3⟩:∃ q,apH a b c=q:=⟨_,rfl⟩
 have hN:aiM c=4*q1:=by rw [← h1];rfl
 have b1:1<=q1/\q1<=256:=h1 ▸ ⟨aeR _ _ _,aeA _ (by decide)⟩
 have b2:18<=q2/\q2<=256:=h2 ▸ ar3 b
 have hL:ahY b c=6+q2+q1:=by
  unfold ahY;rw [h2,hN];omega
 have w1:∀ w,Calls prog 36 #[I c,I 1,I 256] w λ e w'=>e=U (I (q1:Nat))/\w=w':=λ w=>by
  have:=afK w c 1 256 (by decide) (by decide)
  rwa [h1] at this
 have w2:∀ w,Calls prog 36 #[I b,I 18,I 256] w λ e w'=>e=U (I (q2:Nat))/\w=w':=λ w=>by
  have:=afK w b 18 256 (by decide) (by decide)
  rwa [show adX b 18 256=gLog b from rfl,h2] at this
 have w3:∀ w (x:Int),x=(6+q2+q1:Nat)->Calls prog 36 #[I a,I x,I 2048] w λ e w'=>e=U (I (q3:Nat))/\w=w':=λ w x hx=>by
  have:=afK w a (ahY b c) 2048 hE (by decide)
  rw [show adX a (ahY b c) 2048=apH a b c from rfl,h3,hL] at this
  rw [hx];exact this
 rw [hN,h2,h3]
 clear hE h1 h2 h3 hN hL
 replace ⟨w1,w2,w3⟩:=yh3 w1 w2 w3
 go_enter Tryz.func15,Tryz.ntmps15
 go_wp2_with (first
  | (go_at_call_of 36 (Value.int .i64 c);refine (w1.out _).mono ?_;rintro e w' ⟨rfl,rfl⟩)
  | (go_at_call_of 36 (Value.int .i64 b);refine (w2.out _).mono ?_;rintro e w' ⟨rfl,rfl⟩)
  | (go_at_call_of 36 (Value.int .i64 a);refine (w3.out _ _ (by omega)).mono ?_;rintro e w' ⟨rfl,rfl⟩))
 exact bodyPost_ret (v:=.agg #[I q3,I q2,I (4*(q1:Int))]) (by simp [results,Tryz.results15,go_sem]) rfl ⟨by push_cast;rfl,((AaA.refl _ w).alloc _).alloc _⟩
theorem aqF (w:World) (v1 v2:Value) (l1 l2:List UInt8) (h1:Ab8 w v1 l1) (h2:Ab8 w v2 l2) (b1:l1.length<=4096) (b2:l2.length<=4096) :
  Calls prog 123 #[v1,v2] w λ e w'=>e=U (.bool (decide (l1=l2)))/\∃ m,w'=w.drewN m:=by
 obtain ⟨a1,c1,rfl,h1⟩:=h1
 obtain ⟨a2,c2,rfl,h2⟩:=h2
 by_cases hl:l1.length=l2.length
 ·obtain ⟨n,hn⟩:∃ n,l1.length=n:=⟨_,rfl⟩
  have a0:l2.length=n:=by omega
  rw [hn] at b1 ⊢
  rw [a0]
  have hfin:∀ k,l1.take k=l2.take k->k=n->decide (l1=l2)=true:=λ k hk e=>by
   rw [e,← hn,List.take_length,hn,← a0,List.take_length] at hk;simpa using hk
  have hst:∀ k (x:k<l1.length) (y:k<l2.length),l1.take k=l2.take k->l1[k]=l2[k]->l1.take (k+1)=l2.take (k+1):=λ k x y p q=>by
   rw [List.take_add_one,List.take_add_one,aEG x,aEG y,p,q]
  have a3:∀ k (x:k<l1.length) (y:k<l2.length),l1[k]≠l2[k]->decide (l1=l2)=false:=λ k x y p=>by
   simp only [decide_eq_false_iff_not]
   intro e
   subst e
   exact p rfl
  have hcel:∀ k,k<n->∃ g1 o1 g2 o2,a1=some ⟨g1,o1,none⟩/\a2=some ⟨g2,o2,none⟩/\(∀ (x:k<l1.length),w.cell? ⟨g1,o1+k,none⟩=some (.int .u8 (l1[k].toNat:Nat)))/\(∀ (y:k<l2.length),w.cell? ⟨g2,o2+k,none⟩=some (.int .u8 (l2[k].toNat:Nat))):=λ k hk=>by
   rcases h1 with h1|⟨g1,o1,e1,h1⟩
   ·rw [h1] at hn;simp at hn;omega
   ·rcases h2 with h2|⟨g2,o2,e2,h2⟩
    ·rw [h2] at a0;simp at a0;omega
    ·exact ⟨g1,o1,g2,o2,e1,e2,λ x=>h1 k x,λ y=>h2 k y⟩
  replace ⟨hfin,hst,a3,hcel,hn,a0,hl⟩:=yh7 hfin hst a3 hcel hn a0 hl;clear h1 h2
  go_enter Tryz.func123,Tryz.ntmps123
  go_wp2
  go_loopw [5] (λ i wr=>∃ k m:Nat,k<=n/\i=I k/\wr=w.drewN m/\l1.take k=l2.take k) (λ i _=>n - (RowKit.intOf i).toNat)
  case atStart=>exact ⟨0,0,by omega,rfl,rfl,by simp⟩
  case round=>
   obtain ⟨k,m,hk1,rfl,rfl,hk2⟩:=hrel
   by_cases a4:k<n
   ·have a6:(k:Int)<n:=by omega
    have a7:0<=(k:Int)/\(k:Int)<(n:Nat):=by omega
    obtain ⟨g1,o1,g2,o2,rfl,rfl,q1,q2⟩:=hcel.out k a4
    have x1:k<l1.length:=by have:=hn.out;omega
    have x2:k<l2.length:=by have:=a0.out;omega
    replace q1:=q1 x1
    replace q2:=q2 x2
    by_cases he:l1[k]=l2[k]
    ·have hs:=hst.out k x1 x2 hk2 he
     rw [he] at q1
     generalize l2[k]=y at q1 q2
     replace ⟨hs,hk2,he⟩:=yh3 hs hk2 he
     go_wp2
     go_region
     go_wp2
     exact ⟨⟨k+1,m+1,by omega,by go_num,rfl,hs.out⟩,by simp [RowKit.intOf];omega⟩
    ·have hd:=a3.out k x1 x2 he
     have a5:¬ ((l1[k].toNat:Nat):Int)=((l2[k].toNat:Nat):Int):=λ e=>he (UInt8.toNat_inj.1 (by omega))
     generalize l1[k].toNat=y1 at q1 a5
     generalize l2[k].toNat=y2 at q2 a5
     replace ⟨hd,hk2⟩:=yh2 hd hk2;clear he
     go_wp2
     go_region
     go_wp2
     go_ret
     exact ⟨by rw [hd.out];rfl,m+1,rfl⟩
   ·have a6:¬ (k:Int)<n:=by omega
    have hd:=hfin.out k hk2 (by omega)
    replace hd:=hid hd;clear hk2
    go_wp2
    go_ret
    exact ⟨by rw [hd.out];rfl,m,rfl⟩
 ·have hd:decide (l1=l2)=false:=by
   simp only [decide_eq_false_iff_not]
   intro e;exact hl (by rw [e])
  have a5:¬ (l1.length:Int)=(l2.length:Int):=by omega
  rw [hd]
  clear h1 h2
  generalize l1.length=n1 at *
  generalize l2.length=n2 at *
  clear hd
  go_enter Tryz.func123,Tryz.ntmps123
  go_wp2
  go_ret
  exact ⟨rfl,0,rfl⟩
theorem auJ {w:World} {sb d l mo:Nat} {G:Geom} {op:Bool} (hs:Blk w sb (acQ d l mo G.s G.lg G.n G.life op)):Calls prog 47 #[↑sb] w λ e w'=>
  e=U (.agg (ae8 G.s G.lg G.n).toArray)/\AaA NoF w w':=by
 unfold ae8
 have a0:=hs
 unfold acQ at a0
 generalize 3+G.lg=v1 at a0 ⊢
 generalize G.s - v1=v2 at a0 ⊢
 generalize 2+G.n / 4=v3 at a0 ⊢
 have s2:=a0.cell 2
 have s3:=a0.cell 3
 have s4:=a0.cell 4
 have s5:=a0.cell 5
 have s6:=a0.cell 6
 simp at s2 s3 s4 s5 s6
 have hsl:=hs.lt
 clear a0 hs
 go_enter Tryz.func47,Tryz.ntmps47
 go_wp2
 exact bodyPost_ret (v:=.agg #[I G.lg,I v1,I v2,I G.n,I v3]) (by simp [results,Tryz.results47,go_sem]) rfl ⟨rfl,(AaA.refl _ _).alloc _⟩
theorem TS.clear_ok (T:TS) (G:Geom) (h0:T.st=0) (hp:T.put=[]):(T.clear G).1=0:=by
 have e1:(T.puts 0 (abC G.data)).1=0:=by
  unfold TS.puts
  rw [hp]
  split
  ·rfl
  ·rw [if_neg (by simp),if_neg (by simp)]
 have e2:(T.puts 0 (abC G.data)).2.put.length<=1:=by
  unfold TS.puts
  rw [hp]
  split
  ·rw [hp];simp
  ·rw [if_neg (by simp),if_neg (by simp)];simp
 unfold TS.clear
 rw [if_pos h0]
 unfold TS.clearX
 rw [if_pos e1]
 generalize (T.puts 0 (abC G.data)).2=T1 at *
 unfold TS.puts
 split
 ·rfl
 ·split
  ·rfl
  ·rw [if_neg (by omega)]
theorem RP.clear_nodes (R:RP):R.clear.nodes=R.nodes:=by
 have hl:∀ (R:RP) nd l,(R.lays nd l).nodes=R.nodes:=λ R nd l=>by
  unfold RP.lays
  split
  ·rfl
  ·split
   ·rw [(ahH _ _ _).2];exact aeU _ _
   ·exact aeU _ _
 unfold RP.clear
 repeat' split
 all_goals first|rfl|(rw [hl,hl])|rw [hl]
section
variable {w w':World} {C:TxC} {N:RgN} {T T':TS} {B:TB} {Z X:Nat->Prop} {G:Geom} {tb m:Nat}
theorem Aa8.clear (h:Aa8 B T G) (a0:(T.raw 0).length=512) (hk1:(T.raw 1).length=512):B.R.clearE=(T.clear G).1/\Aa8 { B with R:=B.R.clear } (T.clear G).2 G:=by
 obtain ⟨a,b⟩:=h.n.clear a0 hk1
 exact ⟨a,h.bits b (λ k hk=>T.clear_raw G hk) (T.clear_like G).2.2.1⟩
theorem arG (h:Aa3 w tb m B Z) (a0:B.R.put.length<=16) (hd:B.R.data<=4096):Calls prog 49 #[↑m] w λ e w'=>e=U (I (B.R.clearE:Nat))/\AaS w w' tb m { B with R:=B.R.clear } Z:=by
 obtain ⟨V,Z1,Z2,a,b⟩:=h
 refine (axW a.rf (λ i z=>a.lt i (.inl z)) a0 hd).mono ?_
 rintro e w' ⟨rfl,s⟩
 exact ⟨rfl,AaS.doc a b s (RP.clear_nodes _)⟩
theorem NX.mineR (h:NX w C N T B Z X) (k:AaA (· = N.r) w w') (hb:Blk w' N.r (agD C.d C.sb ↑N.ta ↑N.ua N.tb C.G true)):NX w' C N T B Z X:=
 { h with
  pl:=h.pl.grow k (λ i _ e=>e ▸ h.bR.2.1) (λ i hi=>⟨aEJ (h.pl.lt i hi) k.size,.inl hi⟩)
  hb:=λ x hx=>by
   obtain ⟨a,b,c⟩:=h.hb x hx
   by_cases e:x.1=N.r
   ·have e2:=Blk.inj (e ▸ a) h.bR.1
    rw [e,e2]
    exact ⟨hb,h.bR.2⟩
   ·exact ⟨k.blk a e,b,c⟩
  ref:=h.ref.keeps k (λ i hi e=>h.bR.2.2 (e ▸ hi))
  hl:=k.blk h.hl (λ e=>h.xl _ h.bR.2.1 e.symm) }
theorem Aa1.old {lo:Nat} {W:World} {C:TxC} {M:TxM} {en:Bool} {X:Nat->Prop} (h:Aa1 W C M en X) (h0:M.cnt=0) (a0:C.ov=[]) (hx:∀ i,i∈C.F∨i=C.t∨i=C.mx∨i=C.sb∨i=C.mo->lo<=i):Aa1 W C M en (λ i=>X i∨i<lo):=by
 obtain ⟨own,xc,h1,h2,h3⟩:=h
 have ho:own=[]:=List.eq_nil_of_length_eq_zero (h3.trans h0)
 subst ho
 refine ⟨[],xc,{ h1 with xX:=λ k hk=>?_ },h2,h3⟩
 rcases hk with hk|hk
 ·exact h1.xX k hk
 ·refine ⟨λ e=>?_,λ e=>?_,λ e=>?_,λ e=>?_,λ e=>?_⟩
  ·have:=hx k (.inr (.inl e));omega
  ·have:=hx k (.inr (.inr (.inr (.inl e))));omega
  ·have:=hx k (.inl e);omega
  ·rw [a0] at e
   have:k=C.mo:=by simpa [aaH] using e
   have:=hx k (.inr (.inr (.inr (.inr this))));omega
  ·have:k=C.mx:=by simpa [aaH] using e
   have:=hx k (.inr (.inr (.inl this)));omega
theorem NX.olds (h:NX w C N T B Z X) (hp:T.put=[]) (a0:C.ov=[]) {lo:Nat} (hx:∀ i,AaX C N Z i->lo<=i) (a1:lo<=w.heap.size):NX w C N T B Z (λ i=>X i∨i<lo):=
 { h with
  pl:=by
   obtain ⟨M,h1,h2⟩:=h.pl.rep
   refine ⟨⟨M,h1.old (by rw [h2.cnt,hp];rfl) a0 (λ i hi=>hx i ?_),h2⟩,λ i hi=>hi.elim (h.pl.lt i) (λ x=>by omega),h.pl.geo⟩
   rcases hi with e|e|e|e|e
   ·exact .inl (.inl e)
   ·exact .inl (.inr (.inl e))
   ·exact .inl (.inr (.inr e))
   ·exact .inr (.inr (.inr (.inl e)))
   ·exact .inr (.inr (.inr (.inr (.inr e))))
  hb:=λ x hx=>by
   obtain ⟨a,b,c⟩:=h.hb x hx
   exact ⟨a,.inl b,c⟩
  zX:=λ i hi=>.inl (h.zX i hi)
  xl:=λ i hi e=>hi.elim (λ x=>h.xl i x e) (λ x=>by have:=hx C.l (.inr (.inr (.inr (.inr (.inl rfl)))));omega) }
end
end Go.Vk
