/- Part of the proof: Rf3 Rf4. -/
import Derived.Test.YtjeelghnmkefcaaGreatQ20
import Derived.Deep.RegionLaw
set_option linter.unusedVariables false
set_option maxHeartbeats 16000000
set_option maxRecDepth 100000
namespace Go.Vk
open Go.RowKit Go.Proofs
open Tryz (prog)
structure RP where
 blocks:Nat
 nodes:Nat
 data:Nat
 oldB:List Bool
 oldN:List Bool
 nowB:List Bool
 nowN:List Bool
 oldRaw:List (List UInt8)
 raw:List (List UInt8)
 put:List Nat
 sp:Nat
 op:Bool
 dead:Bool
structure RefV where
 OB:Value
 ON:Value
 NB:Value
 NN:Value
 OR:Value
 R:Value
 P:Value
 uO:List Value
 uR:List Value
def refO (R:RP) (V:RefV):Obj:=
 .cells #[I R.blocks,I R.nodes,I R.data,V.OB,V.ON,V.NB,V.NN,V.OR,V.R,V.P,I R.sp,.bool R.op,.bool R.dead] 131 (0,0)
def natV (n:Nat):Value:=I n
def AeQ (w:World) (v:Value) (ls:List (List UInt8)) (us:List Value):Prop:=
 w.ownsRow 0 40 1 v ls.length us/\us.length=ls.length/\∀ i (h:i<ls.length) u,us[i]? = some u->Ab5 w 0 u ls[i]
def InZ (Z:Nat->Prop) (v:Value):Prop:=∀ g,v.ownBlock=some g->Z g
structure AdB (w:World) (m:Nat) (R:RP) (V:RefV) (Z:Nat->Prop):Prop where
 hm:Blk w m (refO R V)
 ob:AaW w 0 V.OB R.oldB
 on:AaW w 0 V.ON R.oldN
 nb:AaW w 0 V.NB R.nowB
 nn:AaW w 0 V.NN R.nowN
 orr:AeQ w V.OR R.oldRaw V.uO
 rr:AeQ w V.R R.raw V.uR
 pr:w.ownsRow 0 3 1 V.P R.put.length (R.put.map natV)
 zm:Z m
 zob:InZ Z V.OB
 zon:InZ Z V.ON
 znb:InZ Z V.NB
 znn:InZ Z V.NN
 zor:InZ Z V.OR
 zr:InZ Z V.R
 zp:InZ Z V.P
 zuO:∀ u∈V.uO,InZ Z u
 zuR:∀ u∈V.uR,InZ Z u
 lb:R.oldB.length=4096/\R.oldN.length=4096/\R.nowB.length=4096/\R.nowN.length=4096
 d1:V.NB.ownBlock≠V.NN.ownBlock
 d2:V.NB.ownBlock≠V.OB.ownBlock/\V.NB.ownBlock≠V.ON.ownBlock/\V.NN.ownBlock≠V.OB.ownBlock/\V.NN.ownBlock≠V.ON.ownBlock
 d3:R.op=true->∀ g,V.R.ownBlock=some g->V.OR.ownBlock≠some g
 lr:R.oldRaw.length<=2048/\R.raw.length<=2048
 l5:(∀ l∈R.oldRaw,l.length=512)/\(∀ l∈R.raw,l.length=512)
def AcP (w:World) (m:Nat) (R:RP) (Z:Nat->Prop):Prop:=∃ V,AdB w m R V Z
theorem abN {w w':World} {Gf Z:Nat->Prop} (k:AaA Gf w w') (hG:∀ i,Z i->¬ Gf i) {lo e size:Nat} {v:Value} {n:Nat} {xs:List Value} (h:w.ownsRow lo e size v n xs) (hz:InZ Z v):w'.ownsRow lo e size v n xs:=by
 refine ⟨h.1,?_⟩
 rcases h.2 with h2|⟨g,cap,cur,rfl,hb,hh,rest⟩
 ·exact .inl h2
 ·refine .inr ⟨g,cap,cur,rfl,hb,?_,rest⟩
  have hlt:g<w.heap.size:=by
   by_cases hx:g<w.heap.size
   ·exact hx
   ·rw [Array.getElem?_eq_none (by omega)] at hh;cases hh
  rw [k.block g hlt (hG g (hz g rfl))];exact hh
theorem AeQ.keeps {w w':World} {Gf Z:Nat->Prop} (k:AaA Gf w w') (hG:∀ i,Z i->¬ Gf i) {v:Value} {ls:List (List UInt8)} {us:List Value} (h:AeQ w v ls us) (hz:InZ Z v) (hu:∀ u∈us,InZ Z u):AeQ w' v ls us:=
 ⟨abN k hG h.1 hz,h.2.1,λ i hi u e=>abN k hG (h.2.2 i hi u e) (hu u (List.mem_of_getElem? e))⟩
theorem AdB.keeps {w w':World} {m:Nat} {R:RP} {V:RefV} {Z Gf:Nat->Prop} (h:AdB w m R V Z) (k:AaA Gf w w') (hG:∀ i,Z i->¬ Gf i):AdB w' m R V Z:=
 { h with
  hm:=k.blk h.hm (hG m h.zm)
  ob:=abN k hG h.ob h.zob
  on:=abN k hG h.on h.zon
  nb:=abN k hG h.nb h.znb
  nn:=abN k hG h.nn h.znn
  orr:=h.orr.keeps k hG h.zor h.zuO
  rr:=h.rr.keeps k hG h.zr h.zuR
  pr:=abN k hG h.pr h.zp }
theorem AcP.keeps {w w':World} {m:Nat} {R:RP} {Z Gf:Nat->Prop} (h:AcP w m R Z) (k:AaA Gf w w') (hG:∀ i,Z i->¬ Gf i):AcP w' m R Z:=by
 obtain ⟨V,h1⟩:=h;exact ⟨V,h1.keeps k hG⟩
theorem ab9 {w:World} {lo e size:Nat} {v:Value} {n:Nat} {xs:List Value} (h:w.ownsRow lo e size v n xs) (hn:0<n):∃ g cap,v=.slice (some ⟨g,0,none⟩) n cap/\lo<=g/\g<w.heap.size:=by
 rcases h.2 with ⟨_,h2⟩|⟨g,cap,cur,rfl,hb,hh,rest⟩
 ·omega
 ·refine ⟨g,cap,rfl,hb,?_⟩
  by_cases hx:g<w.heap.size
  ·exact hx
  ·rw [Array.getElem?_eq_none (by omega)] at hh;cases hh
theorem aeG {w:World} {lo lo' e size:Nat} {v:Value} {n:Nat} {xs:List Value} (h:w.ownsRow lo e size v n xs) (hl:lo'<=lo):w.ownsRow lo' e size v n xs:=by
 refine ⟨h.1,?_⟩
 rcases h.2 with h2|⟨g,cap,cur,rfl,hb,rest⟩
 ·exact .inl h2
 ·exact .inr ⟨g,cap,cur,rfl,by omega,rest⟩
theorem amS {g h n m c d:Nat} (e:g≠h):(Value.slice ↑g n c).ownBlock≠(Value.slice ↑h m d).ownBlock:=λ x=>e (aEP x)
def noBits:List Bool:=List.replicate 4096 false
theorem acA:noBits.length=4096:=aEW
theorem avC (w:World):Calls prog 113 #[] w λ e w'=>∃ g cap,e=U (.slice (some ⟨g,0,none⟩) 4096 cap)/\w.heap.size<=g/\g<w'.heap.size/\AaW w' w.heap.size (.slice (some ⟨g,0,none⟩) 4096 cap) noBits/\AaA NoF w w':=by
 refine (aC9 w).mono ?_
 rintro e w' ⟨v,rfl,h1,h2⟩
 have a0:AaW w' w.heap.size v noBits:=h1
 obtain ⟨g,cap,e1,a1,a2,a3⟩:=a0.slice (by rw [acA];decide)
 rw [acA] at e1
 rw [e1] at a0
 exact ⟨g,cap,by rw [e1],a1,a2,a0,h2⟩
theorem arB:(prog).underlying 105=some (.slice 40):=Tryz.underlying105
theorem an3:((prog).info? 40).map (λ i=>(i.zero,i.size,i.bytes))=some (some (.slice none 0 0),1,24):=by kernel_rfl
theorem axT {α:Type} (z:α) (k:Nat):List.replicate (k+1) z=List.replicate k z++[z]:=List.replicate_succ'
def ahS (blocks nodes:Nat):RP:=⟨blocks,nodes,2+nodes / 4,noBits,noBits,noBits,noBits,List.replicate blocks (aeK noBits 512),[],[],0,false,false⟩
theorem aiL (l:List Bool) (n:Nat):(aeK l n).length=n:=by simp [aeK]
theorem aCZ (w:World) (blocks nodes:Nat) (hb:blocks<=2048) (hn:nodes<=1024):Calls prog 109 #[I blocks,I nodes] w λ e w'=>
  ∃ m,e=U (.pointer (some ⟨m,0,none⟩))/\AcP w' m (ahS blocks nodes) (λ i=>w.heap.size<=i/\i<w'.heap.size)/\AaA NoF w w':=by
 obtain ⟨i0,hi,an,ao,hz2⟩:=info_parts an3
 have hd:((nodes:Nat):Int).tdiv 4=((nodes / 4:Nat):Int):=rfl
 have ax:IntKind.i64.wrap (2+((nodes / 4:Nat):Int))=((2+nodes / 4:Nat):Int):=by rw [aaO (by omega) (by omega)];omega
 have hN:=avC
 have ay:=AaA.refl NoF w
 obtain ⟨z,ac⟩:∃ z,aeK noBits 512=z:=⟨_,rfl⟩
 have ad:z.length=512:=by rw [← ac];exact aiL _ _
 have hq:nodes / 4<=256:=by omega
 generalize ap:nodes / 4=nq at hd ax hq
 clear ax
 replace ⟨hi,an,ao,hz2,hN,ap,ac,ad⟩:=yh8 hi an ao hz2 hN ap ac ad;clear ay
 go_enter Tryz.func109,Tryz.ntmps109
 go_wp2_with fail
 refine (hN.out _).mono ?_
 rintro e w1 ⟨g1,c1,rfl,a1,l1,r1,k1⟩
 replace ⟨a1,l1,r1,k1⟩:=yh4 a1 l1 r1 k1
 go_wp2_with fail
 refine (hN.out _).mono ?_
 rintro e w2 ⟨g2,c2,rfl,a2,l2,r2,k2⟩
 replace ⟨a2,l2,r2,k2⟩:=yh4 a2 l2 r2 k2
 go_wp2_with fail
 refine (hN.out _).mono ?_
 rintro e w3 ⟨g3,c3,rfl,a3,l3,r3,k3⟩
 replace ⟨a3,l3,r3,k3⟩:=yh4 a3 l3 r3 k3
 go_wp2_with fail
 refine (hN.out _).mono ?_
 rintro e w4 ⟨g4,c4,rfl,a4,l4,r4,k4⟩
 replace ⟨a4,l4,r4,k4⟩:=yh4 a4 l4 r4 k4
 go_wp2_with fail
 refine (hN.out _).mono ?_
 rintro e w5 ⟨g5,c5,rfl,a5,l5,r5,k5⟩
 replace ⟨a5,l5,r5,k5⟩:=yh4 a5 l5 r5 k5
 go_wp2_with fail
 have q5:=λ j (h:j<noBits.length)=>(by
  obtain ⟨gg,cc,e1,_,_,y⟩:=r5.out.slice (by rw [acA];decide)
  rw [acA] at e1
  injection e1 with e1 _ e3
  injection e1 with e1
  injection e1 with e1
  rw [e1];exact y j h:w5.cell? ⟨g5,j,none⟩=some (.bool noBits[j]))
 refine (axX w5 g5 c5 noBits q5 acA).mono ?_
 rintro e w6 ⟨vz,rfl,bz,k6⟩
 rw [ac.out] at bz
 have aq:w4.heap.size<(w4.alloc (.cells #[I blocks,I nodes,I (2+(nq:Int)),.slice ↑g1 4096 c1,.slice ↑g2 4096 c2,.slice ↑g3 4096 c3,.slice ↑g4 4096 c4,.slice none 0 0,.slice none 0 0,.slice none 0 0,I 0,↑false,↑false] 131 (0,0))).heap.size:=by rw [aEI];omega
 have kA:=(k5.out.step k6)
 have kB:AaA NoF w4 w6:=((AaA.refl NoF w4).alloc _).step kA
 have af:=kA.blk (Blk.new w4 _) (λ f=>f)
 have y1:=r1.out.keeps (k2.out.step (k3.out.step (k4.out.step kB))) (λ _ _ f=>f)
 have y2:=r2.out.keeps (k3.out.step (k4.out.step kB)) (λ _ _ f=>f)
 have y3:=r3.out.keeps (k4.out.step kB) (λ _ _ f=>f)
 have y4:=r4.out.keeps kB (λ _ _ f=>f)
 have kW:AaA NoF w w6:=k1.out.step (k2.out.step (k3.out.step (k4.out.step kB)))
 have z4:=a4.out
 have z1:=a1.out
 have z2:=a2.out
 have z3:=a3.out
 have kz1:=k1.out.size
 have kz2:=k2.out.size
 have kz3:=k3.out.size
 have kz4:=k4.out.size
 have kzB:=kB.size
 have zl1:=l1.out
 have zl2:=l2.out
 have zl3:=l3.out
 have zl4:=l4.out
 have z6:=af.lt
 have hg1:g1<g2:=by omega
 have ag:g2<g3:=by omega
 have ah:g3<g4:=by omega
 have ai:g4<w4.heap.size:=zl4
 have aj:w.heap.size<=g1:=by omega
 have ae:w4.heap.size<w6.heap.size:=z6
 have ak:w4.heap.size<w5.heap.size:=by have:=k5.out.size;omega
 clear z1 z2 z3 z4 kz1 kz2 kz3 kz4 kzB zl1 zl2 zl3 zl4 z6 aq q5
 obtain ⟨gz,cz,rfl,a8,aa⟩:=ab9 bz (by rw [ad.out];decide)
 rw [ad.out] at *
 have a0:w6.ownsRow w6.heap.size 40 1 (.slice none 0 0) 0 []:=World.ownsRow_nil _ _ _ _
 have ar:=AaA.refl (· = w4.heap.size) w6
 generalize au:w4.heap.size=m at *
 clear r1 r2 r3 r4 r5 kA kB k1 k2 k3 k4 k5 k6
 replace ⟨l5,y1,y2,y3,y4,kW,hg1,ag⟩:=yh8 l5 y1 y2 y3 y4 kW hg1 ag;replace ⟨ah,ai,aj,ae,ak,au,bz,a8⟩:=yh8 ah ai aj ae ak au bz a8;replace ⟨aa,af,a0,ar⟩:=yh4 aa af a0 ar;clear a1 a2 a3 a4 a5 l1 l2 l3 l4
 go_wp2
 go_loopw [7] (λ i wr=>∃ k v,k<=blocks/\i=I (k:Nat)/\wr.ownsRow w6.heap.size 40 1 v k (List.replicate k (.slice ↑gz 512 cz)) /\
  Blk wr m (.cells #[I blocks,I nodes,I (2+(nq:Int)),.slice ↑g1 4096 c1,.slice ↑g2 4096 c2,.slice ↑g3 4096 c3,.slice ↑g4 4096 c4,v,.slice none 0 0,.slice none 0 0,I 0,↑false,↑false] 131 (0,0))/\AaA (· = m) w6 wr) (λ i _=>blocks - (intOf i).toNat)
 case atStart=>exact ⟨0,_,by omega,rfl,a0.out,af.out,ar.out⟩
 case round=>
  obtain ⟨k,v,hk1,rfl,hown,ab,a9⟩:=hrel
  have hlt:=a9.size
  have cm7:=ab.cell 7
  simp at cm7
  have cmf:=ab.frz 7
  by_cases az:k<blocks
  ·have aA:(k:Int)<blocks:=by omega
   have aB:some m≠v.ownBlock:=λ e=>by have:=aaV hown m e.symm;have:=ae.out;omega
   replace ⟨ab,a9⟩:=yh2 ab a9
   go_wp2_with (at_builtin;refine wpList_append_own _ rfl _ _ 105 rfl w6.heap.size 40 i0 (.slice none 0 0) 1 24 arB hi.out an.out ao.out hz2.out rfl (by decide) _ _ _ rfl (hown.alloc _) ⟨wr.heap.size,0,none⟩ 1 1 [.slice ↑gz 512 cz] rfl rfl ?c1 ?c2 ?c3 ?c4 ?c5 ?_)
   case c1=>
    intro j u hj
    match j,hj with
    | 0,hj=>simp at hj;subst hj;simp [Addr.add]
   case c2=>intro u hu;simp at hu;subst hu;rfl
   case c3=>unfold maxLen;omega
   case c4=>omega
   case c5=>simp;omega
   ·intro v' w7 hown' a6 hx
    rw [← axT] at hown'
    have al:=Blk.grown (ab.out.alloc _) a6 aB
    obtain ⟨gv,cv,rfl,aE,aF⟩:=ab9 hown' (by omega)
    have c7:=al.cell 7
    simp at c7
    have f7:=al.frz 7
    have am:=al.setCell 7 (.slice ↑gv (k+1) cv)
    simp at am
    have a7:=ownsRow_setCell_below hown' (a:=⟨m,7,none⟩) ae.out (.slice ↑gv (k+1) cv)
    have av:AaA (· = m) w6 (w7.setCell ⟨m,7,none⟩ (.slice ↑gv (k+1) cv)):=((a9.out.alloc _).grown a6 (λ i hi=>.inr (aaV hown i hi))).setCell (.inl rfl) _
    replace ⟨hown,am,a7,av,hx⟩:=yh5 hown am a7 av hx;clear hown' a6 al
    clear cm7 cmf
    go_wp2
    exact ⟨⟨k+1,_,by omega,by go_num,a7.out,am.out,av.out⟩,by simp [intOf];omega⟩
  ·have aA:¬ (k:Int)<blocks:=by omega
   obtain rfl:k=blocks:=by omega
   have hR:AcP wr m (ahS k nodes) (λ i=>w.heap.size<=i/\i<wr.heap.size):=by
    have q1:=hg1.out
    have q2:=ag.out
    have q3:=ah.out
    have q4:=ai.out
    have q5:=aj.out
    have q6:=ae.out
    have q7:=a8.out
    have q8:=aa.out
    have lift:∀ g c,w.heap.size<=g->g<m->AaW w6 0 (.slice (some ⟨g,0,none⟩) 4096 c) noBits->AaW wr 0 (.slice (some ⟨g,0,none⟩) 4096 c) noBits/\InZ (λ i=>w.heap.size<=i/\i<wr.heap.size) (.slice (some ⟨g,0,none⟩) 4096 c):=λ g c h1 h2 h3=>
     ⟨abN (Z:=(· = g)) a9 (λ i e=>by omega) h3 (λ x e=>(aEP e).symm),λ x e=>by have:=aEP e;subst this;exact ⟨h1,by show g<_;omega⟩⟩
    have x1:=lift g1 c1 (by omega) (by omega) (y1.out.lo (aEY _))
    have x2:=lift g2 c2 (by omega) (by omega) (y2.out.lo (aEY _))
    have x3:=lift g3 c3 (by omega) (by omega) (y3.out.lo (aEY _))
    have x4:=lift g4 c4 (by omega) (by omega) (y4.out.lo (aEY _))
    have aG:w5.heap.size<=gz:=a8.out
    have aC:InZ (λ i=>w.heap.size<=i/\i<wr.heap.size) (.slice ↑gz 512 cz):=λ x e=>by
     have:=aEP e;subst this
     have:=ak.out
     exact ⟨by show _<=gz;omega,by show gz<_;omega⟩
    have aD:Ab5 wr 0 (.slice ↑gz 512 cz) z:=by
     have h5:=ak.out
     exact aeG (abN (Z:=(· = gz)) a9 (λ i e=>by omega) bz.out (λ x e=>(aEP e).symm)) (aEY _)
    have aw:((2+nodes / 4:Nat):Int)=2+(nq:Int):=by rw [ap.out];push_cast;rfl
    refine ⟨⟨.slice ↑g1 4096 c1,.slice ↑g2 4096 c2,.slice ↑g3 4096 c3,.slice ↑g4 4096 c4,v,.slice none 0 0,.slice none 0 0,List.replicate k (.slice ↑gz 512 cz),[]⟩,?_⟩
    have aH:=ad.out
    refine { hm:=?_,ob:=x1.1,on:=x2.1,nb:=x3.1,nn:=x4.1,orr:=?_,rr:=?_,pr:=World.ownsRow_nil _ _ _ _,zm:=⟨by omega,by omega⟩,zob:=x1.2,zon:=x2.2,znb:=x3.2,znn:=x4.2,zor:=?_,zr:=?_,zp:=?_,zuO:=?_,zuR:=?_,lb:=⟨acA,acA,acA,acA⟩,d1:=?_,d2:=?_,d3:=?_,lr:=?_,l5:=?_ }
    ·unfold refO ahS
     dsimp only
     rw [aw]
     exact ab
    ·unfold ahS
     dsimp only
     rw [ac.out]
     refine ⟨?_,by simp,λ i hi u hu=>?_⟩
     ·rw [aEW];exact aeG hown (aEY _)
     ·have e1:u=.slice ↑gz 512 cz:=(List.mem_replicate.1 (List.mem_of_getElem? hu)).2
      rw [e1,List.getElem_replicate]
      exact aD
    ·exact ⟨World.ownsRow_nil _ _ _ _,rfl,λ i hi=>by simp [ahS] at hi⟩
    ·intro x e
     have h9:=aaV hown x e
     refine ⟨by omega,?_⟩
     obtain ⟨cap,e2⟩:∃ a,v=.slice ↑x k a∨v=.slice none 0 0:=by
      rcases hown.2 with ⟨e1,_⟩|⟨g',cap,cur,e1,_⟩
      ·exact ⟨0,.inr e1⟩
      ·rw [e1] at e
       have:g'=x:=aEP e
       subst this
       exact ⟨cap,.inl e1⟩
     rcases hown.2 with ⟨e1,_⟩|⟨g',cap,cur,e1,_,hh,_⟩
     ·rw [e1] at e;cases e
     ·rw [e1] at e
      have:g'=x:=aEP e
      subst this
      by_cases hx:g'<wr.heap.size
      ·exact hx
      ·rw [Array.getElem?_eq_none (by omega)] at hh;cases hh
    ·intro x e;cases e
    ·intro x e;cases e
    ·intro u hu
     have e1:u=.slice ↑gz 512 cz:=(List.mem_replicate.1 hu).2
     rw [e1];exact aC
    ·intro u hu;cases hu
    ·exact amS (by omega)
    ·exact ⟨amS (by omega),amS (by omega),amS (by omega),amS (by omega)⟩
    ·intro e;cases e
    ·exact ⟨by simp [ahS];omega,by simp [ahS]⟩
    ·refine ⟨λ l hl=>?_,λ l hl=>by simp [ahS] at hl⟩
     unfold ahS at hl
     dsimp only at hl
     rw [(List.mem_replicate.1 hl).2]
     exact aiL _ _
   replace ⟨a9,hR⟩:=yh2 a9 hR;clear ab hown
   go_wp2
   go_ret
   exact ⟨m,rfl,hR.out,kW.out.trans a9.out (λ i hi e=>by have:=au.out;have:=hg1.out;have:=ag.out;have:=ah.out;have:=ai.out;have:=aj.out;omega)⟩
def RP.begin (R:RP):RP:={ R with nowB:=R.oldB,nowN:=R.oldN,raw:=R.oldRaw,put:=[],sp:=0,op:=true }
theorem abG {w:World} {lo e size:Nat} {v:Value} {n:Nat} {xs:List Value} (h:w.ownsRow lo e size v n xs) {b:Nat} {cs:Array Value} {T:TypeId} {fr:Nat × Nat} (hb:Blk w b (.cells cs T fr)) (hT:T≠e):v.ownBlock≠some b:=by
 intro x
 rcases h.2 with ⟨rfl,_⟩|⟨g,cap,cur,rfl,_,hh,_⟩
 ·cases x
 ·have e1:g=b:=aEP x
  subst e1
  have:=Blk.inj hb hh
  injection this with _ h2 _
  exact hT h2
theorem acG {w:World} {lo e size:Nat} {v:Value} {n:Nat} {xs:List Value} (h:w.ownsRow lo e size v n xs):∃ a cap,v=.slice a n cap:=by
 rcases h.2 with ⟨rfl,rfl⟩|⟨g,cap,cur,rfl,_⟩
 ·exact ⟨none,0,rfl⟩
 ·exact ⟨_,cap,rfl⟩
theorem adS {w:World} {lo e:Nat} {g cap:Nat} {n:Nat} {xs:List Value} (h:w.ownsRow lo e 1 (.slice ↑g n cap) n xs) (j:Nat) (u:Value) (hj:xs[j]? = some u):w.cell? ⟨g,j,none⟩=some u:=by
 have:=World.ownsRow.cells h (g:=g) rfl j u hj
 have e:(⟨g,0,none⟩:Addr).add j=⟨g,j,none⟩:=by unfold Addr.add;split<;>simp_all
 rw [e] at this
 exact this
theorem au4 {w:World} {lo lo' e size g cap:Nat} {n:Nat} {xs:List Value} (h:w.ownsRow lo e size (.slice ↑g n cap) n xs) (hl:lo'<=g):w.ownsRow lo' e size (.slice ↑g n cap) n xs:=by
 refine ⟨h.1,?_⟩
 rcases h.2 with ⟨h2,_⟩|⟨g',cap',cur,h2,hb,rest⟩
 ·cases h2
 ·have e1:g=g':=by injection h2 with e1;injection e1 with e1;injection e1 with e1
  exact .inr ⟨g',cap',cur,h2,e1 ▸ hl,rest⟩
theorem ad1 {w:World} {lo e size:Nat} {v:Value} {n:Nat} {xs:List Value} (h:w.ownsRow lo e size v n xs) {g:Nat} (hg:v.ownBlock=some g):g<w.heap.size:=by
 rcases h.2 with ⟨rfl,_⟩|⟨g',cap,cur,rfl,_,hh,_⟩
 ·cases hg
 ·have e1:g'=g:=aEP hg
  subst e1
  by_cases hx:g'<w.heap.size
  ·exact hx
  ·rw [Array.getElem?_eq_none (by omega)] at hh;cases hh
theorem axY {w:World} {m:Nat} {R:RP} {Z:Nat->Prop} (h:AcP w m R Z):Calls prog 187 #[↑m] w λ e w'=>
  e=U (.tuple #[])/\AcP w' m R.begin (λ i=>Z i∨w.heap.size<=i/\i<w'.heap.size)/\AaA (· = m) w w':=by
 obtain ⟨⟨OB,ON,NB,NN,OR,RR,PP,uO,uR⟩,h1⟩:=h
 obtain ⟨i0,hi,ae,af,hz2⟩:=info_parts an3
 obtain ⟨l1,l2,l3,l4⟩:=h1.lb
 obtain ⟨gB,cB,eB,_,xB,yB⟩:=h1.ob.slice (by omega)
 obtain ⟨gN,cN,eN,_,xN,yN⟩:=h1.on.slice (by omega)
 have hT:=azB w gB cB gN cN R.oldB R.oldN yB yN (by omega) (by omega) (by omega) (by omega)
 dsimp only at eB eN
 rw [← eB,← eN] at hT
 have hb:=h1.hm
 unfold refO at hb
 dsimp only at hb
 have c3:=hb.cell 3
 have c4:=hb.cell 4
 simp at c3 c4
 have aD:=hb.lt
 rw [eB] at c3
 rw [eN] at c4
 rw [eB,eN] at hT
 rw [l1,l2] at hT
 rw [l1] at c3
 rw [l2] at c4
 replace ⟨h1,hT,eB,eN,hb,l1,l2,xB⟩:=yh8 h1 hT eB eN hb l1 l2 xB;replace ⟨xN,hi,ae,af,hz2⟩:=yh5 xN hi ae af hz2;clear l3 l4 yB yN
 go_enter Tryz.func187,Tryz.ntmps187
 go_upto_region 2 with (go_at_call 230;refine hT.out.mono ?_;rintro e w1 ⟨v1,v2,rfl,r1,r2,r12,k1⟩;obtain ⟨g1,d1,rfl,n1,n2,s1⟩:=r1.slice (by have:=l1.out;omega);obtain ⟨g2,d2,rfl,n3,n4,s2⟩:=r2.slice (by have:=l2.out;omega);clear s1 s2;replace r12:=hid r12;have a6:=k1.blk hb.out (λ f=>f);have f1:=a6.frz;have q5:=a6.cell 5;have q6:=a6.cell 6;have q8:=a6.cell 8;simp at q5 q6 q8;replace ⟨r1,r2,k1,a6⟩:=yh4 r1 r2 k1 a6;clear n1 n2 n3 n4)
 have kS:AaA (· = m) w (((w1.setCell ⟨m,5,none⟩ (.slice ↑g1 R.oldB.length d1)).setCell ⟨m,6,none⟩ (.slice ↑g2 R.oldN.length d2)).setCell ⟨m,8,none⟩ (.slice none 0 0)):=
  (((k1.out.mono (G:=(· = m)) (λ _ _ f=>f.elim)).setCell (p:=⟨m,5,none⟩) (.inl rfl) _).setCell (p:=⟨m,6,none⟩) (.inl rfl) _).setCell (p:=⟨m,8,none⟩) (.inl rfl) _
 have kT:AaA (· = m) w1 (((w1.setCell ⟨m,5,none⟩ (.slice ↑g1 R.oldB.length d1)).setCell ⟨m,6,none⟩ (.slice ↑g2 R.oldN.length d2)).setCell ⟨m,8,none⟩ (.slice none 0 0)):=
  (((AaA.refl (· = m) w1).setCell (p:=⟨m,5,none⟩) (.inl rfl) _).setCell (p:=⟨m,6,none⟩) (.inl rfl) _).setCell (p:=⟨m,8,none⟩) (.inl rfl) _
 have bS:=((a6.out.setCell 5 (.slice ↑g1 R.oldB.length d1)).setCell 6 (.slice ↑g2 R.oldN.length d2)).setCell 8 (.slice none 0 0)
 simp at bS
 have ag:m≠g1:=λ e=>abG r1.out a6.out (by decide) (by rw [e];rfl)
 have ah:m≠g2:=λ e=>abG r2.out a6.out (by decide) (by rw [e];rfl)
 have ai:g1≠g2:=λ e=>r12.out (by rw [e];rfl)
 have rS1:AaW _ w.heap.size (.slice ↑g1 R.oldB.length d1) R.oldB:=abN (Z:=(· = g1)) kT (λ i e=>by omega) r1.out (λ x e=>(aEP e).symm)
 have rS2:AaW _ w.heap.size (.slice ↑g2 R.oldN.length d2) R.oldN:=abN (Z:=(· = g2)) kT (λ i e=>by omega) r2.out (λ x e=>(aEP e).symm)
 have ab:=And.intro bS (And.intro rS1 (And.intro rS2 kS))
 refine adW (λ W=>Blk W m (.cells #[I R.blocks,I R.nodes,I R.data,OB,ON,.slice ↑g1 R.oldB.length d1,.slice ↑g2 R.oldN.length d2,OR,.slice none 0 0,PP,I R.sp,.bool R.op,.bool R.dead] 131 (0,0))/\AaW W w.heap.size (.slice ↑g1 R.oldB.length d1) R.oldB/\AaW W w.heap.size (.slice ↑g2 R.oldN.length d2) R.oldN/\AaA (· = m) w W) ab ?_
 clear ab bS rS1 rS2 kS kT r1 r2 k1 a6 f1 q5 q6 q8
 clear w1
 rintro W ⟨bW,rW1,rW2,kW⟩
 have a7:=h1.out.orr
 dsimp only at a7
 obtain ⟨aR,cR,eR⟩:=acG a7.1
 have a8:OR.ownBlock≠some m:=abG a7.1 hb.out (by decide)
 have a9:=abN (Z:=λ i=>OR.ownBlock=some i) kW (λ i e e2=>a8 (e2 ▸ e)) a7.1 (λ x e=>e)
 have aE:=h1.out.lr.1
 have ac:=a7.2.1
 have aj:∀ u∈uO,∃ g c,u=.slice (some ⟨g,0,none⟩) 512 c:=λ u hu=>by
  obtain ⟨i,aq,e⟩:=List.getElem_of_mem hu
  have ar:i<R.oldRaw.length:=by rw [← ac];exact aq
  have au:=h1.out.l5.1 R.oldRaw[i] (List.getElem_mem ar)
  have ay:=a7.2.2 i ar u (by rw [aEG aq,e])
  obtain ⟨g,c,e2,_⟩:=ab9 ay (by rw [au];decide)
  exact ⟨g,c,by rw [e2,au]⟩
 subst eR
 generalize hn:R.oldRaw.length=n at *
 have az:=bW.lt
 have a3:W.ownsRow W.heap.size 40 1 (.slice none 0 0) 0 (uO.take 0):=World.ownsRow_nil _ _ _ _
 have ak:=AaA.refl (· = m) W
 replace ⟨bW,rW1,rW2,kW,a7,a8,a9,a3⟩:=yh8 bW rW1 rW2 kW a7 a8 a9 a3;replace ⟨ak,ag,ah,ai,hn,ac,aj⟩:=yh7 ak ag ah ai hn ac aj
 clear c3 c4
 go_wp2
 go_loopw [2] (λ i wr=>∃ k v,k<=n/\i=I (k:Nat)/\wr.ownsRow W.heap.size 40 1 v k (uO.take k) /\
  Blk wr m (.cells #[I R.blocks,I R.nodes,I R.data,OB,ON,.slice ↑g1 R.oldB.length d1,.slice ↑g2 R.oldN.length d2,.slice aR n cR,v,PP,I R.sp,.bool R.op,.bool R.dead] 131 (0,0))/\AaA (· = m) W wr) (λ i _=>n - (intOf i).toNat)
 case atStart=>exact ⟨0,_,by omega,rfl,a3.out,bW.out,ak.out⟩
 case round=>
  obtain ⟨k,v,hk1,rfl,hown,a2,aa⟩:=hrel
  have hlt:=aa.size
  have cm7:=a2.cell 7
  have cm8:=a2.cell 8
  simp at cm7 cm8
  have cmf:=a2.frz
  have cm9:=a2.cell 9
  have cm10:=a2.cell 10
  have cm11:=a2.cell 11
  simp at cm9 cm10 cm11
  have a4:=abN (Z:=λ i=>(Value.slice aR n cR).ownBlock=some i) aa (λ i e e2=>a8.out (e2 ▸ e)) a9.out (λ x e=>e)
  by_cases aA:k<n
  ·have aB:(k:Int)<n:=by omega
   have aF:0<=(k:Int)/\(k:Int)<(n:Nat):=by omega
   obtain ⟨gR,cR',eR,_,aG⟩:=ab9 a4 (by omega)
   injection eR with eR _ eR3
   subst eR eR3
   have al:k<uO.length:=by have:=ac.out;omega
   obtain ⟨gu,cu,hu⟩:=aj.out uO[k] (List.getElem_mem al)
   have ck:wr.cell? ⟨gR,k,none⟩=some (.slice ↑gu 512 cu):=adS a4 k _ (by rw [aEG al,hu])
   have am:some m≠v.ownBlock:=λ e=>by have:=aaV hown m e.symm;omega
   have aH:some gR≠v.ownBlock:=λ e=>by have:=aaV hown gR e.symm;have hx:=ab9 a9.out (by omega);obtain ⟨gg,cc,ee,_,aI⟩:=hx;injection ee with ee;injection ee with ee;injection ee with ee;omega
   have cm7d:wr.drew.cell? ⟨m,7,none⟩=some (.slice ↑gR n cR):=cm7
   have ckd:wr.drew.cell? ⟨gR,k,none⟩=some (.slice ↑gu 512 cu):=ck
   have cm8d:wr.drew.cell? ⟨m,8,none⟩=some v:=cm8
   have cm8a:=λ o=>aaU cm8 o
   have an:uO.take (k+1)=uO.take k++[.slice ↑gu 512 cu]:=by rw [List.take_add_one,aEG al,hu];rfl
   replace ⟨a2,aa,a4,hu,an⟩:=yh5 a2 aa a4 hu an
   go_wp2_with fail
   try go_frame
   go_region_law ((rw [if_pos (by rfl)];refine aj2 (.tmp 27) (.tmp 35) 105 rfl 40 i0 (.slice none 0 0) 1 24 arB hi.out ae.out af.out hz2.out rfl (by omega) v k _ rfl (aeG (World.ownsRow.alloc (World.ownsRow.drew hown) _) (aEY _)) ⟨wr.heap.size,0,none⟩ 1 1 [.slice ↑gu 512 cu] rfl rfl (cell_one_new _ _ _) (λ u hu=>by simp at hu;subst hu;rfl) (by omega) (by unfold maxLen;omega) (by omega) ?_;intro g' cap' w3 a5 a1 ao;have p8:=anF (aaU cm8d _) a1 am;have pf:=(Blk.grown ((a2.out.alloc _).drew) a1 am).frz;replace ⟨a5,ao,a1⟩:=yh3 a5 ao a1))
   all_goals
    have hg':W.heap.size<=g':=by
     rcases ao.out with ⟨e,_⟩|e
     ·exact aaV hown g' e
     ·rw [e];exact aE4 hlt (by first|(show wr.heap.size<=(wr.alloc _).heap.size;rw [aEI];omega))
    have av:=Blk.grown ((a2.out.drew).alloc _) a1.out am
    have ad:=av.setCell 8 (.slice ↑g' (k+1) cap')
    simp at ad
    have a0:=ownsRow_setCell_below (au4 a5.out hg') (a:=⟨m,8,none⟩) az (.slice ↑g' (k+1) cap')
    rw [← an.out] at a0
    have ap:AaA (· = m) W (w3.setCell ⟨m,8,none⟩ (.slice ↑g' (k+1) cap')):=(((aa.out.drew).alloc _).grown a1.out (λ i hi=>.inr (aaV hown i hi))).setCell (.inl rfl) _
    replace ⟨hown,ad,a0,ap⟩:=yh4 hown ad a0 ap;clear av
    clear cm7 cm8 cm9 cm10 cm11 cmf ck cm7d ckd cm8d cm8a p8 pf
    go_wp2
    exact ⟨⟨k+1,_,by omega,by go_num,a0.out,ad.out,ap.out⟩,by simp [intOf];omega⟩
  ·have aB:¬ (k:Int)<n:=by omega
   obtain rfl:k=n:=by omega
   have hR:AcP (((wr.setCell ⟨m,9,none⟩ (.slice none 0 0)).setCell ⟨m,10,none⟩ (I 0)).setCell ⟨m,11,none⟩ ↑true) m R.begin (λ i=>Z i∨w.heap.size<=i/\i<(((wr.setCell ⟨m,9,none⟩ (.slice none 0 0)).setCell ⟨m,10,none⟩ (I 0)).setCell ⟨m,11,none⟩ ↑true).heap.size)/\AaA (· = m) w (((wr.setCell ⟨m,9,none⟩ (.slice none 0 0)).setCell ⟨m,10,none⟩ (I 0)).setCell ⟨m,11,none⟩ ↑true):=by
    have bE:=((a2.setCell 9 (.slice none 0 0)).setCell 10 (I 0)).setCell 11 ↑true
    simp at bE
    have kE:AaA (· = m) wr (((wr.setCell ⟨m,9,none⟩ (.slice none 0 0)).setCell ⟨m,10,none⟩ (I 0)).setCell ⟨m,11,none⟩ ↑true):=
     (((AaA.refl (· = m) wr).setCell (p:=⟨m,9,none⟩) (.inl rfl) _).setCell (p:=⟨m,10,none⟩) (.inl rfl) _).setCell (p:=⟨m,11,none⟩) (.inl rfl) _
    generalize ((wr.setCell ⟨m,9,none⟩ (.slice none 0 0)).setCell ⟨m,10,none⟩ (I 0)).setCell ⟨m,11,none⟩ ↑true=wE at bE kE ⊢
    have kWE:=aa.step kE
    have kA:=kW.out.step kWE
    have hh:=h1.out
    have hsz:=kA.size
    have aC:=kE.size
    have aw:=aa.size
    have ax:=kW.out.size
    have far:∀ {y:Value} {e size n:Nat} {xs:List Value},w.ownsRow 0 e size y n xs->131≠e->wE.ownsRow 0 e size y n xs:=λ {y} {_} {_} {_} {_} h hT=>abN (Z:=λ i=>y.ownBlock=some i) kA (λ i e1 e2=>abG h hb.out hT (e2 ▸ e1)) h (λ _ e=>e)
    have q1:w.heap.size<=g1:=aaV rW1.out g1 rfl
    have q2:w.heap.size<=g2:=aaV rW2.out g2 rfl
    have q3:=ad1 rW1.out (g:=g1) rfl
    have q4:=ad1 rW2.out (g:=g2) rfl
    have hz:∀ {v:Value},InZ Z v->InZ (λ i=>Z i∨w.heap.size<=i/\i<wE.heap.size) v:=λ h g e=>.inl (h g e)
    have hsl:uO.take k=uO:=by rw [← ac.out,List.take_length]
    have hown':wE.ownsRow W.heap.size 40 1 v k uO:=by
     have:=abN (Z:=λ i=>v.ownBlock=some i) kE (λ i e e2=>by have:=aaV hown i e;omega) hown (λ _ e=>e)
     rwa [hsl] at this
    refine ⟨⟨⟨OB,ON,.slice ↑g1 R.oldB.length d1,.slice ↑g2 R.oldN.length d2,.slice aR k cR,v,.slice none 0 0,uO,uO⟩,?_⟩,kA⟩
    refine { hm:=bE,ob:=far hh.ob (by decide),on:=far hh.on (by decide),nb:=?_,nn:=?_,orr:=?_,rr:=?_,pr:=World.ownsRow_nil _ _ _ _,zm:=.inl hh.zm,zob:=hz hh.zob,zon:=hz hh.zon,znb:=?_,znn:=?_,zor:=hz hh.zor,zr:=?_,zp:=?_,zuO:=λ u hu=>hz (hh.zuO u hu),zuR:=λ u hu=>hz (hh.zuO u hu),lb:=⟨l1.out,l2.out,l1.out,l2.out⟩,d1:=?_,d2:=?_,d3:=?_,lr:=⟨hh.lr.1,hh.lr.1⟩,l5:=⟨hh.l5.1,hh.l5.1⟩ }
    ·exact aeG (abN (Z:=(· = g1)) kWE (λ i e e2=>ag.out (by omega)) rW1.out (λ x e=>(aEP e).symm)) (aEY _)
    ·exact aeG (abN (Z:=(· = g2)) kWE (λ i e e2=>ah.out (by omega)) rW2.out (λ x e=>(aEP e).symm)) (aEY _)
    ·refine ⟨?_,hh.orr.2.1,λ i hi u hu=>far (hh.orr.2.2 i hi u hu) (by decide)⟩
     have:=far hh.orr.1 (by decide)
     exact this
    ·refine ⟨?_,hh.orr.2.1,λ i hi u hu=>far (hh.orr.2.2 i hi u hu) (by decide)⟩
     have h9:R.begin.raw.length=k:=hn.out
     rw [h9];exact aeG hown' (aEY _)
    ·intro x e;have:=aEP e;subst this;exact .inr ⟨q1,by show g1<_;omega⟩
    ·intro x e;have:=aEP e;subst this;exact .inr ⟨q2,by show g2<_;omega⟩
    ·intro x e
     have:=aaV hown' x e
     have:=ad1 hown' e
     exact .inr ⟨by omega,by omega⟩
    ·intro x e;cases e
    ·exact amS ai.out
    ·have xb:=xB.out
     have xn:=xN.out
     have eb:=eB.out
     have en:=eN.out
     refine ⟨?_,?_,?_,?_⟩
     ·show _≠OB.ownBlock;rw [eb];exact amS (by omega)
     ·show _≠ON.ownBlock;rw [en];exact amS (by omega)
     ·show _≠OB.ownBlock;rw [eb];exact amS (by omega)
     ·show _≠ON.ownBlock;rw [en];exact amS (by omega)
    ·intro _ g e e2
     have:=aaV hown' g e
     have:=ad1 a7.out.1 e2
     omega
   replace hR:=hid hR;clear a2 aa hown a4
   go_wp2
   go_end0
   exact ⟨rfl,hR.out.1,hR.out.2⟩
end Go.Vk
