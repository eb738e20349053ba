/- Part of the proof: Rg1 Rg2a Ir0 Rg3 Rg4 Rg5. -/
import Derived.Test.YtjeelghnmkefcaaGreatQ20
import Derived.Test.YtjeelghnmkefcaaGreatQ21
set_option linter.unusedVariables false
set_option maxHeartbeats 16000000
set_option maxRecDepth 100000
namespace Go.Vk
open Go.RowKit Go.Proofs
open Tryz (prog)
def aaZ (bs:List UInt8):List Bool:=(List.range 4096).map (abP bs)
theorem aa5 (bs:List UInt8):(aaZ bs).length=4096:=by simp [aaZ]
theorem ac9 (bs:List UInt8) (i:Nat) (h:i<(aaZ bs).length):(aaZ bs)[i]=abP bs i:=by simp [aaZ]
theorem akS {a b:List UInt8} (ha:a.length=512) (hb:b.length=512):aaZ a=aaZ b↔a=b:=by
 constructor
 ·intro e
  refine aB9 ha hb λ i hi=>?_
  have h1:=ac9 a i (by rw [aa5];exact hi)
  have h2:=ac9 b i (by rw [aa5];exact hi)
  rw [← h1,← h2]
  simp only [e]
 ·rintro rfl;rfl
theorem af9 (n:Nat):aaZ (aaD n)=noBits:=by
 refine (List.eq_replicate_iff (n:=4096) (a:=false)).2 ⟨aa5 _,λ b hb=>?_⟩
 unfold aaZ at hb
 obtain ⟨i,_,rfl⟩:=List.mem_map.1 hb
 exact amK n i
theorem amJ (bs:List UInt8) (i:Nat) (hi:i<4096) (hl:bs.length=512):aaZ (ab2 bs i)=(aaZ bs).set i (!abP bs i):=by
 refine List.ext_getElem (by rw [aEV,aa5,aa5]) λ j h1 h2=>?_
 rw [ac9,anI _ _ _ (by omega),List.getElem_set,ac9]
 by_cases e:j=i
 ·subst e;simp
 ·rw [if_neg e,if_neg (λ x=>e x.symm)]
def Ah4 (w:World) (v:Value) (l:List Bool):Prop:=
 ∃ g cap,v=.slice (some ⟨g,0,none⟩) l.length cap/\∀ i (h:i<l.length),w.cell? ⟨g,i,none⟩=some (.bool l[i])
theorem AaW.sl {w:World} {lo:Nat} {v:Value} {l:List Bool} (h:AaW w lo v l) (hl:l.length=4096):Ah4 w v l:=by
 obtain ⟨g,cap,e,_,_,h2⟩:=AaW.slice h (by omega)
 exact ⟨g,cap,e,h2⟩
theorem Ah4.keeps {w w':World} {v:Value} {l:List Bool} (h:Ah4 w v l) {Gf:Nat->Prop} (k:AaA Gf w w') (hG:∀ g,v.ownBlock=some g->¬ Gf g):Ah4 w' v l:=by
 obtain ⟨g,cap,rfl,h⟩:=h
 exact ⟨g,cap,rfl,λ i hi=>k.cellF (h i hi) (hG g rfl)⟩
theorem aCF (w:World) (v1 v2:Value) (l1 l2:List Bool) (h1:Ah4 w v1 l1) (h2:Ah4 w v2 l2) (b1:l1.length=4096) (b2:l2.length=4096) :
  Calls prog 188 #[v1,v2] w λ e w'=>e=U (.bool (decide (l1=l2)))/\∃ m,w'=w.drewN m:=by
 obtain ⟨g1,c1,rfl,h1⟩:=h1
 obtain ⟨g2,c2,rfl,h2⟩:=h2
 have hfin:∀ k,l1.take k=l2.take k->k=4096->decide (l1=l2)=true:=λ k hk e=>by
  rw [e,← b1,List.take_length,b1,← b2,List.take_length] at hk;simpa using hk
 have hst:∀ k (x:k<l1.length) (y:k<l2.length),l1.take k=l2.take k->l1[k]=l2[k]->l1.take (k+1)=l2.take (k+1):=λ k x y p q=>by
  rw [List.take_add_one,List.take_add_one,aEG x,aEG y,p,q]
 have a0:∀ k (x:k<l1.length) (y:k<l2.length),l1[k]≠l2[k]->decide (l1=l2)=false:=λ k x y p=>by
  simp only [decide_eq_false_iff_not]
  intro e
  subst e
  exact p rfl
 have a1:=b1
 have a2:=b2
 rw [b1,b2]
 replace ⟨h1,h2,hfin,hst,a0,a1,a2⟩:=yh7 h1 h2 hfin hst a0 a1 a2;clear b1 b2
 go_enter Tryz.func188,Tryz.ntmps188
 go_wp2
 go_loopw [5] (λ i wr=>∃ k m:Nat,k<=4096/\i=I k/\wr=w.drewN m/\l1.take k=l2.take k) (λ i _=>4096 - (intOf i).toNat)
 case atStart=>exact ⟨0,0,by omega,rfl,rfl,by simp⟩
 case round=>
  obtain ⟨k,m,hk1,rfl,rfl,hk2⟩:=hrel
  by_cases a3:k<4096
  ·have a4:(k:Int)<4096:=by omega
   have a5:0<=(k:Int)/\(k:Int)<(4096:Nat):=by omega
   have x1:k<l1.length:=by have:=a1.out;omega
   have x2:k<l2.length:=by have:=a2.out;omega
   have q1:=h1.out k x1
   have q2:=h2.out k x2
   by_cases he:l1[k]=l2[k]
   ·have hs:=hst.out k x1 x2 hk2 he
    rw [he] at q1
    generalize l2[k]=y at q1 q2
    replace ⟨hs,hk2,he⟩:=yh3 hs hk2 he
    cases y
    all_goals
     go_wp2
     go_region
     go_wp2
     exact ⟨⟨k+1,m+1,by omega,by go_num,rfl,hs.out⟩,by simp [intOf];omega⟩
   ·have hd:=a0.out k x1 x2 he
    generalize l1[k]=y1 at q1 he
    generalize l2[k]=y2 at q2 he
    replace ⟨hd,hk2⟩:=yh2 hd hk2
    cases y1<;>cases y2
    case false.false=>exact absurd rfl he
    case true.true=>exact absurd rfl he
    all_goals
     clear he
     go_wp2
     go_region
     go_wp2
     go_ret
     exact ⟨by rw [hd.out];rfl,m+1,rfl⟩
  ·have a4:¬ (k:Int)<4096:=by omega
   have hd:=hfin.out k hk2 (by omega)
   replace hd:=hid hd;clear hk2
   go_wp2
   go_ret
   exact ⟨by rw [hd.out];rfl,m,rfl⟩
def lowI (o:Option Nat):Int:=match o with|some i=>(i:Int)|none=>-1
theorem ayF (w:World) (v:Value) (bs:List UInt8) (h:Ah4 w v (aaZ bs)) (lo hi:Nat) (a5:lo<=hi) (hh:hi<=4096) :
  Calls prog 190 #[v,I lo,I hi] w λ e w'=>e=U (I (lowI (abA bs lo hi)))/\w=w':=by
 obtain ⟨g,c,rfl,h⟩:=h
 have hcel:∀ k,k<4096->w.cell? ⟨g,k,none⟩=some (.bool (abP bs k)):=λ k hk=>by
  have:=h k (by rw [aa5];exact hk)
  rwa [ac9] at this
 rw [aa5]
 have a1:∀ k,lo<=k->k<hi->abP bs k=false->(∀ j,lo<=j->j<k->abP bs j=true)->lowI (abA bs lo hi)=(k:Int):=λ k a b c d=>by rw [apJ a b c d];rfl
 have a0:(∀ j,lo<=j->j<hi->abP bs j=true)->lowI (abA bs lo hi)=-1:=λ d=>by rw [amU d];rfl
 replace ⟨hcel,a1,a0⟩:=yh3 hcel a1 a0;clear h
 go_enter Tryz.func190,Tryz.ntmps190
 go_wp2
 go_loopw [7] (λ i wr=>∃ k:Nat,lo<=k/\k<=hi/\i=I k/\wr=w/\∀ j,lo<=j->j<k->abP bs j=true) (λ i _=>hi - (intOf i).toNat)
 case atStart=>exact ⟨lo,by omega,by omega,rfl,rfl,λ j _ _=>by omega⟩
 case round=>
  obtain ⟨k,a3,hk1,rfl,rfl,hk2⟩:=hrel
  by_cases a2:k<hi
  ·have a4:(k:Int)<hi:=by omega
   have a6:0<=(k:Int)/\(k:Int)<(4096:Nat):=by omega
   have q:=hcel.out k (by omega)
   cases hb:abP bs k
   ·have hd:=a1.out k a3 a2 hb hk2
    rw [hb] at q
    replace ⟨hk2,hb,hd⟩:=yh3 hk2 hb hd
    go_wp2
    go_ret
    exact ⟨by rw [hd.out];rfl,rfl⟩
   ·rw [hb] at q
    have hn:∀ j,lo<=j->j<k+1->abP bs j=true:=λ j a b=>by
     by_cases e:j=k
     ·rw [e,hb]
     ·exact hk2 j a (by omega)
    replace ⟨hk2,hn⟩:=yh2 hk2 hn;clear hb
    go_wp2
    exact ⟨⟨k+1,by omega,by omega,by go_num,trivial,hn.out⟩,by simp [intOf];omega⟩
  ·have a4:¬ (k:Int)<hi:=by omega
   obtain rfl:k=hi:=by omega
   have hd:=a0.out hk2
   replace hd:=hid hd;clear hk2
   go_wp2
   go_ret
   exact ⟨by rw [hd.out];rfl,rfl⟩
theorem as6 (bs:List UInt8) {lo k:Nat} (h:lo<=k):ad3 bs lo (k+1)=ad3 bs lo k+if abP bs k=true then 0 else 1:=by
 unfold ad3
 have h1:=alM bs lo (k - lo)
 have h2:=aj6 bs lo (k - lo) 1
 rw [show lo+(k - lo)=k by omega,aj5] at h2
 rw [show k+1 - lo=k - lo+1 by omega,h2]
 split<;>omega
theorem apU (w:World) (v:Value) (bs:List UInt8) (h:Ah4 w v (aaZ bs)) (lo hi:Nat) (a5:lo<=hi) (hh:hi<=4096) :
  Calls prog 197 #[v,I lo,I hi] w λ e w'=>e=U (I (ad3 bs lo hi:Nat))/\w=w':=by
 obtain ⟨g,c,rfl,h⟩:=h
 have hcel:∀ k,k<4096->w.cell? ⟨g,k,none⟩=some (.bool (abP bs k)):=λ k hk=>by
  have:=h k (by rw [aa5];exact hk)
  rwa [ac9] at this
 rw [aa5]
 have a0:=λ k (hk:lo<=k)=>as6 bs hk
 have hb:∀ k,ad3 bs lo k<=k:=λ k=>by unfold ad3;omega
 have h0:ad3 bs lo lo=0:=by unfold ad3;omega
 replace ⟨hcel,a0,hb,h0⟩:=yh4 hcel a0 hb h0;clear h
 go_enter Tryz.func197,Tryz.ntmps197
 go_wp2
 go_loopw [7,8] (λ n i wr=>∃ k:Nat,lo<=k/\k<=hi/\i=I k/\wr=w/\n=I (ad3 bs lo k:Nat)) (λ _ i _=>hi - (intOf i).toNat)
 case atStart=>exact ⟨lo,by omega,by omega,rfl,rfl,by rw [h0.out];rfl⟩
 case round=>
  obtain ⟨k,a2,hk1,rfl,rfl,rfl⟩:=hrel
  by_cases a3:k<hi
  ·have a4:(k:Int)<hi:=by omega
   have a6:0<=(k:Int)/\(k:Int)<(4096:Nat):=by omega
   have q:=hcel.out k (by omega)
   have hs:=a0.out k a2
   have a7:=hb.out k
   cases a1:abP bs k
   ·rw [a1] at q hs
    simp only [Bool.false_eq_true,if_false] at hs
    generalize ad3 bs lo k=n1 at *
    replace ⟨a1,hs⟩:=yh2 a1 hs
    go_wp2
    exact ⟨⟨k+1,by omega,by omega,by go_num,trivial,by rw [hs.out];go_num⟩,by simp [intOf];omega⟩
   ·rw [a1] at q hs
    simp only [if_true] at hs
    generalize ad3 bs lo k=n1 at *
    replace hs:=hid hs;clear a1
    go_wp2
    exact ⟨⟨k+1,by omega,by omega,by go_num,trivial,by rw [hs.out];rfl⟩,by simp [intOf];omega⟩
  ·have a4:¬ (k:Int)<hi:=by omega
   obtain rfl:k=hi:=by omega
   go_wp2
   go_ret
   exact ⟨rfl,rfl⟩
theorem AaW.set {w:World} {lo g n cap:Nat} {l:List Bool} (h:AaW w lo (.slice ↑g n cap) l) (hn:l.length=n) (j:Nat) (b:Bool):AaW (w.setCell ⟨g,j,none⟩ (.bool b)) lo (.slice ↑g n cap) (l.set j b):=by
 unfold AaW at h ⊢
 rw [aEV]
 rw [hn] at h ⊢
 have:=(World.ownsRow.stored (g:=g) h j (.bool b)).1
 have e:ae6 (l.set j b)=(ae6 l).set j (.bool b):=by unfold ae6;rw [List.map_set]
 rw [e]
 exact this
theorem AaW.frz {w:World} {lo g n cap:Nat} {l:List Bool} (h:AaW w lo (.slice ↑g n cap) l) (hn:l.length=n) (j:Nat):w.frozen? ⟨g,j,none⟩=false:=by
 unfold AaW at h
 rw [hn] at h
 exact World.ownsRow.frozenAt (g:=g) h j
theorem aj4:(prog).underlying 48=some (.slice 3):=Tryz.underlying48
theorem akI:((prog).info? 3).map (λ i=>(i.zero,i.size,i.bytes))=some (some (I 0),1,8):=by kernel_rfl
def AbV (w:World) (lo:Nat) (v:Value) (l:List Nat):Prop:=w.ownsRow lo 3 1 v l.length (l.map natV)
theorem AbV.nil (w:World) (lo:Nat):AbV w lo (.slice none 0 0) []:=World.ownsRow_nil _ _ _ _
theorem AbV.lo {w:World} {lo lo':Nat} {v:Value} {l:List Nat} (h:AbV w lo v l) (hl:lo'<=lo):AbV w lo' v l:=aeG h hl
theorem AbV.shape {w:World} {lo:Nat} {v:Value} {l:List Nat} (h:AbV w lo v l):(v=.slice none 0 0/\l=[])∨∃ g cap,v=.slice (some ⟨g,0,none⟩) l.length cap/\lo<=g/\g<w.heap.size/\∀ j (h:j<l.length),w.cell? ⟨g,j,none⟩=some (I l[j]):=by
 rcases id h.2 with ⟨h1,h2⟩|⟨g,cap,cur,rfl,hb,hh,rest⟩
 ·exact .inl ⟨h1,List.eq_nil_of_length_eq_zero h2⟩
 ·refine .inr ⟨g,cap,rfl,hb,?_,λ j hj=>?_⟩
  ·by_cases hx:g<w.heap.size
   ·exact hx
   ·rw [Array.getElem?_eq_none (by omega)] at hh;cases hh
  ·have:=World.ownsRow.cells h (g:=g) rfl j (I l[j]) (by simp [natV,aEG hj])
   have e:(⟨g,0,none⟩:Addr).add j=⟨g,j,none⟩:=by unfold Addr.add;split<;>simp_all
   rw [e] at this
   exact this
theorem AbV.keeps {w w':World} {Gf:Nat->Prop} {lo:Nat} {v:Value} {l:List Nat} (h:AbV w lo v l) (k:AaA Gf w w') (hG:∀ g,v.ownBlock=some g->¬ Gf g):AbV w' lo v l:=
 abN (Z:=λ g=>v.ownBlock=some g) k hG h (λ _ e=>e)
theorem ahU (l:List Nat) (n:Nat):(l++[n]).map natV=l.map natV++[I n]:=by simp [natV]
theorem akC {w:World} {lo lo' e e' s s':Nat} {v v':Value} {n n':Nat} {xs xs':List Value} (h:w.ownsRow lo e s v n xs) (h':w.ownsRow lo' e' s' v' n' xs') (he:e≠e') {g:Nat} (hg:v.ownBlock=some g):v'.ownBlock≠some g:=λ hg'=>by
 rcases h.2 with ⟨h1,_⟩|⟨g1,c1,cur1,rfl,_,a1,_⟩
 ·rw [h1] at hg;cases hg
 ·rcases h'.2 with ⟨h2,_⟩|⟨g2,c2,cur2,rfl,_,a0,_⟩
  ·rw [h2] at hg';cases hg'
  ·have e1:g1=g:=aEP hg
   have e2:g2=g:=aEP hg'
   subst e1 e2
   rw [a1] at a0
   injection a0 with a0
   injection a0 with _ a0
   exact he a0
section
variable {w w':World} {m:Nat} {R:RP} {V:RefV} {Z Z':Nat->Prop}
theorem abE {Gf:Nat->Prop} (k:AaA Gf w w') {e size n:Nat} {y:Value} {xs:List Value} (h:w.ownsRow 0 e size y n xs) (hn:∀ g,y.ownBlock=some g->¬ Gf g):w'.ownsRow 0 e size y n xs:=
 abN (Z:=λ i=>y.ownBlock=some i) k hn h (λ _ e=>e)
theorem AeQ.far {Gf:Nat->Prop} (k:AaA Gf w w') {v:Value} {ls:List (List UInt8)} {us:List Value} (h:AeQ w v ls us) (hv:∀ g,v.ownBlock=some g->¬ Gf g) (hu:∀ u∈us,∀ g,u.ownBlock=some g->¬ Gf g):AeQ w' v ls us:=
 ⟨abE k h.1 hv,h.2.1,λ i hi u e=>abE k (h.2.2 i hi u e) (hu u (List.mem_of_getElem? e))⟩
theorem AeQ.each {v:Value} {ls:List (List UInt8)} {us:List Value} (h:AeQ w v ls us) {u:Value} (hu:u∈us):∃ l,Ab5 w 0 u l:=by
 obtain ⟨i,hi,rfl⟩:=List.getElem_of_mem hu
 exact ⟨_,h.2.2 i (by rw [← h.2.1];exact hi) _ (aEG hi)⟩
theorem AdB.flag (h:AdB w m R V Z) (k:AaA (· = m) w w') (s:Nat) (o d:Bool) (ho:o=true->R.op=true) (hm:Blk w' m (refO { R with sp:=s,op:=o,dead:=d } V)):AdB w' m { R with sp:=s,op:=o,dead:=d } V Z:=
 {hm:=hm
  ob:=abE k h.ob (λ g e f=>abG h.ob h.hm (by decide) (f ▸ e))
  on:=abE k h.on (λ g e f=>abG h.on h.hm (by decide) (f ▸ e))
  nb:=abE k h.nb (λ g e f=>abG h.nb h.hm (by decide) (f ▸ e))
  nn:=abE k h.nn (λ g e f=>abG h.nn h.hm (by decide) (f ▸ e))
  orr:=h.orr.far k (λ g e f=>abG h.orr.1 h.hm (by decide) (f ▸ e)) (λ u hu g e f=>by obtain ⟨l,hl⟩:=h.orr.each hu;exact abG hl h.hm (by decide) (f ▸ e))
  rr:=h.rr.far k (λ g e f=>abG h.rr.1 h.hm (by decide) (f ▸ e)) (λ u hu g e f=>by obtain ⟨l,hl⟩:=h.rr.each hu;exact abG hl h.hm (by decide) (f ▸ e))
  pr:=abE k h.pr (λ g e f=>abG h.pr h.hm (by decide) (f ▸ e))
  zm:=h.zm,zob:=h.zob,zon:=h.zon,znb:=h.znb,znn:=h.znn,zor:=h.zor,zr:=h.zr,zp:=h.zp,zuO:=h.zuO,zuR:=h.zuR
  lb:=h.lb,d1:=h.d1,d2:=h.d2,d3:=λ e=>h.d3 (ho e),lr:=h.lr,l5:=h.l5 }
theorem AdB.newP (h:AdB w m R V Z) (k:AaA (λ i=>i=m∨V.P.ownBlock=some i) w w') (l:List Nat) (v:Value) (hm:Blk w' m (refO { R with put:=l } { V with P:=v })) (hp:w'.ownsRow 0 3 1 v l.length (l.map natV)) (hZ:∀ i,Z i->Z' i) (hv:InZ Z' v):AdB w' m { R with put:=l } { V with P:=v } Z':=by
 have a0:∀ {e size n:Nat} {y:Value} {xs:List Value},w.ownsRow 0 e size y n xs->131≠e->e≠3->∀ g,y.ownBlock=some g->¬ (g=m∨V.P.ownBlock=some g):=λ hy h1 h2 g e f=>by
  rcases f with f|f
  ·exact abG hy h.hm h1 (f ▸ e)
  ·exact akC hy h.pr h2 e f
 exact
 {hm:=hm
  ob:=abE k h.ob (a0 h.ob (by decide) (by decide))
  on:=abE k h.on (a0 h.on (by decide) (by decide))
  nb:=abE k h.nb (a0 h.nb (by decide) (by decide))
  nn:=abE k h.nn (a0 h.nn (by decide) (by decide))
  orr:=h.orr.far k (a0 h.orr.1 (by decide) (by decide)) (λ u hu=>by obtain ⟨l,hl⟩:=h.orr.each hu;exact a0 hl (by decide) (by decide))
  rr:=h.rr.far k (a0 h.rr.1 (by decide) (by decide)) (λ u hu=>by obtain ⟨l,hl⟩:=h.rr.each hu;exact a0 hl (by decide) (by decide))
  pr:=hp
  zm:=hZ _ h.zm,zob:=λ g e=>hZ g (h.zob g e),zon:=λ g e=>hZ g (h.zon g e),znb:=λ g e=>hZ g (h.znb g e),znn:=λ g e=>hZ g (h.znn g e),zor:=λ g e=>hZ g (h.zor g e),zr:=λ g e=>hZ g (h.zr g e),zp:=hv
  zuO:=λ u hu g e=>hZ g (h.zuO u hu g e),zuR:=λ u hu g e=>hZ g (h.zuR u hu g e)
  lb:=h.lb,d1:=h.d1,d2:=h.d2,d3:=h.d3,lr:=h.lr,l5:=h.l5 }
theorem AdB.newB (h:AdB w m R V Z) (k:AaA (· = m) w w') (l:List Bool) (v:Value) (hm:Blk w' m (refO { R with nowB:=l } { V with NB:=v })) (hr:AaW w' 0 v l) (hl:l.length=4096) (hZ:∀ i,Z i->Z' i) (hv:InZ Z' v)
  (e1:v.ownBlock≠V.NN.ownBlock) (e2:v.ownBlock≠V.OB.ownBlock) (e3:v.ownBlock≠V.ON.ownBlock):AdB w' m { R with nowB:=l } { V with NB:=v } Z':=
 {hm:=hm
  ob:=abE k h.ob (λ g e f=>abG h.ob h.hm (by decide) (f ▸ e))
  on:=abE k h.on (λ g e f=>abG h.on h.hm (by decide) (f ▸ e))
  nb:=hr
  nn:=abE k h.nn (λ g e f=>abG h.nn h.hm (by decide) (f ▸ e))
  orr:=h.orr.far k (λ g e f=>abG h.orr.1 h.hm (by decide) (f ▸ e)) (λ u hu g e f=>by obtain ⟨l,hl⟩:=h.orr.each hu;exact abG hl h.hm (by decide) (f ▸ e))
  rr:=h.rr.far k (λ g e f=>abG h.rr.1 h.hm (by decide) (f ▸ e)) (λ u hu g e f=>by obtain ⟨l,hl⟩:=h.rr.each hu;exact abG hl h.hm (by decide) (f ▸ e))
  pr:=abE k h.pr (λ g e f=>abG h.pr h.hm (by decide) (f ▸ e))
  zm:=hZ _ h.zm,zob:=λ g e=>hZ g (h.zob g e),zon:=λ g e=>hZ g (h.zon g e),znb:=hv,znn:=λ g e=>hZ g (h.znn g e),zor:=λ g e=>hZ g (h.zor g e),zr:=λ g e=>hZ g (h.zr g e),zp:=λ g e=>hZ g (h.zp g e)
  zuO:=λ u hu g e=>hZ g (h.zuO u hu g e),zuR:=λ u hu g e=>hZ g (h.zuR u hu g e)
  lb:=⟨h.lb.1,h.lb.2.1,hl,h.lb.2.2.2⟩,d1:=e1,d2:=⟨e2,e3,h.d2.2.2⟩,d3:=h.d3,lr:=h.lr,l5:=h.l5 }
theorem AdB.newN (h:AdB w m R V Z) (k:AaA (· = m) w w') (l:List Bool) (v:Value) (hm:Blk w' m (refO { R with nowN:=l } { V with NN:=v })) (hr:AaW w' 0 v l) (hl:l.length=4096) (hZ:∀ i,Z i->Z' i) (hv:InZ Z' v)
  (e1:v.ownBlock≠V.NB.ownBlock) (e2:v.ownBlock≠V.OB.ownBlock) (e3:v.ownBlock≠V.ON.ownBlock):AdB w' m { R with nowN:=l } { V with NN:=v } Z':=
 {hm:=hm
  ob:=abE k h.ob (λ g e f=>abG h.ob h.hm (by decide) (f ▸ e))
  on:=abE k h.on (λ g e f=>abG h.on h.hm (by decide) (f ▸ e))
  nb:=abE k h.nb (λ g e f=>abG h.nb h.hm (by decide) (f ▸ e))
  nn:=hr
  orr:=h.orr.far k (λ g e f=>abG h.orr.1 h.hm (by decide) (f ▸ e)) (λ u hu g e f=>by obtain ⟨l,hl⟩:=h.orr.each hu;exact abG hl h.hm (by decide) (f ▸ e))
  rr:=h.rr.far k (λ g e f=>abG h.rr.1 h.hm (by decide) (f ▸ e)) (λ u hu g e f=>by obtain ⟨l,hl⟩:=h.rr.each hu;exact abG hl h.hm (by decide) (f ▸ e))
  pr:=abE k h.pr (λ g e f=>abG h.pr h.hm (by decide) (f ▸ e))
  zm:=hZ _ h.zm,zob:=λ g e=>hZ g (h.zob g e),zon:=λ g e=>hZ g (h.zon g e),znb:=λ g e=>hZ g (h.znb g e),znn:=hv,zor:=λ g e=>hZ g (h.zor g e),zr:=λ g e=>hZ g (h.zr g e),zp:=λ g e=>hZ g (h.zp g e)
  zuO:=λ u hu g e=>hZ g (h.zuO u hu g e),zuR:=λ u hu g e=>hZ g (h.zuR u hu g e)
  lb:=⟨h.lb.1,h.lb.2.1,h.lb.2.2.1,hl⟩,d1:=λ e=>e1 e.symm,d2:=⟨h.d2.1,h.d2.2.1,e2,e3⟩,d3:=h.d3,lr:=h.lr,l5:=h.l5 }
theorem AdB.bitB (h:AdB w m R V Z) (k:AaA (λ i=>V.NB.ownBlock=some i) w w') (l:List Bool) (hr:AaW w' 0 V.NB l) (hl:l.length=4096):AdB w' m { R with nowB:=l } V Z:=by
 have a0:∀ {e size n:Nat} {y:Value} {xs:List Value},w.ownsRow 0 e size y n xs->e≠4->∀ g,y.ownBlock=some g->¬ (V.NB.ownBlock=some g):=λ hy h2 g e f=>akC hy h.nb h2 e f
 exact
 {hm:=k.blk h.hm (λ f=>abG h.nb h.hm (by decide) f)
  ob:=abE k h.ob (λ g e f=>h.d2.1 (f.trans e.symm))
  on:=abE k h.on (λ g e f=>h.d2.2.1 (f.trans e.symm))
  nb:=hr
  nn:=abE k h.nn (λ g e f=>h.d1 (f.trans e.symm))
  orr:=h.orr.far k (a0 h.orr.1 (by decide)) (λ u hu=>by obtain ⟨l,hl⟩:=h.orr.each hu;exact a0 hl (by decide))
  rr:=h.rr.far k (a0 h.rr.1 (by decide)) (λ u hu=>by obtain ⟨l,hl⟩:=h.rr.each hu;exact a0 hl (by decide))
  pr:=abE k h.pr (a0 h.pr (by decide))
  zm:=h.zm,zob:=h.zob,zon:=h.zon,znb:=h.znb,znn:=h.znn,zor:=h.zor,zr:=h.zr,zp:=h.zp,zuO:=h.zuO,zuR:=h.zuR
  lb:=⟨h.lb.1,h.lb.2.1,hl,h.lb.2.2.2⟩,d1:=h.d1,d2:=h.d2,d3:=h.d3,lr:=h.lr,l5:=h.l5 }
theorem AdB.bitN (h:AdB w m R V Z) (k:AaA (λ i=>V.NN.ownBlock=some i) w w') (l:List Bool) (hr:AaW w' 0 V.NN l) (hl:l.length=4096):AdB w' m { R with nowN:=l } V Z:=by
 have a0:∀ {e size n:Nat} {y:Value} {xs:List Value},w.ownsRow 0 e size y n xs->e≠4->∀ g,y.ownBlock=some g->¬ (V.NN.ownBlock=some g):=λ hy h2 g e f=>akC hy h.nn h2 e f
 exact
 {hm:=k.blk h.hm (λ f=>abG h.nn h.hm (by decide) f)
  ob:=abE k h.ob (λ g e f=>h.d2.2.2.1 (f.trans e.symm))
  on:=abE k h.on (λ g e f=>h.d2.2.2.2 (f.trans e.symm))
  nb:=abE k h.nb (λ g e f=>h.d1 (e.trans f.symm))
  nn:=hr
  orr:=h.orr.far k (a0 h.orr.1 (by decide)) (λ u hu=>by obtain ⟨l,hl⟩:=h.orr.each hu;exact a0 hl (by decide))
  rr:=h.rr.far k (a0 h.rr.1 (by decide)) (λ u hu=>by obtain ⟨l,hl⟩:=h.rr.each hu;exact a0 hl (by decide))
  pr:=abE k h.pr (a0 h.pr (by decide))
  zm:=h.zm,zob:=h.zob,zon:=h.zon,znb:=h.znb,znn:=h.znn,zor:=h.zor,zr:=h.zr,zp:=h.zp,zuO:=h.zuO,zuR:=h.zuR
  lb:=⟨h.lb.1,h.lb.2.1,h.lb.2.2.1,hl⟩,d1:=h.d1,d2:=h.d2,d3:=h.d3,lr:=h.lr,l5:=h.l5 }
def RP.state (R:RP):Nat:=if R.dead then 3 else if R.op then R.sp else 4
theorem aeF (h:AcP w m R Z):Calls prog 65 #[↑m] w λ e w'=>e=U (I (R.state:Nat))/\w=w':=by
 obtain ⟨V,h⟩:=h
 have hm:=h.hm
 unfold refO at hm
 have c10:=hm.cell 10
 have c11:=hm.cell 11
 have c12:=hm.cell 12
 simp at c10 c11 c12
 unfold RP.state
 generalize R.dead=d at *
 generalize R.op=o at *
 generalize R.sp=s at *
 clear h hm
 cases d<;>cases o
 all_goals
  simp only [Bool.false_eq_true,if_true,if_false]
  go_enter Tryz.func65,Tryz.ntmps65
  go_wp2
  go_ret
  exact ⟨rfl,rfl⟩
end
def RP.putsE (R:RP) (b:Nat):Nat:=if b∈R.put then 0 else if R.put.length=16 then 50 else 0
def RP.puts (R:RP) (b:Nat):RP:=if b∈R.put then R else if R.put.length=16 then { R with sp:=50 } else { R with put:=R.put++[b] }
section
variable {w w':World} {m:Nat} {R:RP} {V:RefV} {Z Z':Nat->Prop}
theorem AdB.up (h:AdB w m R V Z) (hZ:∀ i,Z i->Z' i):AdB w m R V Z':=
 { h with
      zm:=hZ _ h.zm,zob:=λ g e=>hZ g (h.zob g e),zon:=λ g e=>hZ g (h.zon g e),znb:=λ g e=>hZ g (h.znb g e),znn:=λ g e=>hZ g (h.znn g e),zor:=λ g e=>hZ g (h.zor g e),zr:=λ g e=>hZ g (h.zr g e),zp:=λ g e=>hZ g (h.zp g e)
      zuO:=λ u hu g e=>hZ g (h.zuO u hu g e),zuR:=λ u hu g e=>hZ g (h.zuR u hu g e) }
def AfF (w:World) (m:Nat) (R:RP) (V:RefV) (Z:Nat->Prop) (b:Nat) (e:Ending) (w':World):Prop:=
 ∃ v,e=U (I (R.putsE b:Nat))/\AdB w' m (R.puts b) { V with P:=v } (λ i=>Z i∨w.heap.size<=i/\i<w'.heap.size)/\AaA (λ i=>i=m∨V.P.ownBlock=some i) w w'
theorem anW (h:AdB w m R V Z) (ab:R.put.length<=16) (b:Nat):Calls prog 189 #[↑m,I b] w (AfF w m R V Z b):=by
 obtain ⟨i0,ac,ad,ae,hz2⟩:=info_parts akI
 have hm:=h.hm
 unfold refO at hm
 obtain ⟨aP,cP,eP⟩:=acG h.pr
 obtain ⟨n,hn⟩:∃ n,R.put.length=n:=⟨_,rfl⟩
 have c9:=hm.cell 9
 simp at c9
 rw [eP,hn] at c9
 have a7:=h.pr
 rw [eP] at a7
 have hcel:∀ k (hk:k<R.put.length),∃ gP,aP=some ⟨gP,0,none⟩/\w.cell? ⟨gP,k,none⟩=some (I (R.put[k]:Nat)):=λ k hk=>by
  obtain ⟨g,c,e,_,_⟩:=ab9 a7 (by omega)
  injection e with e _ e3
  subst e e3
  exact ⟨g,rfl,adS a7 k _ (by simp [natV,aEG hk])⟩
 have a3:∀ k (hk:k<R.put.length),R.put[k]=b->AfF w m R V Z b (U (I 0)) w:=λ k hk e=>by
  have hb:b∈R.put:=e ▸ List.getElem_mem hk
  refine ⟨V.P,by simp [RP.putsE,hb],?_,AaA.refl _ w⟩
  have:R.puts b=R:=by simp [RP.puts,hb]
  rw [this]
  exact h.up (λ i hi=>.inl hi)
 have a0:b∉R.put->n=16->AfF w m R V Z b (U (I 50)) (w.setCell ⟨m,10,none⟩ (I 50)):=λ hb e=>by
  have k:AaA (· = m) w (w.setCell ⟨m,10,none⟩ (I 50)):=(AaA.refl (· = m) w).setCell (p:=⟨m,10,none⟩) (.inl rfl) _
  have hE:R.putsE b=50:=by simp [RP.putsE,hb,hn,e]
  have hR:R.puts b={ R with sp:=50 }:=by simp [RP.puts,hb,hn,e]
  have bm:=hm.setCell 10 (I 50)
  simp at bm
  refine ⟨V.P,by rw [hE];rfl,?_,k.mono λ i _ f=>.inl f⟩
  rw [hR]
  exact (h.flag k 50 R.op R.dead id bm).up (λ i hi=>.inl hi)
 have a4:b∉R.put->n≠16->∀ w3 g' cap',(w.alloc (.cells #[I b] 3 (0,0))).grownBy w3 (Value.slice aP n cP).ownBlock->w3.ownsRow 0 3 1 (.slice (some ⟨g',0,none⟩) (n+1) cap') (n+1) (R.put.map natV++[I b]) ->
   ((Value.slice aP n cP).ownBlock=some g'∨w.heap.size<=g')->(∃ cs,Blk w3 m (.cells cs 131 (0,0))/\cs.size=13)/\AfF w m R V Z b (U (I 0)) (w3.setCell ⟨m,9,none⟩ (.slice (some ⟨g',0,none⟩) (n+1) cap')):=λ hb e w3 g' cap' ak a8 al=>by
  have hE:R.putsE b=0:=by simp [RP.putsE,hb,hn,e]
  have hR:R.puts b={ R with put:=R.put++[b] }:=by simp [RP.puts,hb,hn,e]
  have k3:AaA (λ i=>(Value.slice aP n cP).ownBlock=some i) w w3:=((AaA.refl _ w).alloc _).grown ak (λ k e=>.inl e)
  have a5:=k3.blk hm (λ f=>abG a7 hm (by decide) (by rw [hn];exact f))
  have kS:AaA (· = m) w3 (w3.setCell ⟨m,9,none⟩ (.slice ↑g' (n+1) cap')):=(AaA.refl (· = m) w3).setCell (p:=⟨m,9,none⟩) (.inl rfl) _
  have kA:AaA (λ i=>i=m∨V.P.ownBlock=some i) w (w3.setCell ⟨m,9,none⟩ (.slice ↑g' (n+1) cap')):=(k3.mono λ i _ f=>.inr (by rw [eP,hn];exact f)).step (kS.mono λ i _ f=>.inl f)
  have ah:=a5.setCell 9 (.slice ↑g' (n+1) cap')
  simp at ah
  have a1:=abE kS a8 (λ g e f=>abG a8 a5 (by decide) (f ▸ e))
  have hlt:=ad1 a1 (g:=g') rfl
  refine ⟨⟨_,a5,rfl⟩,.slice ↑g' (n+1) cap',by rw [hE];rfl,?_,kA⟩
  rw [hR]
  refine h.newP kA (R.put++[b]) _ ah (by rw [ahU,aEH,hn];exact a1) (λ i hi=>.inl hi) (λ g e=>?_)
  have:g'=g:=aEP e
  subst this
  rcases al with f|f
  ·exact .inl (h.zp g' (by rw [eP,hn];exact f))
  ·exact .inr ⟨f,hlt⟩
 have hst:∀ k (hk:k<R.put.length),b∉R.put.take k->R.put[k]≠b->b∉R.put.take (k+1):=λ k hk a c=>by
  rw [List.take_add_one,aEG hk]
  simp only [Option.toList_some,List.mem_append,List.mem_singleton,not_or]
  exact ⟨a,λ e=>c e.symm⟩
 have a6:∀ k,k=n->b∉R.put.take k->b∉R.put:=λ k e hb=>by rw [e,← hn,List.take_length] at hb;exact hb
 have hrw:=a7
 rw [hn] at ab hrw
 have cf:=hm.frz
 have c10:=hm.cell 10
 simp at c10
 generalize AfF w m R V Z b=Post at *
 replace ⟨hrw,hcel,a3,a0,a4,hst,a6,hn⟩:=yh8 hrw hcel a3 a0 a4 hst a6 hn;replace ⟨ac,ad,ae,hz2⟩:=yh4 ac ad ae hz2;clear h hm a7 eP
 go_enter Tryz.func189,Tryz.ntmps189
 go_wp2
 go_loopw [5] (λ i wr=>∃ k:Nat,k<=n/\i=I k/\wr=w/\b∉R.put.take k) (λ i _=>n - (intOf i).toNat)
 case atStart=>exact ⟨0,by omega,rfl,rfl,by simp⟩
 case round=>
  obtain ⟨k,hk1,rfl,rfl,hk2⟩:=hrel
  by_cases am:k<n
  ·have an:(k:Int)<n:=by omega
   have ap:0<=(k:Int)/\(k:Int)<(n:Nat):=by omega
   have af:k<R.put.length:=by have:=hn.out;omega
   obtain ⟨gP,rfl,hc⟩:=hcel.out k af
   by_cases he:R.put[k]=b
   ·have hy:=a3.out k af he
    rw [he] at hc
    replace ⟨hy,hk2,he⟩:=yh3 hy hk2 he
    go_wp2
    exact hy.out
   ·have hs:=hst.out k af hk2 he
    have ao:¬ ((R.put[k]:Nat):Int)=(b:Int):=by omega
    generalize R.put[k]=y at hc ao
    replace ⟨hs,hk2⟩:=yh2 hs hk2;clear he
    go_wp2
    exact ⟨⟨k+1,by omega,by go_num,trivial,hs.out⟩,by simp [intOf];omega⟩
  ·have an:¬ (k:Int)<n:=by omega
   have hb:=a6.out k (by omega) hk2
   by_cases ai:n=16
   ·have hf:=a0.out hb ai
    have ag:(n:Int)=16:=by omega
    replace ⟨hf,hk2,hb⟩:=yh3 hf hk2 hb
    go_wp2
    exact hf.out
   ·have ag:¬ (n:Int)=16:=by omega
    have ha:=a4.out hb ai
    replace hrw:=hrw.out
    replace ha:=hid ha;clear hk2 hb
    go_wp2_with (at_builtin;refine ae1 rfl _ _ 48 rfl 3 i0 (I 0) 1 8 aj4 ac.out ad.out ae.out hz2.out rfl (by decide) _ _ _ rfl (hrw.alloc _) ⟨wr.heap.size,0,none⟩ 1 1 [I b] rfl rfl ?c1 ?c2 (by omega) ?c3 ?c4 ?_)
    case c2=>first|rfl|(intro u hu;simp at hu;subst hu;rfl)
    case c3=>unfold maxLen;omega
    case c4=>omega
    ·intro g' cap' w3 a2 a9 aa
     obtain ⟨⟨cs,a5,aq⟩,hP⟩:=ha.out w3 g' cap' a9 a2 (aa.elim (λ x=>.inl x.1) (λ x=>.inr (by omega)))
     have f9:=a5.frz 9
     have d9:=a5.cell 9
     obtain ⟨y9,aj⟩:∃ y,cs[9]? = some y:=⟨_,Array.getElem?_eq_getElem (by omega)⟩
     rw [aj] at d9
     clear a2 a9 aa hrw
     replace hP:=hid hP;clear a5 aj
     go_wp2
     exact hP.out
end
def RP.nowK (R:RP) (nd:Bool):List Bool:=if nd then R.nowN else R.nowB
def RP.withK (R:RP) (nd:Bool) (l:List Bool):RP:=if nd then { R with nowN:=l } else { R with nowB:=l }
def RP.laysE (R:RP) (nd:Bool) (l:List Bool):Nat:=if R.nowK nd=l then 0 else R.putsE nd.toNat
def RP.lays (R:RP) (nd:Bool) (l:List Bool):RP:=if R.nowK nd=l then R else if R.putsE nd.toNat=0 then (R.puts nd.toNat).withK nd l else R.puts nd.toNat
section
variable {w w':World} {m:Nat} {R:RP} {V:RefV} {Z Z':Nat->Prop}
def AjZ (w:World) (m:Nat) (R:RP) (Z:Nat->Prop) (nd:Bool) (v:Value) (l:List Bool) (e:Ending) (w':World):Prop:=
 e=U (I (R.laysE nd l:Nat))/\AcP w' m (R.lays nd l) (λ i=>Z i∨v.ownBlock=some i∨w.heap.size<=i/\i<w'.heap.size)/\AaA Z w w'
theorem ayJ (h:AdB w m R V Z) (nd:Bool) {v:Value} {l:List Bool} (hv:AaW w 0 v l) (hl:l.length=4096) (hz:∀ g,v.ownBlock=some g->¬ Z g) (a4:R.nowK nd≠l) {w1 w2:World} (k1:AaA NoF w w1) {e:Ending} (hp:AfF w1 m R V Z nd.toNat e w2) :
  ∃ pe:Nat,e=U (I pe)/\(pe≠0->AjZ w m R Z nd v l (U (I pe)) w2) /\
   (pe=0->(∃ cs,Blk w2 m (.cells cs 131 (0,0))/\cs.size=13)/\AjZ w m R Z nd v l (U (I 0)) (w2.setCell ⟨m,5+nd.toNat,none⟩ v)):=by
 obtain ⟨vp,rfl,hA,k2⟩:=hp
 have kZ:AaA Z w w2:=(k1.mono λ _ _ f=>f.elim).step (k2.mono λ i _ f=>by
  rcases f with f|f
  ·rw [f];exact h.zm
  ·exact h.zp i f)
 have a6:=k1.size
 have a7:=k2.size
 have hE:R.laysE nd l=R.putsE nd.toNat:=by unfold RP.laysE;rw [if_neg a4]
 refine ⟨_,rfl,λ a3=>⟨by rw [hE],?_,kZ⟩,λ a3=>⟨⟨_,hA.hm,rfl⟩,by rw [hE,a3];rfl,?_,?_⟩⟩
 ·have hR:R.lays nd l=R.puts nd.toNat:=by unfold RP.lays;rw [if_neg a4,if_neg a3]
  rw [hR]
  exact ⟨_,hA.up λ i hi=>hi.elim .inl (λ x=>.inr (.inr ⟨by omega,x.2⟩))⟩
 ·have hR:R.lays nd l=(R.puts nd.toNat).withK nd l:=by unfold RP.lays;rw [if_neg a4,if_pos a3]
  rw [hR]
  have kS:AaA (· = m) w2 (w2.setCell ⟨m,5+nd.toNat,none⟩ v):=(AaA.refl (· = m) w2).setCell (p:=⟨m,5+nd.toNat,none⟩) (.inl rfl) _
  have hs3:=kS.size
  have a5:AaW w2 0 v l:=abE kZ hv (λ g e=>hz g e)
  have hv3:AaW (w2.setCell ⟨m,5+nd.toNat,none⟩ v) 0 v l:=abE kS a5 (λ g e f=>abG a5 hA.hm (by decide) (f ▸ e))
  have a2:=hA.hm.setCell (5+nd.toNat) v
  have a0:∀ {y:Value},InZ Z y->(∃ g,v.ownBlock=some g)->v.ownBlock≠y.ownBlock:=λ hy ⟨g,e⟩ f=>hz g e (hy g (f ▸ e))
  have a1:∃ g,v.ownBlock=some g:=by
   obtain ⟨g,c,e,_⟩:=ab9 hv (by omega)
   exact ⟨g,by rw [e];rfl⟩
  have hZ:∀ i,(Z i∨w1.heap.size<=i/\i<w2.heap.size)->Z i∨v.ownBlock=some i∨w.heap.size<=i/\i<(w2.setCell ⟨m,5+nd.toNat,none⟩ v).heap.size:=λ i hi=>hi.elim .inl (λ x=>.inr (.inr ⟨by omega,by omega⟩))
  cases nd
  ·exact ⟨_,hA.newB kS l v (by simpa [refO] using a2) hv3 hl hZ (λ g e=>.inr (.inl e)) (a0 h.znn a1) (a0 h.zob a1) (a0 h.zon a1)⟩
  ·exact ⟨_,hA.newN kS l v (by simpa [refO] using a2) hv3 hl hZ (λ g e=>.inr (.inl e)) (a0 h.znb a1) (a0 h.zob a1) (a0 h.zon a1)⟩
 ·exact kZ.step (((AaA.refl (· = m) w2).setCell (p:=⟨m,5+nd.toNat,none⟩) (.inl rfl) _).mono λ i _ f=>by rw [f];exact h.zm)
theorem aAU (h:AdB w m R V Z) (a9:R.put.length<=16) (nd:Bool) {v:Value} {l:List Bool} (hv:AaW w 0 v l) (hl:l.length=4096) (hz:∀ g,v.ownBlock=some g->¬ Z g):Calls prog 114 #[↑m,I nd.toNat,v] w (AjZ w m R Z nd v l):=by
 have hm:=h.hm
 unfold refO at hm
 have c5:=hm.cell 5
 have c6:=hm.cell 6
 simp at c5 c6
 have a2:Ah4 w (if nd then V.NN else V.NB) (R.nowK nd):=by
  cases nd
  ·exact h.nb.sl h.lb.2.2.1
  ·exact h.nn.sl h.lb.2.2.2
 have aa:(R.nowK nd).length=4096:=by
  cases nd
  ·exact h.lb.2.2.1
  ·exact h.lb.2.2.2
 have a3:=aCF w _ v _ l a2 (hv.sl hl) aa hl
 have a0:R.nowK nd=l->∀ w1,AaA NoF w w1->AjZ w m R Z nd v l (U (I 0)) w1:=λ e w1 k1=>by
  refine ⟨by simp [RP.laysE,e],?_,k1.mono λ _ _ f=>f.elim⟩
  have:R.lays nd l=R:=by simp [RP.lays,e]
  rw [this]
  exact ⟨V,(h.keeps k1 (λ _ _ f=>f)).up λ i hi=>.inl hi⟩
 have hPu:∀ w1,AaA NoF w w1->Calls prog 189 #[↑m,I nd.toNat] w1 (AfF w1 m R V Z nd.toNat):=λ w1 k1=>anW (h.keeps k1 (λ _ _ f=>f)) a9 nd.toNat
 have hF:=λ (a8:R.nowK nd≠l) w1 w2 (k1:AaA NoF w w1) e (hp:AfF w1 m R V Z nd.toNat e w2)=>ayJ h nd hv hl hz a8 k1 hp
 have a5:∀ k,AaA NoF w (w.drewN k):=λ k=>(AaA.refl _ w).drewN k
 generalize AjZ w m R Z nd v l=Post at *
 obtain ⟨av,cv,rfl⟩:=acG hv
 rw [hl] at *
 obtain ⟨b,hb⟩:∃ b,decide (R.nowK nd=l)=b:=⟨_,rfl⟩
 rw [hb] at a3
 cases b
 ·have a8:R.nowK nd≠l:=by simpa using hb
  have hF:=hF a8
  clear a0 hb a2 aa hv
  cases nd
  all_goals
   simp only [Bool.toNat_true,Bool.toNat_false,Bool.false_eq_true,if_true,if_false] at *
   replace ⟨h,hm,a3,hPu,hF,a5⟩:=yh6 h hm a3 hPu hF a5;clear a8
   go_enter Tryz.func114,Tryz.ntmps114
   go_upto_region 7 with (first
    | (go_at_call 188;refine a3.out.mono ?_;rintro e w1 ⟨rfl,k,rfl⟩;have k1:=a5.out k;have ab:=hPu.out _ k1;replace ⟨ab,k1⟩:=yh2 ab k1)
    | (go_at_call 189;refine ab.out.mono ?_;intro e w2 hx;obtain ⟨pe,rfl,a4,a1⟩:=hF.out _ _ k1.out _ hx;clear hx;replace ⟨a4,a1⟩:=yh2 a4 a1))
   by_cases a6:pe=0
   ·obtain ⟨⟨cs,a7,ag⟩,hP⟩:=a1.out a6
    have af:(pe:Int)=0:=by omega
    have f5:=a7.frz 5
    have f6:=a7.frz 6
    have d5:=a7.cell 5
    have d6:=a7.cell 6
    obtain ⟨y5,ad⟩:∃ y,cs[5]? = some y:=⟨_,Array.getElem?_eq_getElem (by omega)⟩
    obtain ⟨y6,ae⟩:∃ y,cs[6]? = some y:=⟨_,Array.getElem?_eq_getElem (by omega)⟩
    rw [ad] at d5
    rw [ae] at d6
    replace ⟨hP,a6⟩:=yh2 hP a6;clear a7 ad ae
    go_wp2
    exact hP.out
   ·have hP:=a4.out a6
    have af:¬ (pe:Int)=0:=by omega
    replace hP:=hid hP;clear a6
    go_wp2
    exact hP.out
 ·have he:R.nowK nd=l:=by simpa using hb
  have ac:=a0 he
  clear a0 hF hb a2 aa hv
  cases nd
  all_goals
   simp only [Bool.toNat_true,Bool.toNat_false,Bool.false_eq_true,if_true,if_false] at *
   replace ⟨a3,a5,ac⟩:=yh3 a3 a5 ac;clear h hm hPu he
   go_enter Tryz.func114,Tryz.ntmps114
   go_wp2_with (go_at_call 188;(refine a3.out.mono ?_;rintro e w1 ⟨rfl,k,rfl⟩;have k1:=ac.out _ (a5.out k);replace k1:=hid k1))
   exact k1.out
end
end Go.Vk
