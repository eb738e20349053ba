/- Part of the proof: No5 No6 Nn7 No7. -/
import Derived.Test.YtjeelghnmkefcaaGreatQ21
import Derived.Test.YtjeelghnmkefcaaGreatQ36
import Derived.Test.YtjeelghnmkefcaaGreatQ37
import Derived.Test.YtjeelghnmkefcaaGreatQ42
set_option linter.unusedVariables false
set_option maxHeartbeats 16000000
set_option maxRecDepth 100000
namespace Go.Vk
open Go.RowKit Go.Proofs
open Tryz (prog)
structure EcS (w0 w:World) (C:TxC) (T:TS) (X:Nat->Prop) (tab p kb:Nat) (kind:Int) (v:Value) (l:List Nat):Prop where
 nx:Ab4 w C T (Wid X w0 w) tab p
 kd:KdAt w kb kind w0.heap.size v l
 ks:AaA (λ i=>KF C i∨i=kb) w0 w
 xt:X tab
 xp:X p
section
variable {w0 w w':World} {C:TxC} {T T':TS} {X Y:Nat->Prop} {tab p kb:Nat} {kind:Int} {v:Value} {l:List Nat}
theorem EcS.ge (h:EcS w0 w C T X tab p kb kind v l) {i:Nat} (e:v.ownBlock=some i):w0.heap.size<=i/\i<w.heap.size:=⟨aaV h.kd.row i e,ad1 h.kd.row e⟩
theorem Wid.next {F:Nat->Prop} (hX:∀ i,X i->i<w0.heap.size) (k0:w0.heap.size<=w.heap.size) (k:AaA F w w') {i:Nat} (hi:Wid X w0 w' i):i<w'.heap.size/\(Wid X w0 w i∨w.heap.size<=i):=by
 have:=k.size
 rcases hi with x|x
 ·have:=hX i x
  exact ⟨by omega,.inl (.inl x)⟩
 ·refine ⟨x.2,?_⟩
  by_cases e:i<w.heap.size
  ·exact .inl (.inr ⟨x.1,e⟩)
  ·exact .inr (by omega)
theorem EcS.quiet (h:EcS w0 w C T X tab p kb kind v l) (hX:∀ i,X i->i<w0.heap.size) (k:AaA NoF w w'):EcS w0 w' C T X tab p kb kind v l:=
 ⟨h.nx.to k (λ f=>f) (λ f=>f) (h.nx.pl.grow k (λ _ _ f=>f.elim) (λ _ hi=>Wid.next hX h.ks.size k hi)) (λ i hi=>hi.elim .inl (λ x=>.inr ⟨x.1,aEJ x.2 k.size⟩)),
  h.kd.keeps k (λ f=>f) (λ _ _ f=>f),h.ks.trans k (λ _ _ f=>f.elim),h.xt,h.xp⟩
theorem EcS.slot (h:EcS w0 w C T X tab p kb kind v l) (a0:X kb) {k:Nat} {e:Ending} (hs:AjU w C T (Wid X w0 w) tab p k e w') :
  ∃ g c,e=U (afX k (nblk k) g (512+c))/\w.heap.size<=g/\Blk w' g (aaE (T.raw (nblk k)++aaD c))/\EcS w0 w' C T X tab p kb kind v l:=by
 obtain ⟨g,c,h1,h2,h3,h4,h5⟩:=hs
 refine ⟨g,c,h1,h2,h3,⟨h4.to (AaA.refl NoF w') (λ f=>f) (λ f=>f) (h4.pl.less λ i hi=>?_) (λ i hi=>?_),h.kd.keeps h5 (h.nx.pl.notF (.inl a0)) (λ i e=>h.nx.pl.notF (.inr (h.ge e))),h.ks.trans h5 (λ _ _ f=>.inl f),h.xt,h.xp⟩⟩
 ·rcases hi with x|x
  ·exact .inl (.inl x)
  ·by_cases e:i<w.heap.size
   ·exact .inl (.inr ⟨x.1,e⟩)
   ·exact .inr ⟨by omega,x.2⟩
 ·have:=h5.size
  have:=h.ks.size
  rcases hi with (x|x)|x
  ·exact .inl x
  ·exact .inr ⟨x.1,by omega⟩
  ·exact .inr ⟨by omega,x.2⟩
def Aw2 (w0:World) (C:TxC) (T:TS) (X:Nat->Prop) (kb:Nat) (kind:Int) (e:Ending) (w':World):Prop:=
 Aa6 w' C T X/\AaA (λ i=>KF C i∨i=kb) w0 w' /\
 (acT T.slot C.G.n=false/\e=U (.tuple #[])/\(∃ v,KdAt w' kb kind w0.heap.size v (aeC T.slot kind C.G.n)/\∀ i,v.ownBlock=some i->w0.heap.size<=i/\¬ KF C i)∨acT T.slot C.G.n=true/\e=thrE 6)
theorem EcS.added (h:EcS w0 w C T X tab p kb kind v l) (a1:X kb) (hX:∀ i,X i->i<w0.heap.size) (n1:kb≠tab) (n2:kb≠p) {bs:List UInt8} {k:Nat} {e:Ending} (hp:AnN w kb kind w0.heap.size v l bs k e w') :
  Aa6 w' C T X/\AaA (λ i=>KF C i∨i=kb) w0 w'/\AaA (λ i=>i=kb∨v.ownBlock=some i) w w' /\
  ((rdN bs).1≠6/\e=U (.tuple #[])/\(∃ v',EcS w0 w' C T X tab p kb kind v' (if selN bs kind then l++[k] else l)/\∀ i,v'.ownBlock=some i->v.ownBlock=some i∨w.heap.size<=i)∨(rdN bs).1=6/\e=thrE 6):=by
 obtain ⟨k1,hq⟩:=hp
 have hw:∀ i,i=kb∨v.ownBlock=some i->Wid X w0 w i/\i≠tab/\i≠p:=by
  rintro i (rfl|e)
  ·exact ⟨.inl a1,n1,n2⟩
  ·have a:=h.ge e
   have b1:=hX _ h.xt
   have b2:=hX _ h.xp
   exact ⟨.inr a,by omega,by omega⟩
 have a0:AaA (λ i=>KF C i∨i=kb) w0 w':=h.ks.trans k1 (λ i hi f=>f.elim .inr (λ e=>by have:=(h.ge e).1;omega))
 have hN:=h.nx.pl.grow k1 (λ i _ f=>(hw i f).1) (λ _ hi=>Wid.next hX h.ks.size k1 hi)
 have a2:Ab4 w' C T (Wid X w0 w') tab p:=h.nx.to k1 (λ f=>(hw _ f).2.1 rfl) (λ f=>(hw _ f).2.2 rfl) hN (λ i hi=>hi.elim .inl (λ x=>.inr ⟨x.1,aEJ x.2 k1.size⟩))
 refine ⟨hN.less λ i hi=>.inl hi,a0,k1,?_⟩
 rcases hq with ⟨a,b,v',c,d⟩|x
 ·exact .inl ⟨a,b,v',⟨a2,c,a0,h.xt,h.xp⟩,d⟩
 ·exact .inr x
theorem au2 (T:TS) (kind:Int) (r i:Nat) (hi:i<4):aeC T.slot kind (4*r+(i+1))=(if selN (acD (T.raw (nblk (4*r+1))) i) kind then aeC T.slot kind (4*r+i)++[4*r+1+i] else aeC T.slot kind (4*r+i)) /\
  acT T.slot (4*r+(i+1))=(acT T.slot (4*r+i) || decide ((rdN (acD (T.raw (nblk (4*r+1))) i)).1=6)):=by
 have e1:T.slot (4*r+i+1)=acD (T.raw (nblk (4*r+1))) i:=by
  unfold TS.slot
  rw [show nblk (4*r+i+1)=nblk (4*r+1) by unfold nblk;omega,show nix (4*r+i+1)=i by unfold nix;omega]
 rw [← Nat.add_assoc,am5,aeZ,e1]
 refine ⟨?_,rfl⟩
 rw [show 4*r+i+1=4*r+1+i by omega]
 by_cases hs:selN (acD (T.raw (nblk (4*r+1))) i) kind
 ·rw [if_pos hs];unfold selN at hs;rw [if_pos hs]
 ·rw [if_neg hs];unfold selN at hs;rw [if_neg hs,aE3]
theorem atO (w:World):(Instr.alloc 160 true (.tuple #[])).run prog w=.ok ↑w.heap.size (w.alloc (.cells #[I 0,I 0,.slice none 0 0] 160 (0,0))):=by kernel_rfl
theorem aDU (h:Ab4 w0 C T X tab p) (h0:T.st=0) (ac:X kb) (n1:kb≠tab) (n2:kb≠p) (hA:Blk w0 kb (.cells #[I kind,.slice none 0 0] 124 (0,0))) :
  Calls prog 63 #[↑tab,.func (.func 64) #[↑kb] #[]] w0 (Aw2 w0 C T X kb kind):=by
 have hX:=h.pl.lt
 have hE:∀ w,AaA NoF w0 w->EcS w0 w C T X tab p kb kind (.slice none 0 0) []:=λ w kk=>
  EcS.quiet ⟨h.to (AaA.refl NoF w0) (λ f=>f) (λ f=>f) (h.pl.less λ i hi=>hi.elim id (λ x=>by omega)) (λ i hi=>.inl hi),⟨hA,AbV.nil _ _⟩,AaA.refl _ _,h.xt,h.xp⟩ hX kk
 have hL:=h.pl.layout
 have hS:=λ (w:World) (v:Value) (l:List Nat) (r:Nat) (hr:4*r<C.G.n) (x:EcS w0 w C T X tab p kb kind v l)=>(alY x.nx h0 (4*r+1) (by omega) (by have:=h.n4;omega)).mono λ _ _ y=>x.slot ac y
 have a5:∀ r,4*r<C.G.n->(T.raw (nblk (4*r+1))).length=512:=λ r hr=>h.pl.len _ (aiU h.pl.geo (by omega))
 have ah:∀ j,(aeC T.slot kind j).length<=j:=λ j=>ajE _ _ _
 have a6:=h.pl.geo.n2
 have a9:=h.n4
 have az:∀ (a b c d e:Value) (w:World),(Instr.field 53 (.agg #[a,b,c,d,e]) 3).run prog w=.ok d w:=λ a b c d e w=>by kernel_rfl
 have ai:=λ r i hi=>au2 T kind r i hi
 have an:=hA.lt
 have aj:=λ (w:World) (v:Value) (l:List Nat) (x:EcS w0 w C T X tab p kb kind v l) (k b g c:Nat) (src:List UInt8) (hg:Blk w g (aaE src)) (hs:512<=src.length) (h1:1<=k) (h2:k<=1024) (hl:l.length<=4096)=>
  (aDI x.kd k b g c src hg hs h1 h2 hl x.ks.size an).mono λ _ _ y=>x.added ac hX n1 n2 y
 have hP:∀ e w',Aa6 w' C T X->AaA (λ i=>KF C i∨i=kb) w0 w'->(acT T.slot C.G.n=false/\e=U (.tuple #[])/\(∃ v,KdAt w' kb kind w0.heap.size v (aeC T.slot kind C.G.n)/\∀ i,v.ownBlock=some i->w0.heap.size<=i/\¬ KF C i)∨acT T.slot C.G.n=true/\e=thrE 6)->Aw2 w0 C T X kb kind e w':=λ e w' a b c=>⟨a,b,c⟩
 have hsz:Hid (0<w0.heap.size):=hid (by omega)
 obtain ⟨a0,b0⟩:=h.cells
 generalize Aw2 w0 C T X kb kind=Post at *
 have a2:∀ j,j<=C.G.n->acT T.slot j=true->acT T.slot C.G.n=true:=λ j hj hb=>amM hj hb
 generalize C.G.n=n at *
 generalize 3+C.G.lg=v1 at hL
 generalize 2+n / 4=v2 at hL
 replace ⟨hX,hE,hL,hS,a5,ah,a6,a9⟩:=yh8 hX hE hL hS a5 ah a6 a9;replace ⟨ai,aj,hP,a2⟩:=yh4 ai aj hP a2;clear h an hA
 go_enter Tryz.func63,Tryz.ntmps63
 go_wp2_with (go_at_call 86;refine hL.out.mono ?_;rintro e w1 ⟨rfl,k1⟩;replace k1:=hid k1)
 have S1:=hE.out _ k1.out
 clear k1 hL hE a0 b0
 replace S1:=hid S1
 go_loopw [5] (λ a wr=>∃ r v,4*r<=n/\a=I (4*r+1:Nat)/\acT T.slot (4*r)=false/\EcS w0 wr C T X tab p kb kind v (aeC T.slot kind (4*r))) (λ a _=>n+1 - (RowKit.intOf a).toNat)
 case atStart=>exact ⟨0,_,by omega,rfl,rfl,S1.out⟩
 case round=>
  obtain ⟨r,v,aA,rfl,hb,S2⟩:=hrel
  clear S1
  obtain ⟨a,ha⟩:∃ a,4*r+1=a:=⟨_,rfl⟩
  rw [ha]
  by_cases hlt:4*r<n
  ·have au:(a:Int)<=(n:Nat):=by omega
   have aa:=hS.out _ _ _ r hlt S2
   have hrw:=a5.out r hlt
   rw [ha] at aa hrw
   replace ⟨S2,aa,hrw,ha,hb,hlt⟩:=yh6 S2 aa hrw ha hb hlt
   go_wp2_with fail
   refine aa.out.mono ?_
   rintro e w2 ⟨g,c,rfl,ab,hg,S3⟩
   have k0:=S2.out.ks.size
   have ad:=λ i (e:v.ownBlock=some i)=>(S2.out.ge e).2
   clear S2 aa
   have k4:=S3.ks.size
   replace ⟨ab,hg,S3,ad⟩:=yh4 ab hg S3 ad;clear k4
   dsimp only
   go_step
   refine aa0 rfl _ rfl _ _ (atO _) ?_
   simp only [wz]
   unfold afX
   refine aaL rfl 160 (.tmp 6) (.tmp 24) rfl w2.heap.size 0 160 [I 0,I 0,.slice none 0 0] [I a,I (nblk a:Nat),.slice ↑g 512 (512+c)] rfl rfl (Blk.new _ _) (Nat.le_of_eq rfl) arJ (by intro u hu;simp at hu;rcases hu with rfl|rfl|rfl<;>rfl) ?_
   intro w3 b3 k3 _
   rw [aa4 (by rfl)] at b3
   have kz:AaA NoF w2 w3:=((AaA.refl NoF w2).alloc (.cells #[I 0,I 0,.slice none 0 0] 160 (0,0))).fresh k3 (λ i e=>by omega)
   have S5:=S3.out.quiet hX.out kz
   have g5:=kz.blk hg.out (λ f=>f)
   have ao:=hg.out.lt
   have ae:∀ i,v.ownBlock=some i->i≠g/\i≠w2.heap.size:=λ i e=>by have:=ad.out i e;have:=ab.out;omega
   have a3:w0.heap.size<=g:=by have:=ab.out;have:=k0;omega
   clear S3 k3 kz hg ab ad
   generalize w2.heap.size=sb at *
   have af:=ai.out r
   rw [ha.out] at af
   have ak:g<sb:=ao
   replace ⟨S5,g5,b3,ae,af,ak,a3⟩:=yh7 S5 g5 b3 ae af ak a3;clear ao
   go_wp2_with fail
   go_loopw [25] (λ j wr=>∃ i v,i<=4/\j=I (i:Nat)/\acT T.slot (4*r+i)=false/\EcS w0 wr C T X tab p kb kind v (aeC T.slot kind (4*r+i))/\Blk wr sb (ac5 a (nblk a) g (512+c))/\Blk wr g (aaE (T.raw (nblk a)++aaD c))/\∀ x,v.ownBlock=some x->x≠g/\x≠sb) (λ j _=>4 - (RowKit.intOf j).toNat)
   case atStart=>exact ⟨0,_,by omega,rfl,hb.out,S5.out,b3.out,g5.out,ae.out⟩
   case round=>
    obtain ⟨i,v2,aB,rfl,a7,S6,b6,g6,a8⟩:=hrel
    clear S5 g5 b3 ae
    by_cases av:i<4
    ·have aC:(i:Int)<4:=by omega
     have ea:=ha.out
     have eb:=hlt.out
     have ec:=a9.out
     have ed:=a6.out
     have a1:=aj.out wr v2 _ S6 (a+i) (nblk a) g c _ g6 (by rw [aEH,hrw.out];omega) (by omega) (by have:=a6.out;have:=a9.out;omega) (by have:=ah.out (4*r+i);have:=a6.out;omega)
     have al:=af.out i av
     have ap:acD (T.raw (nblk a)++aaD c) (nix (a+i))=acD (T.raw (nblk a)) i:=by rw [ai8 hrw.out (agS _),show nix (a+i)=i by unfold nix;omega]
     rw [ap] at a1
     have c0:=b6.cell 1
     have c1:=b6.cell 2
     simp at c0 c1
     have ag:=g6.lt
     have a4:=b6.lt
     have aw:((a+i:Nat):Int)<=2000:=by have:=a6.out;omega
     have aq:Value.int .i64 ((a:Int)+(i:Int))=I ((a+i:Nat):Int):=by rw [Int.natCast_add]
     rw [Int.natCast_add] at aw
     unfold afX at a1
     rw [← aq] at a1
     replace ⟨S6,a1,al,b6,g6,a8,ag,a4⟩:=yh8 S6 a1 al b6 g6 a8 ag a4;replace ⟨a7,eb,ec⟩:=yh3 a7 eb ec;clear ap aq ea ed
     go_wp2_with fail
     refine a1.out.mono ?_
     rintro e w5 ⟨P5,K5,k5,hq⟩
     obtain ⟨p1,p2⟩:=al.out
     rcases hq with ⟨ax,rfl,v3,S7,ar⟩|⟨h6,rfl⟩
     ·have b7:=k5.blk b6.out (λ f=>by
       rcases f with f|f
       ·have:=hX.out _ ac;have:=a3.out;have:=ak.out;omega
       ·exact (a8.out _ f).2 rfl)
      have g7:=k5.blk g6.out (λ f=>by
       rcases f with f|f
       ·have:=hX.out _ ac;have:=a3.out;omega
       ·exact (a8.out _ f).1 rfl)
      have am:∀ x,v3.ownBlock=some x->x≠g/\x≠sb:=λ x e=>by
       rcases ar x e with y|y
       ·exact a8.out x y
       ·have:=ag.out;have:=a4.out;omega
      rw [decide_eq_false ax,a7.out] at p2
      rw [← p1] at S7
      clear P5 K5 k5 ar a1 b6 g6 S6 a8 c0 c1 ag a4
      replace ⟨S7,b7,g7,am,p2⟩:=yh5 S7 b7 g7 am p2
      go_wp2_with fail
      go_roundw
      case rel=>exact ⟨i+1,v3,by omega,by go_num,p2.out,S7.out,b7.out,g7.out,am.out⟩
      case measure=>simp [RowKit.intOf];omega
     ·rw [decide_eq_true h6,a7.out] at p2
      exact ⟨rfl,hP.out _ _ P5 K5 (.inr ⟨a2.out _ (by have:=ec.out;have:=eb.out;omega) p2,rfl⟩)⟩
    ·obtain rfl:i=4:=by omega
     have aD:(a:Int)+4<=2000:=by have:=a6.out;omega
     clear b6 g6 a8
     replace ⟨S6,a7⟩:=yh2 S6 a7
     go_wp2_with fail
     go_roundw
     case rel=>exact ⟨r+1,v2,by have:=hlt.out;have:=a9.out;omega,by rw [show (4*(r+1)+1:Nat)=a+4 by have:=ha.out;omega];go_num,a7.out,S6.out⟩
     case measure=>simp [RowKit.intOf];have:=ha.out;have:=hlt.out;omega
  ·have au:¬ (a:Int)<=(n:Nat):=by omega
   have ay:4*r=n:=by omega
   rw [ay] at hb S2
   have hPP:=hP.out (U (.tuple #[])) wr (S2.nx.pl.less λ i hi=>.inl hi) S2.ks (.inl ⟨hb,rfl,v,S2.kd,λ i e=>⟨(S2.ge e).1,S2.nx.pl.notF (.inr (S2.ge e))⟩⟩)
   replace hPP:=hid hPP;clear S2 hb ha
   go_wp2_with fail
   go_end0
   exact hPP.out
end
def TS.allC (T:TS) (G:Geom) (kind:Int):List Nat × Nat:=
 if kind<0∨3<kind then ([],1) else if acT T.slot G.n=true then ([],6) else (aeC T.slot kind G.n,0)
def LsAt (C:TxC) (lo bn:Nat) (l:List Nat) (w':World):Prop:=∃ v,Blk w' bn (.cells #[v] 48 (0,0))/\AbV w' lo v l/\∀ i,v.ownBlock=some i->lo<=i/\¬ KF C i
theorem LsAt.nil {C:TxC} {lo bn:Nat} {w:World} (h:Blk w bn (.cells #[.slice none 0 0] 48 (0,0))):LsAt C lo bn [] w:=⟨_,h,AbV.nil _ _,λ i e=>by cases e⟩
theorem aq6 (w:World):(Instr.alloc 124 true (.tuple #[])).run prog w=.ok ↑w.heap.size (w.alloc (.cells #[I 0,.slice none 0 0] 124 (0,0))):=by kernel_rfl
theorem auK:((prog).info? 124).map (·.size)=some 2:=by kernel_rfl
section
variable {w w':World} {C:TxC} {T T':TS} {X Y:Nat->Prop} {tab p bk bt bn:Nat} {kind:Int}
theorem aD1 (h:Ab4 w C T X tab p) (h0:T.st=0) (ck:w.cell? ↑bk=some (I kind)) (ct:w.cell? ↑bt=some ↑tab) (hb:Blk w bn (.cells #[.slice none 0 0] 48 (0,0)))
  (xt:X bt) (xk:X bk) (xn:X bn) :
  Calls prog 62 #[↑bk,↑bt,↑bn] w (AcI w C (T.allC C.G kind).2 T X (· = bn) (LsAt C w.heap.size bn (T.allC C.G kind).1)):=by
 have a0:=λ i (hi:X i)=>h.pl.notF hi
 by_cases ho:kind<0∨3<kind
 ·have hc:T.allC C.G kind=([],1):=if_pos ho
  rw [hc]
  have hP:∀ w',AaA NoF w w'->AcI w C 1 T X (· = bn) (LsAt C w.heap.size bn []) (thrE 1) w':=λ w' kk=>⟨adE (by decide),h.pl.quiet kk,LsAt.nil (kk.blk hb (λ f=>f)),kk.mono λ _ _ f=>f.elim⟩
  have hPP:=hP w (AaA.refl _ _)
  dsimp only
  generalize AcI w C 1 T X (· = bn) (LsAt C w.heap.size bn [])=Post at *
  by_cases h1:kind<0
  ·have b1:decide (kind<0)=true:=decide_eq_true h1
   replace ⟨h,hb,hP,hPP,ho,a0,h1,hc⟩:=yh8 h hb hP hPP ho a0 h1 hc
   go_enter Tryz.func62,Tryz.ntmps62
   go_wp2_with fail
   exact ⟨rfl,hPP.out⟩
  ·have b1:decide (kind<0)=false:=decide_eq_false h1
   have b2:decide (3<kind)=true:=decide_eq_true (ho.resolve_left h1)
   replace ⟨h,hb,hP,hPP,ho,a0,hc⟩:=yh7 h hb hP hPP ho a0 hc;clear h1
   go_enter Tryz.func62,Tryz.ntmps62
   go_wp2_with fail
   exact ⟨rfl,hPP.out⟩
 ·have b1:decide (kind<0)=false:=decide_eq_false (λ x=>ho (.inl x))
  have b2:decide (3<kind)=false:=decide_eq_false (λ x=>ho (.inr x))
  have hc:T.allC C.G kind=if acT T.slot C.G.n=true then ([],6) else (aeC T.slot kind C.G.n,0):=if_neg ho
  have hE:=λ (w:World) (kb:Nat) (X:Nat->Prop) (x:Ab4 w C T X tab p) (x1:X kb) (x2:kb≠tab) (x3:kb≠p) (x4:Blk w kb (.cells #[I kind,.slice none 0 0] 124 (0,0)))=>aDU x h0 x1 x2 x3 x4
  have hP:∀ e w',endE (T.allC C.G kind).2 e->Aa6 w' C T X->LsAt C w.heap.size bn (T.allC C.G kind).1 w'->AaA (λ i=>KF C i∨i=bn) w w'->AcI w C (T.allC C.G kind).2 T X (· = bn) (LsAt C w.heap.size bn (T.allC C.G kind).1) e w':=λ e w' a b c d=>⟨a,b,c,d⟩
  generalize AcI w C (T.allC C.G kind).2 T X (· = bn) (LsAt C w.heap.size bn (T.allC C.G kind).1)=Post at *
  have l1:=h.pl.lt _ h.xt
  have l2:=h.pl.lt _ h.xp
  have l3:=h.pl.lt _ xt
  have l4:=hb.lt
  replace ⟨h,hb,hP,a0,hc,hE,xn,l1⟩:=yh8 h hb hP a0 hc hE xn l1;replace ⟨l2,l4⟩:=yh2 l2 l4;clear ho xt xk l3
  go_enter Tryz.func62,Tryz.ntmps62
  go_upto_region 2 with fail
  go_wp2_with (first
   | (refine aa0 rfl _ rfl _ _ (aq6 _) ?_;simp only [wz])
   | (
     refine aaL rfl 124 (.tmp 3) (.tmp 12) rfl w.heap.size 0 124 [I 0,.slice none 0 0] [I kind,.slice none 0 0] rfl rfl (Blk.new _ _) (Nat.le_of_eq rfl) auK (by intro u hu;simp at hu;rcases hu with rfl|rfl<;>rfl) ?_;intro wB b3 k3 _
     rw [aa4 (by rfl)] at b3
     have kz:AaA NoF w wB:=((AaA.refl NoF w).alloc (.cells #[I 0,.slice none 0 0] 124 (0,0))).fresh k3 (λ i e=>by omega)
     have NB:=h.out.wide kz
     have ctB:=kz.cellF ct (λ f=>f)
     have a3:=kz.blk hb.out (λ f=>f)
     have l5:=b3.lt
     have a2:=hE.out wB w.heap.size (Wid X w wB) NB (.inr ⟨aEK _,l5⟩) (by have:=l1.out;omega) (by have:=l2.out;omega) b3
     have hX:=h.out.pl.lt
     clear k3
     replace ⟨kz,a3,a2⟩:=yh3 kz a3 a2;clear b3 NB l5 hX))
  refine a2.out.mono ?_
  rintro e w4 ⟨P4,K4,hq⟩
  have K5:AaA (λ i=>KF C i∨i=bn) w w4:=(kz.out.mono (F:=λ _=>False) (G:=λ i=>KF C i∨i=bn) (λ _ _ f=>f.elim)).trans K4 (λ i hi f=>f.elim .inl (λ e=>by omega))
  have a1:=K4.blk a3.out (λ f=>f.elim (a0.out bn xn.out) (λ e=>by have:=l4.out;omega))
  have P5:Aa6 w4 C T X:=P4.less λ i hi=>.inl hi
  have a8:=h.out.pl.lt _ xn.out
  clear a2 K4
  rcases hq with ⟨a6,rfl,v,A4,hv⟩|⟨a7,rfl⟩
  rotate_left
  ·have hc2:T.allC C.G kind=([],6):=by rw [hc.out,if_pos a7]
   rw [hc2] at hP
   exact ⟨rfl,hP.out _ _ (adE (c:=6) (by decide)) P5 (LsAt.nil a1) K5⟩
  have hc2:T.allC C.G kind=(aeC T.slot kind C.G.n,0):=by rw [hc.out,if_neg (by rw [a6];decide)]
  rw [hc2] at hP
  have a9:=a1.frz
  have k6:=(AaA.refl (· = bn) w4).setCell (p:=⟨bn,0,none⟩) (.inl rfl) v
  have a4:=a1.setCell 0 v
  simp at a4
  have a5:∀ i,v.ownBlock=some i->w.heap.size<=i/\¬ KF C i:=λ i e=>⟨aE4 kz.out.size (hv i e).1,(hv i e).2⟩
  have r6:AbV (w4.setCell ↑bn v) w.heap.size v (aeC T.slot kind C.G.n):=(A4.row.lo kz.out.size).keeps k6 (λ i e e2=>by have:=(a5 i e).1;omega)
  have P6:Aa6 (w4.setCell ↑bn v) C T X:=P5.grow k6 (λ i _ e=>e ▸ xn.out) (λ i hi=>⟨aEJ (P5.lt i hi) k6.size,.inl hi⟩)
  have hPP:=hP.out (U (.tuple #[])) _ aB3 P6 ⟨v,a4,r6,a5⟩ (K5.setCell (p:=⟨bn,0,none⟩) (.inl (.inr rfl)) v)
  have e1:=A4.bk.cell 1
  have e2:=a1.cell 0
  simp at e1 e2
  obtain ⟨pp,pn,pc,rfl⟩:∃ p n c,v=.slice p n c:=by
   rcases A4.row.shape with ⟨rfl,_⟩|⟨_,_,rfl,_⟩<;>exact ⟨_,_,_,rfl⟩
  clear ck ct ctB k6 hv a5 r6 a4
  replace hPP:=hid hPP;clear P5 a1 A4 P6 K5 P4
  go_wp2_with fail
  go_end0
  exact hPP.out
end
theorem arI (b:Nat) (x:Int) (w:World) (hc:w.cell? ↑b=some (I x)) (hf:w.frozen? ↑b=false):(Instr.storeAt 63 ↑b (I x)).run prog w=.ok () (w.setCell ↑b (I x)):=by
 simp [Instr.storeAt,Instr.sureAddr,storeVar,go_sem,hc,hf]
theorem ajC {P:Program} {fn:Func} {p q:Tmp} {ty ty2:TypeId} (h:fn.results=#[.cell p ty,.cell q ty2]) (tmps:Array Value) (w:World) (g g2:Nat) (v v2:Value)
  (hp:tmps.getD p undef=↑g) (hq:tmps.getD q undef=↑g2) (h1:(loadVar ty ⟨g,0,none⟩).run P w=.ok v w) (h2:(loadVar ty2 ⟨g2,0,none⟩).run P w=.ok v2 w) :
  (results fn tmps).run P w=.ok (.tuple #[v,v2]) w:=by
 have a0:tmps[p]?.getD undef=↑g:=by simpa using hp
 have a1:tmps[q]?.getD undef=↑g2:=by simpa using hq
 simp [results,h,a0,a1,asAddr,h1,h2]
theorem apB {P:Program} (w:World) (g:Nat) (T ty:TypeId) (cs:List Value) (d:TypeDesc) (hg:Blk w g (.cells cs.toArray T (0,0))) (hu:P.underlying ty=some d) (hd:d.isRow=true) (hi:(P.info? ty).map (·.size)=some cs.length) :
  (loadVar ty ⟨g,0,none⟩).run P w=.ok (.agg cs.toArray) w:=
 run_loadVar_row (P:=P) w g T ty cs.toArray (0,0) d hg hu (by cases d<;>simp_all [TypeDesc.isRow]) (by simpa using hi)
theorem aeW (w:World) (g:Nat) (x:Int) (hg:Blk w g (errO x)):(loadVar 63 ⟨g,0,none⟩).run prog w=.ok (I x) w:=by
 have c:=hg.cell 0
 unfold errO at c
 simp at c
 simp [loadVar,go_sem,c]
section
variable {w w':World} {C:TxC} {T T':TS} {X Y:Nat->Prop} {tab p:Nat}
theorem aBM (G:Geom) (h0:T.st=0) (k:Int):T.load G k=(((T.loadC G k).2,(T.loadC G k).1),T.thrown (T.loadC G k).1):=by
 unfold TS.load TS.ranged TS.loadC
 rw [if_pos h0]
 by_cases ho:outN G k
 ·have ho':k<1∨(G.n:Int)<k:=ho
  rw [if_pos ho',if_pos ho]
  rfl
 ·have ho':¬ (k<1∨(G.n:Int)<k):=ho
  rw [if_neg ho',if_neg ho]
  rfl
theorem ayG (G:Geom) (h0:T.st≠0) (k:Int):T.load G k=((Nd.zero,T.st),T):=by
 unfold TS.load TS.ranged
 rw [if_neg h0,if_neg h0]
def AoG (w:World) (C:TxC) (X:Nat->Prop) (tab p:Nat) (r:(Nd × Nat) × TS) (e:Ending) (w':World):Prop:=
 e=U (.tuple #[ndV r.1.1,I (r.1.2:Nat)])/\Ab4 w' C r.2 X tab p/\AaA (KF C) w w'
theorem arW (G:Geom) (k:Int):(T.load G k).1.1.ptr.length=12:=by
 unfold TS.load
 split
 ·rcases ac7 (T.slot k.toNat) with ⟨_,_,z⟩|⟨_,_,z⟩|⟨_,z⟩
  ·dsimp only;rw [z];rfl
  ·dsimp only;rw [z];exact abZ _
  ·dsimp only;rw [z];rfl
 ·rfl
theorem aBA (h:Ab4 w C T X tab p) (k:Int):Calls prog 39 #[↑tab,I k] w (AoG w C X tab p (T.load C.G k)):=by
 have a3:∀ (fn:Fn) (first cap:Array Value) (w:World),(Instr.makeFunc fn first cap).run prog w=.ok (.func fn first cap) w:=λ _ _ _ _=>rfl
 obtain ⟨wA,a1⟩:∃ wA,(((w.alloc (.cells #[↑tab] 27 (0,0))).alloc (.cells #[I k] 3 (0,0))).alloc (ndO Nd.zero)).alloc (errO 0)=wA:=⟨_,rfl⟩
 have hsz:wA.heap.size=w.heap.size+1+1+1+1:=by rw [← a1];simp only [aEI]
 have kA:AaA NoF w wA:=by rw [← a1];exact ((((AaA.refl _ w).alloc _).alloc _).alloc _).alloc _
 have hT:Blk wA w.heap.size (.cells #[↑tab] 27 (0,0)):=by rw [← a1];exact (((Blk.new w _).alloc _).alloc _).alloc _
 have hK:Blk wA (w.heap.size+1) (.cells #[I k] 3 (0,0)):=by rw [← a1,← aEI w (.cells #[↑tab] 27 (0,0))];exact ((Blk.new _ _).alloc _).alloc _
 have hN:Blk wA (w.heap.size+1+1) (ndO Nd.zero):=by
  rw [← a1,show w.heap.size+1+1=((w.alloc (.cells #[↑tab] 27 (0,0))).alloc (.cells #[I k] 3 (0,0))).heap.size by simp only [aEI]]
  exact (Blk.new _ _).alloc _
 have hE:Blk wA (w.heap.size+1+1+1) (errO 0):=by
  rw [← a1,show w.heap.size+1+1+1=(((w.alloc (.cells #[↑tab] 27 (0,0))).alloc (.cells #[I k] 3 (0,0))).alloc (ndO Nd.zero)).heap.size by simp only [aEI]]
  exact Blk.new _ _
 have NA:=h.wide kA
 have lt1:=h.pl.lt _ h.xt
 have lt2:=h.pl.lt _ h.xp
 have xx:∀ i,w.heap.size<=i->i<w.heap.size+1+1+1+1->Wid X w wA i:=λ i a b=>.inr ⟨a,by omega⟩
 have a2:Calls prog 61 #[↑tab,↑(w.heap.size+1+1+1),.func (.func 93) #[] #[↑w.heap.size,↑(w.heap.size+1),↑(w.heap.size+1+1)]] wA λ e w'=>
   e=U (.tuple #[])/\Blk w' (w.heap.size+1+1+1) (errO ((T.load C.G k).1.2:Nat))/\Blk w' (w.heap.size+1+1) (ndO (T.load C.G k).1.1)/\Aa6 w' C (T.load C.G k).2 (Wid X w wA)/\AaA (λ i=>KF C i∨w.heap.size<=i) wA w':=by
  by_cases h0:T.st=0
  ·rw [aBM C.G h0]
   refine (amA (c:=(T.loadC C.G k).1) (T0:=T) NA.pl h0 NA.ht NA.hp hE NA.xt NA.xp (xx _ (by omega) (by omega)) (by omega) (by omega) _ _ (λ w=>by kernel_rfl) (G:=(· = w.heap.size+1+1)) (λ i e=>⟨e ▸ xx _ (by omega) (by omega),by omega,by omega,by omega⟩) (λ w1 k1 p1=>?_) (R:=λ w'=>Blk w' (w.heap.size+1+1) (ndO (T.loadC C.G k).2)) (λ w' w'' a b=>?_)).mono ?_
   ·have cT:=(k1.blk hT (λ f=>f)).cell 0
    have cK:=(k1.blk hK (λ f=>f)).cell 0
    simp at cT cK
    exact aBN (NA.wide k1) h0 cT cK (k1.blk hN (λ f=>f)) (.inl (xx _ (by omega) (by omega))) (.inl (xx _ (by omega) (by omega))) (.inl (xx _ (by omega) (by omega))) (by omega) (by omega) (by omega) (by omega)
   ·exact b.blk a (λ x=>x.elim (NA.pl.notF (xx _ (by omega) (by omega))) (λ e=>by omega))
   ·rintro e w' ⟨x1,x2,x3,x4,x5⟩
    exact ⟨x1,x2,x4,x3,x5.mono λ i _ y=>y.elim .inl (λ y=>.inr (by rcases y with y|y<;>omega))⟩
  ·rw [ayG C.G h0]
   refine (ahX NA.pl h0 NA.ht NA.hp hE NA.xt NA.xp (xx _ (by omega) (by omega)) (by omega) (by omega) _).mono ?_
   rintro e w' ⟨x1,x2,x3,x4,x5⟩
   exact ⟨x1,x2,x5.blk hN (λ y=>y.elim (NA.pl.notF (xx _ (by omega) (by omega))) (λ y=>y.elim id (λ e=>by omega))),x3,x5.mono λ i _ y=>y.elim .inl (λ y=>.inr (by rcases y with y|y;exact y.elim;omega))⟩
 have a0:=arW (T:=T) C.G k
 have hP:∀ w',Aa6 w' C (T.load C.G k).2 X->AaA (KF C) w w'->AoG w C X tab p (T.load C.G k) (U (.tuple #[ndV (T.load C.G k).1.1,I ((T.load C.G k).1.2:Nat)])) w':=λ w' a b=>⟨rfl,h.step b (λ i x=>.inl x) a,b⟩
 generalize AoG w C X tab p (T.load C.G k)=Post at *
 obtain ⟨⟨⟨nd,cz⟩,T'⟩,hr⟩:∃ r,T.load C.G k=r:=⟨_,rfl⟩
 rw [hr] at a2 a0 hP
 dsimp only at a2 a0 hP
 have cT:=hT.cell 0
 simp at cT
 obtain ⟨d,ud,hd⟩:=acJ
 replace ⟨kA,a2,hP,ud,hd,a0⟩:=yh6 kA a2 hP ud hd a0;clear h hsz hT hK hN hE NA xx hr
 go_enter Tryz.func39,Tryz.ntmps39
 go_upto_region 1 with fail
 change Code.wp _ _ _ _ ((((w.alloc (.cells #[↑tab] 27 (0,0))).alloc (.cells #[I k] 3 (0,0))).alloc (ndO Nd.zero)).alloc (errO 0))
 rw [a1]
 clear a1
 go_wp2_with fail
 refine a2.out.mono ?_
 rintro e w1 ⟨rfl,e1,n1,p1,k1⟩
 have kW:AaA (KF C) w w1:=(kA.out.mono (F:=λ _=>False) (G:=KF C) (λ _ _ f=>f.elim)).trans k1 (λ i hi x=>x.elim id (λ x=>by omega))
 have P1:Aa6 w1.drew C T' (Wid X w wA):=p1.quiet ((AaA.refl NoF w1).drew)
 have n2:=n1.drew
 have e2:=e1.drew
 clear n1 e1 p1 k1 a2 cT
 replace ⟨kW,P1,n2,e2⟩:=yh4 kW P1 n2 e2
 go_upto_region 2 with fail
 refine wp_region_still_lit (by kernel_rfl) (by kernel_rfl) ?_
 have c0:=e2.out.cell 0
 unfold errO at c0
 simp at c0
 refine ai5 rfl 39 (.tmp 4) rfl (w.heap.size+1+1) 39 (ndC nd) d rfl n2.out ud.out hd.out (by rw [aaM a0.out];exact aaK) ?_
 simp only [wz]
 still_step
 refine aiH rfl 39 (.tmp 4) (.tmp 9) rfl (w.heap.size+1+1) 39 (ndC nd) rfl rfl n2.out (by rw [aaM a0.out];exact aaK) (abJ _) ?_
 refine adL rfl 63 (.tmp 5) (.tmp 10) rfl (w.heap.size+1+1+1) 63 (I (cz:Nat)) rfl rfl e2.out (arI _ _) ?_
 refine wpStill_nil ?_
 simp only [Act.put]
 change Exit.then _ _ _ _ w1.drew
 have hPP:=hP.out _ (P1.out.less (λ i hi=>.inl hi)) kW.out.drew
 clear c0 P1 kW
 replace hPP:=hid hPP
 go_wp2
 exact bodyPost_ret (v:=.tuple #[ndV nd,I (cz:Nat)]) (ajC rfl _ _ (w.heap.size+1+1) (w.heap.size+1+1+1) _ _ rfl rfl (apB _ _ 39 _ (ndC nd) d n2.out ud.out hd.out (by rw [aaM a0.out];exact aaK)) (aeW _ _ _ e2.out)) rfl hPP.out
end
theorem agL {T:TS} {c:Nat} (h:c≠6):T.thrown c=T:=if_neg h
theorem LsAt.lo {C:TxC} {lo lo' bn:Nat} {l:List Nat} {w:World} (h:LsAt C lo bn l w) (hl:lo'<=lo):LsAt C lo' bn l w:=by
 obtain ⟨v,a,b,c⟩:=h
 exact ⟨v,a,b.lo hl,λ i e=>⟨aE4 hl (c i e).1,(c i e).2⟩⟩
theorem LsAt.keeps {C:TxC} {lo bn eb:Nat} {l:List Nat} {w w':World} (h:LsAt C lo bn l w) (k:AaA (λ i=>KF C i∨i=eb) w w') (hb:¬ KF C bn) (a0:bn≠eb) (he:eb<lo):LsAt C lo bn l w':=by
 obtain ⟨v,a,b,c⟩:=h
 exact ⟨v,k.blk a (λ x=>x.elim hb a0),b.keeps k (λ i e x=>x.elim (c i e).2 (λ y=>by have:=(c i e).1;omega)),c⟩
theorem aD0 {T:TS} (G:Geom) (h0:T.st=0) (kind:Int):T.all G kind=(T.allC G kind,T.thrown (T.allC G kind).2):=by
 unfold TS.all TS.allC
 rw [if_pos h0]
 by_cases ho:kind<0∨3<kind
 ·rw [if_pos ho,if_pos ho];rfl
 ·rw [if_neg ho,if_neg ho]
  by_cases hb:acT T.slot G.n=true
  ·rw [if_pos hb,if_pos hb]
  ·rw [if_neg hb,if_neg hb];rfl
theorem aCE {T:TS} (G:Geom) (h0:T.st≠0) (kind:Int):T.all G kind=(([],T.st),T):=by
 unfold TS.all
 rw [if_neg h0]
theorem aD6 (pp:Option Addr) (pn pc:Nat) (b:Nat) (w:World) (hc:w.cell? ↑b=some (.slice pp pn pc)) (hf:w.frozen? ↑b=false):(Instr.storeAt 48 ↑b (.slice pp pn pc)).run prog w=.ok () (w.setCell ↑b (.slice pp pn pc)):=by
 simp [Instr.storeAt,Instr.sureAddr,storeVar,go_sem,hc,hf]
theorem as5 (w:World) (g:Nat) (pp:Option Addr) (pn pc:Nat) (hg:Blk w g (.cells #[.slice pp pn pc] 48 (0,0))):(loadVar 48 ⟨g,0,none⟩).run prog w=.ok (.slice pp pn pc) w:=by
 have c:=hg.cell 0
 simp at c
 simp [loadVar,go_sem,c]
section
variable {w w':World} {C:TxC} {T T':TS} {X Y:Nat->Prop} {tab p:Nat}
def Aq8 (w:World) (C:TxC) (X:Nat->Prop) (tab p:Nat) (r:(List Nat × Nat) × TS) (e:Ending) (w':World):Prop:=
 ∃ v,e=U (.tuple #[v,I (r.1.2:Nat)])/\Ab4 w' C r.2 X tab p/\AaA (KF C) w w'/\AbV w' w.heap.size v r.1.1/\∀ i,v.ownBlock=some i->w.heap.size<=i/\¬ KF C i
theorem aDE (h:Ab4 w C T X tab p) (k:Int):Calls prog 24 #[↑tab,I k] w (Aq8 w C X tab p (T.all C.G k)):=by
 have a2:∀ (fn:Fn) (first cap:Array Value) (w:World),(Instr.makeFunc fn first cap).run prog w=.ok (.func fn first cap) w:=λ _ _ _ _=>rfl
 obtain ⟨wA,a0⟩:∃ wA,(((w.alloc (.cells #[↑tab] 27 (0,0))).alloc (.cells #[I k] 3 (0,0))).alloc (.cells #[.slice none 0 0] 48 (0,0))).alloc (errO 0)=wA:=⟨_,rfl⟩
 have hsz:wA.heap.size=w.heap.size+1+1+1+1:=by rw [← a0];simp only [aEI]
 have kA:AaA NoF w wA:=by rw [← a0];exact ((((AaA.refl _ w).alloc _).alloc _).alloc _).alloc _
 have hT:Blk wA w.heap.size (.cells #[↑tab] 27 (0,0)):=by rw [← a0];exact (((Blk.new w _).alloc _).alloc _).alloc _
 have hK:Blk wA (w.heap.size+1) (.cells #[I k] 3 (0,0)):=by rw [← a0,← aEI w (.cells #[↑tab] 27 (0,0))];exact ((Blk.new _ _).alloc _).alloc _
 have hN:Blk wA (w.heap.size+1+1) (.cells #[.slice none 0 0] 48 (0,0)):=by
  rw [← a0,show w.heap.size+1+1=((w.alloc (.cells #[↑tab] 27 (0,0))).alloc (.cells #[I k] 3 (0,0))).heap.size by simp only [aEI]]
  exact (Blk.new _ _).alloc _
 have hE:Blk wA (w.heap.size+1+1+1) (errO 0):=by
  rw [← a0,show w.heap.size+1+1+1=(((w.alloc (.cells #[↑tab] 27 (0,0))).alloc (.cells #[I k] 3 (0,0))).alloc (.cells #[.slice none 0 0] 48 (0,0))).heap.size by simp only [aEI]]
  exact Blk.new _ _
 have NA:=h.wide kA
 have lt1:=h.pl.lt _ h.xt
 have lt2:=h.pl.lt _ h.xp
 have xx:∀ i,w.heap.size<=i->i<w.heap.size+1+1+1+1->Wid X w wA i:=λ i a b=>.inr ⟨a,by omega⟩
 have a1:Calls prog 61 #[↑tab,↑(w.heap.size+1+1+1),.func (.func 62) #[] #[↑(w.heap.size+1),↑w.heap.size,↑(w.heap.size+1+1)]] wA λ e w'=>
   e=U (.tuple #[])/\Blk w' (w.heap.size+1+1+1) (errO ((T.all C.G k).1.2:Nat))/\LsAt C w.heap.size (w.heap.size+1+1) (T.all C.G k).1.1 w'/\Aa6 w' C (T.all C.G k).2 (Wid X w wA)/\AaA (λ i=>KF C i∨w.heap.size<=i) wA w':=by
  by_cases h0:T.st=0
  ·rw [aD0 C.G h0]
   refine (amA (c:=(T.allC C.G k).2) (T0:=T) NA.pl h0 NA.ht NA.hp hE NA.xt NA.xp (xx _ (by omega) (by omega)) (by omega) (by omega) _ _ (λ w=>by kernel_rfl) (G:=(· = w.heap.size+1+1)) (λ i e=>⟨e ▸ xx _ (by omega) (by omega),by omega,by omega,by omega⟩) (λ w1 k1 p1=>?_) (R:=LsAt C wA.heap.size (w.heap.size+1+1) (T.allC C.G k).1) (λ w' w'' a b=>?_)).mono ?_
   ·have cT:=(k1.blk hT (λ f=>f)).cell 0
    have cK:=(k1.blk hK (λ f=>f)).cell 0
    simp at cT cK
    exact (aD1 (NA.wide k1) h0 cK cT (k1.blk hN (λ f=>f)) (.inl (xx _ (by omega) (by omega))) (.inl (xx _ (by omega) (by omega))) (.inl (xx _ (by omega) (by omega)))).mono λ e w' ⟨y1,y2,y3,y4⟩=>⟨y1,y2,y3.lo k1.size,y4⟩
   ·exact a.keeps b (NA.pl.notF (xx _ (by omega) (by omega))) (by omega) (by omega)
   ·rintro e w' ⟨x1,x2,x3,x4,x5⟩
    exact ⟨x1,x2,x4.lo (by omega),x3,x5.mono λ i _ y=>y.elim .inl (λ y=>.inr (by rcases y with y|y<;>omega))⟩
  ·rw [aCE C.G h0]
   refine (ahX NA.pl h0 NA.ht NA.hp hE NA.xt NA.xp (xx _ (by omega) (by omega)) (by omega) (by omega) _).mono ?_
   rintro e w' ⟨x1,x2,x3,x4,x5⟩
   exact ⟨x1,x2,LsAt.nil (x5.blk hN (λ y=>y.elim (NA.pl.notF (xx _ (by omega) (by omega))) (λ y=>y.elim id (λ e=>by omega)))),x3,x5.mono λ i _ y=>y.elim .inl (λ y=>.inr (by rcases y with y|y;exact y.elim;omega))⟩
 have hP:∀ v w',Aa6 w' C (T.all C.G k).2 X->AaA (KF C) w w'->AbV w' w.heap.size v (T.all C.G k).1.1->(∀ i,v.ownBlock=some i->w.heap.size<=i/\¬ KF C i)->Aq8 w C X tab p (T.all C.G k) (U (.tuple #[v,I ((T.all C.G k).1.2:Nat)])) w':=λ v w' a b c d=>⟨v,rfl,h.step b (λ i x=>.inl x) a,b,c,d⟩
 generalize Aq8 w C X tab p (T.all C.G k)=Post at *
 obtain ⟨⟨⟨nd,cz⟩,T'⟩,hr⟩:∃ r,T.all C.G k=r:=⟨_,rfl⟩
 rw [hr] at a1 hP
 dsimp only at a1 hP
 have cT:=hT.cell 0
 simp at cT
 replace ⟨kA,a1,hP⟩:=yh3 kA a1 hP;clear h hsz hT hK hN hE NA xx hr
 go_enter Tryz.func24,Tryz.ntmps24
 go_upto_region 1 with fail
 change Code.wp _ _ _ _ ((((w.alloc (.cells #[↑tab] 27 (0,0))).alloc (.cells #[I k] 3 (0,0))).alloc (.cells #[.slice none 0 0] 48 (0,0))).alloc (errO 0))
 rw [a0]
 clear a0
 go_wp2_with fail
 refine a1.out.mono ?_
 rintro e w1 ⟨rfl,e1,⟨v,n1,r1,o1⟩,p1,k1⟩
 have kW:AaA (KF C) w w1:=(kA.out.mono (F:=λ _=>False) (G:=KF C) (λ _ _ f=>f.elim)).trans k1 (λ i hi x=>x.elim id (λ x=>by omega))
 have P1:Aa6 w1.drew C T' (Wid X w wA):=p1.quiet ((AaA.refl NoF w1).drew)
 have n2:=n1.drew
 have e2:=e1.drew
 have r2:AbV w1.drew w.heap.size v nd:=r1.keeps ((AaA.refl NoF w1).drew) (λ _ _ f=>f)
 clear n1 e1 p1 k1 a1 cT r1
 obtain ⟨pp,pn,pc,rfl⟩:∃ p n c,v=.slice p n c:=by
  rcases r2.shape with ⟨rfl,_⟩|⟨_,_,rfl,_⟩<;>exact ⟨_,_,_,rfl⟩
 replace ⟨kW,P1,n2,e2,r2,o1⟩:=yh6 kW P1 n2 e2 r2 o1
 go_upto_region 2 with fail
 refine wp_region_still_lit (by kernel_rfl) (by kernel_rfl) ?_
 have c0:=e2.out.cell 0
 have c1:=n2.out.cell 0
 unfold errO at c0
 simp at c0 c1
 iterate 2 still_step
 refine adL rfl 48 (.tmp 4) (.tmp 9) rfl (w.heap.size+1+1) 48 (.slice pp pn pc) rfl rfl n2.out (aD6 _ _ _ _) ?_
 refine adL rfl 63 (.tmp 5) (.tmp 10) rfl (w.heap.size+1+1+1) 63 (I (cz:Nat)) rfl rfl e2.out (arI _ _) ?_
 refine wpStill_nil ?_
 simp only [Act.put]
 change Exit.then _ _ _ _ w1.drew
 have hPP:=hP.out (.slice pp pn pc) _ (P1.out.less (λ i hi=>.inl hi)) kW.out.drew r2.out o1.out
 clear c0 c1 P1 kW
 replace hPP:=hid hPP
 go_wp2
 exact bodyPost_ret (v:=.tuple #[.slice pp pn pc,I (cz:Nat)]) (ajC rfl _ _ (w.heap.size+1+1) (w.heap.size+1+1+1) _ _ rfl rfl (as5 _ _ _ _ _ n2.out) (aeW _ _ _ e2.out)) rfl hPP.out
end
end Go.Vk
