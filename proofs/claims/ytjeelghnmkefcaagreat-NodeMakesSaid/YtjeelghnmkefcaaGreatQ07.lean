/- Part of the proof: Se8 Wa1 Wa2. -/
import Derived.Test.YtjeelghnmkefcaaGreatQ03
import Derived.Test.YtjeelghnmkefcaaGreatQ04
import Derived.Test.YtjeelghnmkefcaaGreatQ06
set_option linter.unusedVariables false
set_option maxHeartbeats 16000000
set_option maxRecDepth 100000
namespace Go.Vk
open Go.RowKit Go.Proofs
open Tryz (prog)
section
variable {P:Program} {w:World} {ops:Array Oper} {rest:List Oper} {o:Oper} {a:Act} {Q:Exit->Act->World->Prop}
theorem ae7 (a0:o.guard=none) (s x:Operand) (t:TypeId) (ho:o.op=.call { callee:=.builtin .append,args:=#[s,x],argTypes:=#[t,t] })
  (e:TypeId) (i:TypeInfo) (ht:P.underlying t=some (.slice e)) (hi:P.info? e=some i) (base:Option Addr) (n c:Nat) (a1:n<=c) (hs:a.eval s=.slice base n c) (hx:a.eval x=.slice none 0 0)
  (h:wpList P ops Q rest (a.put o.dst (.slice base n c)) w):wpList P ops Q (o :: rest) a w:=by
 refine wpList_plain a0 λ K hK=>?_
 have hf:=run_firstCells_none (P:=P) w i.size 0 0 0
 have hr:(Builtin.append_ #[t,t] o.type #[.slice base n c,.slice none 0 0]).run P w=.ok (.slice base n c) w:=by
  cases base<;>simp [Builtin.append_,run_underlying ht,sizeOf,typeInfo,hi,Builtin.lenOf,a1,hf,storeCells]
 unfold Oper.wp execOp
 simp only [ho,resolve,invoke,builtin,Sem.run_bind,Sem.run_pure,Result.andThen_ok,List.map_toArray,List.map_cons,List.map_nil,hs,hx,hr]
 exact hK _ _ h
end
def ac6 (s1 s2:List UInt8):Nat:=if acR (aaJ s1) (aaJ s2)=0 then 1 else 0
def ah7 (s1 s2:List UInt8):List UInt8:=if acR (aaJ s1) (aaJ s2)=0 then s2 else s1
def afB (s1 s2:List UInt8) (no:Nat):List UInt8:=layB (agK ((ah7 s1 s2).getD 0 0) ((ah7 s1 s2).getD 511 0)) (aaB no 8)
def Ah0 (w:World) (s1 s2:List UInt8) (no:Nat) (e:Ending) (w':World):Prop:=
 ∃ g,w.heap.size<=g/\AaA NoF w w' /\
  if no<=max (aaJ s1) (aaJ s2) then e=U (.tuple #[I 0,.slice none 0 0,I 31])
  else e=U (.tuple #[I (ac6 s1 s2),.slice (some ⟨g,0,none⟩) 512 512,I 0])/\Blk w' g (aa2 276 (afB s1 s2 no))
theorem aAW (w:World) (g1 c1:Nat) (T1:TypeId) (s1:List UInt8) (h1:Blk w g1 (aa2 T1 s1)) (aw:s1.length=512)
  (g2 c2:Nat) (T2:TypeId) (s2:List UInt8) (h2:Blk w g2 (aa2 T2 s2)) (aB:s2.length=512) (no:Nat) (ax:1<=no) (aK:no<9223372036854775808) :
  Calls prog 248 #[.slice ↑g1 512 c1,.slice ↑g2 512 c2,I no,.slice none 0 0] w (Ah0 w s1 s2 no):=by
 have hPr:=azN w g1 c1 T1 s1 h1 aw g2 c2 T2 s2 h2 aB
 have am:=ac2 s1
 have hD2:=ac2 s2
 have an:∀ W,AaA NoF w W->no<=max (aaJ s1) (aaJ s2)->Ah0 w s1 s2 no (U (.tuple #[I 0,.slice none 0 0,I 31])) W:=
  λ W x1 x2=>⟨w.heap.size,aEK _,x1,by rw [if_pos x2]⟩
 have a7:∀ W g,AaA NoF w W->w.heap.size<=g->¬ no<=max (aaJ s1) (aaJ s2)->Blk W g (aa2 276 (afB s1 s2 no)) ->
   Ah0 w s1 s2 no (U (.tuple #[I (ac6 s1 s2),.slice ↑g 512 512,I 0])) W:=
  λ W g x1 x2 x3 x4=>⟨g,x2,x1,by rw [if_neg x3];exact ⟨rfl,x4⟩⟩
 generalize Ah0 w s1 s2 no=Post at an a7 ⊢
 unfold AjX at hPr
 have hc:acR (aaJ s1) (aaJ s2)=-1/\max (aaJ s1) (aaJ s2)=0∨acR (aaJ s1) (aaJ s2)=0/\max (aaJ s1) (aaJ s2)=aaJ s1∨acR (aaJ s1) (aaJ s2)=1/\max (aaJ s1) (aaJ s2)=aaJ s2:=by
  unfold acR
  split
  ·rename_i h;left;exact ⟨rfl,by rw [h.1,h.2];rfl⟩
  ·split
   ·rename_i h h';right;right;exact ⟨rfl,by omega⟩
   ·rename_i h h';right;left;exact ⟨rfl,by omega⟩
 have a8:∀ (old:List UInt8),old=ah7 s1 s2->afB s1 s2 no=layB (agK (old.getD 0 0) (old.getD 511 0)) (aaB no 8):=λ old h=>by rw [h];rfl
 unfold ah7 ac6 at *
 generalize acR (aaJ s1) (aaJ s2)=sl at *
 generalize max (aaJ s1) (aaJ s2)=mx at *
 generalize aaJ s1=n1 at *
 generalize aaJ s2=n2 at *
 have aL:(1:Int)<=(no:Int):=by omega
 replace ⟨h1,h2,hPr,am,hD2,an,a7,hc⟩:=yh8 h1 h2 hPr am hD2 an a7 hc;replace ⟨a8,ax⟩:=yh2 a8 ax
 go_enter Tryz.func248,Tryz.ntmps248
 go_wp2_with fail
 refine hPr.out.mono ?_
 rintro e w2 ⟨b1,b2,aG,aH,aI,aJ,k2,rfl⟩
 obtain ⟨a1,ay⟩:=am.out b1
 obtain ⟨a2,az⟩:=hD2.out b2
 rw [ay,az]
 generalize (aaP s1).length=d1 at ay am ⊢
 generalize (aaP s2).length=d2 at az hD2 ⊢
 clear ay az am hD2 aG aH aI aJ
 have aC:=k2.blk h1.out (λ f=>f)
 have aD:=k2.blk h2.out (λ f=>f)
 have ah:=aC.alloc (.cells #[I n1,.slice a1 d1 d1,I n2,.slice a2 d2 d2] 266 (0,0))
 have ai:=aD.alloc (.cells #[I n1,.slice a1 d1 d1,I n2,.slice a2 d2 d2] 266 (0,0))
 have af:=k2.alloc (.cells #[I n1,.slice a1 d1 d1,I n2,.slice a2 d2 d2] 266 (0,0))
 clear hPr aC aD k2
 replace ⟨ah,ai,af⟩:=yh3 ah ai af
 rcases hc.out with ⟨rfl,aj⟩|⟨rfl,aj⟩|⟨rfl,aj⟩
 ·have a4:¬ no<=mx:=by have:=ax.out;omega
  replace ⟨aj,a4,a7,a8,hc⟩:=yh5 aj a4 a7 a8 hc
  have aE:∀ w,(Instr.makeSlice 40 (I 8) (I 8)).run prog w=.ok (.slice ↑w.heap.size 8 8) (w.alloc (aaE (aaD 8))):=mkB 8 (by omega)
  have hW:Blk ((w2.alloc (.cells #[I n1,.slice a1 d1 d1,I n2,.slice a2 d2 d2] 266 (0,0))).alloc (aaE (aaD 8))) (w2.heap.size+1) (aaE (aaD 8)):=by
   have:=Blk.new (w2.alloc (.cells #[I n1,.slice a1 d1 d1,I n2,.slice a2 d2 d2] 266 (0,0))) (aaE (aaD 8))
   rwa [aEI] at this
  have a9:g1≠w2.heap.size+1:=by have:=ah.out.lt;rw [aEI] at this;omega
  have aa:g2≠w2.heap.size+1:=by have:=ai.out.lt;rw [aEI] at this;omega
  have ab:w.heap.size<=w2.heap.size+1:=by have:=af.out.size;rw [aEI] at this;exact this
  have h5:=And.intro hW (And.intro (ah.out.alloc (aaE (aaD 8))) (And.intro (ai.out.alloc (aaE (aaD 8))) (af.out.alloc (aaE (aaD 8)))))
  replace ⟨h5,a9,aa,ab⟩:=yh4 h5 a9 aa ab
  clear hW ah ai af
  go_upto_region 11 with fail
  refine adW (λ W=>Blk W (w2.heap.size+1) (aaE (aaD 8))/\Blk W g1 (aa2 T1 s1)/\Blk W g2 (aa2 T2 s2)/\AaA NoF w W) h5.out ?_
  clear h5
  rintro w5 ⟨a5,ac,ad,ae⟩
  generalize w2.heap.size+1=bb at a5 a9 aa ab ⊢
  replace ⟨a5,ac,ad,ae⟩:=yh4 a5 ac ad ae
  go_wp2
  go_loopw [15,54] (λ _ i wr=>∃ k:Nat,k<=8/\i=I k/\Blk wr bb (aaE (lay (aaD 8) 0 (aaB no k)))/\Blk wr g1 (aa2 T1 s1)/\Blk wr g2 (aa2 T2 s2)/\AaA NoF w wr) (λ _ i _=>8 - (intOf i).toNat)
  case atStart=>exact ⟨0,by omega,rfl,by simpa [aaB,lay] using a5.out,ac.out,ad.out,ae.out⟩
  case round=>
   obtain ⟨j,hj,rfl,a0,a3,a6,hk7⟩:=hrel
   clear a5 ac ad ae
   have ag:(lay (aaD 8) 0 (aaB no j)).length=8:=by rw [ab6 (by rw [aaC,aaF];omega),aaF]
   by_cases ao:j<8
   ·have aF:=adU a0 j (by omega)
    have hz:=a0.frz
    replace ⟨a0,a3,a6,hk7,ag⟩:=yh5 a0 a3 a6 hk7 ag
    go_wp2
    have ap:Value.int .u8 ((no:Int) / 2 ^ (8*j) % 256)=B (aa9 no j):=by
     unfold B
     rw [abU];simp
    rw [ap]
    have ak:=a0.out.setCell j (B (aa9 no j))
    rw [agW] at ak
    have hsn:=aiB (bs:=aaD 8) (at_:=0) no j (by rw [aaF];omega)
    rw [Nat.zero_add] at hsn
    rw [← hsn] at ak
    have aq:=a3.out.setCell_ne (p:=⟨bb,j,none⟩) a9.out (B (aa9 no j))
    have ar:=a6.out.setCell_ne (p:=⟨bb,j,none⟩) aa.out (B (aa9 no j))
    have au:=hk7.out.setCell (p:=⟨bb,j,none⟩) (.inr ab.out) (B (aa9 no j))
    refine ⟨⟨j+1,by omega,by go_num,ak,aq,ar,au⟩,?_⟩
    simp [intOf];omega
   ·obtain rfl:j=8:=by omega
    rw [al6 (by rw [aaC,aaF])] at a0
    replace ⟨a0,a3,a6,hk7,ag⟩:=yh5 a0 a3 a6 hk7 ag
    go_upto_region 19 with fail
    go_step
    iterate 3 (refine aaR rfl _ _ (by go_simp;exact ⟨rfl,rfl⟩) ?_;simp only [wz])
    obtain ⟨i5,al,-,-,-⟩:=info_parts ak7
    refine ae7 rfl (.tmp 72) (.tmp 73) 40 rfl 5 i5 afL al (some ⟨bb,0,none⟩) 8 8 (aEK _) rfl rfl ?_
    simp only [wz]
    clear al
    clear i5
    have hSe:=arL _ g1 c1 T1 s1 a3.out aw bb 0 8 8 5 (aaB no 8) a0.out (by rw [aaC];decide) (by decide)
    rw [aER,aEO (by rw [aaC];decide),← a8.out s1 (by simp)] at hSe
    replace hSe:=hid hSe
    go_wp2_with fail
    refine hSe.out.mono ?_
    rintro e w8 ⟨g,hg,rfl,av,k8⟩
    have hX:=a7.out w8 g (hk7.out.step k8) (aE4 hk7.out.size hg) a4.out av
    replace hX:=hid hX
    go_wp2
    exact bodyPost_ret (v:=.tuple #[I 0,.slice ↑g 512 512,I 0]) (by simp [results,Tryz.results248,go_sem]) rfl hX.out
 ·by_cases a4:no<=mx
  ·have hX:=an.out _ af.out a4
   have aA:(no:Int)<=(n1:Int):=by omega
   replace ⟨hX,aj,a4,a7,a8,hc⟩:=yh6 hX aj a4 a7 a8 hc
   go_wp2
   exact bodyPost_ret (v:=.tuple #[I 0,.slice none 0 0,I 31]) (by simp [results,Tryz.results248,go_sem]) rfl hX.out
  ·have aA:¬ (no:Int)<=(n1:Int):=by omega
   replace ⟨aj,a4,a7,a8,hc⟩:=yh5 aj a4 a7 a8 hc
   have aE:∀ w,(Instr.makeSlice 40 (I 8) (I 8)).run prog w=.ok (.slice ↑w.heap.size 8 8) (w.alloc (aaE (aaD 8))):=mkB 8 (by omega)
   have hW:Blk ((w2.alloc (.cells #[I n1,.slice a1 d1 d1,I n2,.slice a2 d2 d2] 266 (0,0))).alloc (aaE (aaD 8))) (w2.heap.size+1) (aaE (aaD 8)):=by
    have:=Blk.new (w2.alloc (.cells #[I n1,.slice a1 d1 d1,I n2,.slice a2 d2 d2] 266 (0,0))) (aaE (aaD 8))
    rwa [aEI] at this
   have a9:g1≠w2.heap.size+1:=by have:=ah.out.lt;rw [aEI] at this;omega
   have aa:g2≠w2.heap.size+1:=by have:=ai.out.lt;rw [aEI] at this;omega
   have ab:w.heap.size<=w2.heap.size+1:=by have:=af.out.size;rw [aEI] at this;exact this
   have h5:=And.intro hW (And.intro (ah.out.alloc (aaE (aaD 8))) (And.intro (ai.out.alloc (aaE (aaD 8))) (af.out.alloc (aaE (aaD 8)))))
   replace ⟨h5,a9,aa,ab⟩:=yh4 h5 a9 aa ab
   clear hW ah ai af
   go_upto_region 11 with fail
   refine adW (λ W=>Blk W (w2.heap.size+1) (aaE (aaD 8))/\Blk W g1 (aa2 T1 s1)/\Blk W g2 (aa2 T2 s2)/\AaA NoF w W) h5.out ?_
   clear h5
   rintro w5 ⟨a5,ac,ad,ae⟩
   generalize w2.heap.size+1=bb at a5 a9 aa ab ⊢
   replace ⟨a5,ac,ad,ae⟩:=yh4 a5 ac ad ae
   go_wp2
   go_loopw [15,54] (λ _ i wr=>∃ k:Nat,k<=8/\i=I k/\Blk wr bb (aaE (lay (aaD 8) 0 (aaB no k)))/\Blk wr g1 (aa2 T1 s1)/\Blk wr g2 (aa2 T2 s2)/\AaA NoF w wr) (λ _ i _=>8 - (intOf i).toNat)
   case atStart=>exact ⟨0,by omega,rfl,by simpa [aaB,lay] using a5.out,ac.out,ad.out,ae.out⟩
   case round=>
    obtain ⟨j,hj,rfl,a0,a3,a6,hk7⟩:=hrel
    clear a5 ac ad ae
    have ag:(lay (aaD 8) 0 (aaB no j)).length=8:=by rw [ab6 (by rw [aaC,aaF];omega),aaF]
    by_cases ao:j<8
    ·have aF:=adU a0 j (by omega)
     have hz:=a0.frz
     replace ⟨a0,a3,a6,hk7,ag⟩:=yh5 a0 a3 a6 hk7 ag
     go_wp2
     have ap:Value.int .u8 ((no:Int) / 2 ^ (8*j) % 256)=B (aa9 no j):=by
      unfold B
      rw [abU];simp
     rw [ap]
     have ak:=a0.out.setCell j (B (aa9 no j))
     rw [agW] at ak
     have hsn:=aiB (bs:=aaD 8) (at_:=0) no j (by rw [aaF];omega)
     rw [Nat.zero_add] at hsn
     rw [← hsn] at ak
     have aq:=a3.out.setCell_ne (p:=⟨bb,j,none⟩) a9.out (B (aa9 no j))
     have ar:=a6.out.setCell_ne (p:=⟨bb,j,none⟩) aa.out (B (aa9 no j))
     have au:=hk7.out.setCell (p:=⟨bb,j,none⟩) (.inr ab.out) (B (aa9 no j))
     refine ⟨⟨j+1,by omega,by go_num,ak,aq,ar,au⟩,?_⟩
     simp [intOf];omega
    ·obtain rfl:j=8:=by omega
     rw [al6 (by rw [aaC,aaF])] at a0
     replace ⟨a0,a3,a6,hk7,ag⟩:=yh5 a0 a3 a6 hk7 ag
     go_upto_region 19 with fail
     go_step
     iterate 3 (refine aaR rfl _ _ (by go_simp;exact ⟨rfl,rfl⟩) ?_;simp only [wz])
     obtain ⟨i5,al,-,-,-⟩:=info_parts ak7
     refine ae7 rfl (.tmp 72) (.tmp 73) 40 rfl 5 i5 afL al (some ⟨bb,0,none⟩) 8 8 (aEK _) rfl rfl ?_
     simp only [wz]
     clear al
     clear i5
     have hSe:=arL _ g2 c2 T2 s2 a6.out aB bb 0 8 8 5 (aaB no 8) a0.out (by rw [aaC];decide) (by decide)
     rw [aER,aEO (by rw [aaC];decide),← a8.out s2 (by simp)] at hSe
     replace hSe:=hid hSe
     go_wp2_with fail
     refine hSe.out.mono ?_
     rintro e w8 ⟨g,hg,rfl,av,k8⟩
     have hX:=a7.out w8 g (hk7.out.step k8) (aE4 hk7.out.size hg) a4.out av
     replace hX:=hid hX
     go_wp2
     exact bodyPost_ret (v:=.tuple #[I 1,.slice ↑g 512 512,I 0]) (by simp [results,Tryz.results248,go_sem]) rfl hX.out
 ·by_cases a4:no<=mx
  ·have hX:=an.out _ af.out a4
   have aA:(no:Int)<=(n2:Int):=by omega
   replace ⟨hX,aj,a4,a7,a8,hc⟩:=yh6 hX aj a4 a7 a8 hc
   go_wp2
   exact bodyPost_ret (v:=.tuple #[I 0,.slice none 0 0,I 31]) (by simp [results,Tryz.results248,go_sem]) rfl hX.out
  ·have aA:¬ (no:Int)<=(n2:Int):=by omega
   replace ⟨a4,a7,a8⟩:=yh3 a4 a7 a8;clear aj hc
   have aE:∀ w,(Instr.makeSlice 40 (I 8) (I 8)).run prog w=.ok (.slice ↑w.heap.size 8 8) (w.alloc (aaE (aaD 8))):=mkB 8 (by omega)
   have hW:Blk ((w2.alloc (.cells #[I n1,.slice a1 d1 d1,I n2,.slice a2 d2 d2] 266 (0,0))).alloc (aaE (aaD 8))) (w2.heap.size+1) (aaE (aaD 8)):=by
    have:=Blk.new (w2.alloc (.cells #[I n1,.slice a1 d1 d1,I n2,.slice a2 d2 d2] 266 (0,0))) (aaE (aaD 8))
    rwa [aEI] at this
   have a9:g1≠w2.heap.size+1:=by have:=ah.out.lt;rw [aEI] at this;omega
   have aa:g2≠w2.heap.size+1:=by have:=ai.out.lt;rw [aEI] at this;omega
   have ab:w.heap.size<=w2.heap.size+1:=by have:=af.out.size;rw [aEI] at this;exact this
   have h5:=And.intro hW (And.intro (ah.out.alloc (aaE (aaD 8))) (And.intro (ai.out.alloc (aaE (aaD 8))) (af.out.alloc (aaE (aaD 8)))))
   replace ⟨h5,a9,aa,ab⟩:=yh4 h5 a9 aa ab
   clear hW ah ai af
   go_upto_region 11 with fail
   refine adW (λ W=>Blk W (w2.heap.size+1) (aaE (aaD 8))/\Blk W g1 (aa2 T1 s1)/\Blk W g2 (aa2 T2 s2)/\AaA NoF w W) h5.out ?_
   clear h5
   rintro w5 ⟨a5,ac,ad,ae⟩
   generalize w2.heap.size+1=bb at a5 a9 aa ab ⊢
   replace ⟨a5,ac,ad,ae⟩:=yh4 a5 ac ad ae
   go_wp2
   go_loopw [15,54] (λ _ i wr=>∃ k:Nat,k<=8/\i=I k/\Blk wr bb (aaE (lay (aaD 8) 0 (aaB no k)))/\Blk wr g1 (aa2 T1 s1)/\Blk wr g2 (aa2 T2 s2)/\AaA NoF w wr) (λ _ i _=>8 - (intOf i).toNat)
   case atStart=>exact ⟨0,by omega,rfl,by simpa [aaB,lay] using a5.out,ac.out,ad.out,ae.out⟩
   case round=>
    obtain ⟨j,hj,rfl,a0,a3,a6,hk7⟩:=hrel
    clear a5 ac ad ae
    have ag:(lay (aaD 8) 0 (aaB no j)).length=8:=by rw [ab6 (by rw [aaC,aaF];omega),aaF]
    by_cases ao:j<8
    ·have aF:=adU a0 j (by omega)
     have hz:=a0.frz
     replace ⟨a0,a3,a6,hk7,ag⟩:=yh5 a0 a3 a6 hk7 ag
     go_wp2
     have ap:Value.int .u8 ((no:Int) / 2 ^ (8*j) % 256)=B (aa9 no j):=by
      unfold B
      rw [abU];simp
     rw [ap]
     have ak:=a0.out.setCell j (B (aa9 no j))
     rw [agW] at ak
     have hsn:=aiB (bs:=aaD 8) (at_:=0) no j (by rw [aaF];omega)
     rw [Nat.zero_add] at hsn
     rw [← hsn] at ak
     have aq:=a3.out.setCell_ne (p:=⟨bb,j,none⟩) a9.out (B (aa9 no j))
     have ar:=a6.out.setCell_ne (p:=⟨bb,j,none⟩) aa.out (B (aa9 no j))
     have au:=hk7.out.setCell (p:=⟨bb,j,none⟩) (.inr ab.out) (B (aa9 no j))
     refine ⟨⟨j+1,by omega,by go_num,ak,aq,ar,au⟩,?_⟩
     simp [intOf];omega
    ·obtain rfl:j=8:=by omega
     rw [al6 (by rw [aaC,aaF])] at a0
     replace ⟨a0,a3,hk7⟩:=yh3 a0 a3 hk7;clear a6 ag
     go_upto_region 19 with fail
     go_step
     iterate 3 (refine aaR rfl _ _ (by go_simp;exact ⟨rfl,rfl⟩) ?_;simp only [wz])
     obtain ⟨i5,al,-,-,-⟩:=info_parts ak7
     refine ae7 rfl (.tmp 72) (.tmp 73) 40 rfl 5 i5 afL al (some ⟨bb,0,none⟩) 8 8 (aEK _) rfl rfl ?_
     simp only [wz]
     clear al
     clear i5
     have hSe:=arL _ g1 c1 T1 s1 a3.out aw bb 0 8 8 5 (aaB no 8) a0.out (by rw [aaC];decide) (by decide)
     rw [aER,aEO (by rw [aaC];decide),← a8.out s1 (by simp)] at hSe
     replace hSe:=hid hSe
     go_wp2_with fail
     refine hSe.out.mono ?_
     rintro e w8 ⟨g,hg,rfl,av,k8⟩
     have hX:=a7.out w8 g (hk7.out.step k8) (aE4 hk7.out.size hg) a4.out av
     replace hX:=hid hX
     go_wp2
     exact bodyPost_ret (v:=.tuple #[I 0,.slice ↑g 512 512,I 0]) (by simp [results,Tryz.results248,go_sem]) rfl hX.out
def DM.wr (D:DM) (k:Nat) (bs:List UInt8):Nat × DM:=if D.burnt then (3,D) else (0,(D.wrote k bs).spent)
def DM.fl (D:DM):Nat × DM:=if D.burnt then (3,D) else (0,D.flushed)
def acS (x:Nat × DM) (f:DM->Nat × DM):Nat × DM:=if x.1=0 then f x.2 else x
section
variable {w:World} {d:Nat} {D:DM} {F:List Nat}
theorem arA (h:AaI w d D F) (k:Nat) (hk:k<D.n) (hw:D.writes<1099511627776)
  (g off c:Nat) (T2:TypeId) (src:List UInt8) (hg:Blk w g (aa2 T2 src)) (hlen:off+512<=src.length) :
  Calls prog 162 #[↑d,I k,.slice (some ⟨g,off,none⟩) 512 c] w λ e w'=>
   e=U (I ((D.wr k ((src.drop off).take 512)).1:Nat))/\AeN w d F (D.wr k ((src.drop off).take 512)).2 w':=by
 cases hb:D.burnt with
 | true=>
  refine (aj1 h hb k _).mono ?_
  rintro e w' ⟨rfl,rfl⟩
  unfold DM.wr
  rw [hb]
  exact ⟨rfl,AeN.refl h⟩
 | false=>
  refine (ah5 h hb k (by omega) (by omega) hw g off c T2 src hg hlen).mono ?_
  rintro e w' ⟨rfl,h2⟩
  unfold DM.wr
  rw [hb]
  exact ⟨rfl,h2⟩
theorem an5 (h:AaI w d D F):Calls prog 143 #[↑d] w λ e w'=>
   e=U (I (D.fl.1:Nat))/\AeN w d F D.fl.2 w':=by
 cases hb:D.burnt with
 | true=>
  refine (akL h hb).mono ?_
  rintro e w' ⟨rfl,rfl⟩
  unfold DM.fl
  rw [hb]
  exact ⟨rfl,AeN.refl h⟩
 | false=>
  refine (ajK h hb).mono ?_
  rintro e w' ⟨rfl,h2⟩
  unfold DM.fl
  rw [hb]
  exact ⟨rfl,h2⟩
theorem asV (h:AaI w d D F) (hb:D.burnt=true) (f n:Int):Calls prog 216 #[↑d,I f,I n] w λ e w'=>
  e=U (I 3)/\w=w':=by
 replace h:=hid h
 go_enter Tryz.func216,Tryz.ntmps216
 go_wp2_with (first|(go_at_call 152;refine (agM h.out).mono ?_;rintro e w' ⟨rfl,rfl⟩)|(go_at_call 76;refine (agI h.out).mono ?_;rintro e w' ⟨rfl,rfl⟩))
 go_ret
 exact ⟨rfl,rfl⟩
theorem arQ (h:AaI w d D F) (hb:D.burnt=false) (f n:Nat) (h1:18<=n) (h2:n<=256) (h3:f+2+n<=D.n) (h4:D.n<=2048):Calls prog 216 #[↑d,I f,I n] w λ e w'=>
  e=U (I 0)/\w=w':=by
 replace h:=hid h
 go_enter Tryz.func216,Tryz.ntmps216
 go_wp2_with (first|(go_at_call 152;refine (agM h.out).mono ?_;rintro e w' ⟨rfl,rfl⟩)|(go_at_call 76;refine (agI h.out).mono ?_;rintro e w' ⟨rfl,rfl⟩))
 go_ret
 exact ⟨rfl,rfl⟩
end
structure LM where
 first:Nat
 n:Nat
 life:Int
 epoch:Nat
 top:Nat
 tail:Nat
 head:Nat
 started:Bool
def logO (d:Nat) (L:LM):Obj:=.cells #[↑d,I L.first,I L.n,I L.life,I L.epoch,I L.top,I L.tail,I L.head,.bool L.started] 187 (0,0)
section
variable {w:World} {d l:Nat} {D:DM} {F:List Nat} {L:LM}
theorem as4 (hl:Blk w l (logO d L)) (h:AaI w d D F) (hb:D.burnt=true):Calls prog 217 #[↑l] w λ e w'=>
  e=U (.tuple #[.slice none 0 0,.slice none 0 0,I 3])/\AaA NoF w w':=by
 have c0:=hl.cell 0
 have c1:=hl.cell 1
 simp at c0 c1
 have c0d:w.drew.cell? ↑l=some ↑d:=c0
 have c1d:w.drew.cell? ⟨l,1,none⟩=some (I L.first):=c1
 have hR:=auS (w:=w.drew) (d:=d) (h.keep (w':=w.drew) (λ _ _=>rfl)) hb
 have a0:AaA NoF w w.drew:=(AaA.refl _ w).drew
 replace ⟨hR,a0⟩:=yh2 hR a0;clear h hl
 go_enter Tryz.func217,Tryz.ntmps217
 go_upto_region 1 with fail
 go_region_held3 (λ W=>W.cell? ↑l=some ↑d/\W.cell? ⟨l,1,none⟩=some (I L.first)) (first|with_reducible exact ⟨c0d,c1d⟩|with_reducible exact ⟨q0,q1⟩) (first
  | (go_at_call 149;refine (hR.out _).mono ?_;rintro e w2 ⟨rfl,hw2⟩;have q0:=c0d;have q1:=c1d;rw [hw2] at q0 q1;replace hw2:=hid hw2))
 all_goals
  have hk2:=a0.out
  rw [hw2.out] at hk2
  clear q0 q1
  replace hk2:=hid hk2
  go_wp2
  exact bodyPost_ret (v:=.tuple #[.slice none 0 0,.slice none 0 0,I 3]) (by simp [results,Tryz.results217,go_sem]) rfl ⟨rfl,hk2.out⟩
def Ah1 (w:World) (d:Nat) (D:DM) (F:List Nat) (f:Nat) (e:Ending) (w':World):Prop:=
 ∃ b1 b2,e=U (.tuple #[.slice (some ⟨b1,0,none⟩) 512 512,.slice (some ⟨b2,0,none⟩) 512 512,I 0])/\w.heap.size<=b1/\w.heap.size<=b2 /\
  Blk w' b1 (aaE (D.now f))/\Blk w' b2 (aaE (D.now (f+1)))/\AaI w' d D.readed.readed F/\AaA (· ∈ F) w w'
theorem arV (hl:Blk w l (logO d L)) (h:AaI w d D F) (ad:l∉F) (hb:D.burnt=false) (hf:L.first+1<D.n) (hn:D.n<=2048) :
  Calls prog 217 #[↑l] w (Ah1 w d D F L.first):=by
 have c0:=hl.cell 0
 have c1:=hl.cell 1
 simp at c0 c1
 have c0d:w.drew.cell? ↑l=some ↑d:=c0
 have c1d:w.drew.cell? ⟨l,1,none⟩=some (I L.first):=c1
 have ae:AaI w.drew d D F:=h.keep (w':=w.drew) (λ _ _=>rfl)
 have hR:=akA ae hb L.first (by omega) (by omega)
 have hlt:=h.lt
 have a4:AaA (· ∈ F) w w.drew:=(AaA.refl _ w).drew
 have a5:Blk w.drew l (logO d L):=hl
 have hP:∀ b1 b2 W,w.heap.size<=b1->w.heap.size<=b2->Blk W b1 (aaE (D.now L.first))->Blk W b2 (aaE (D.now (L.first+1)))->AaI W d D.readed.readed F->AaA (· ∈ F) w W ->
   Ah1 w d D F L.first (U (.tuple #[.slice (some ⟨b1,0,none⟩) 512 512,.slice (some ⟨b2,0,none⟩) 512 512,I 0])) W:=λ b1 b2 W x1 x2 x3 x4 x5 x6=>⟨b1,b2,rfl,x1,x2,x3,x4,x5,x6⟩
 generalize Ah1 w d D F L.first=Post at hP ⊢
 rw [Int.toNat_natCast] at hR
 replace ⟨hR,a4,hlt,hP,a5,hb⟩:=yh6 hR a4 hlt hP a5 hb;clear h hl ae
 go_enter Tryz.func217,Tryz.ntmps217
 go_upto_region 1 with fail
 go_region_held3 (λ W=>W.cell? ↑l=some ↑d/\W.cell? ⟨l,1,none⟩=some (I L.first)) (first|with_reducible exact ⟨c0d,c1d⟩|with_reducible exact ⟨q0,q1⟩) (first
  | (go_at_call 149;refine hR.out.mono ?_;rintro e w2 ⟨b1,rfl,a6,a7,hD2,k2⟩;have a2:=k2.blk a5.out ad;have q0:=a2.cell 0;have q1:=a2.cell 1;simp at q0 q1;replace ⟨hD2,k2,a7,a2,a6⟩:=yh5 hD2 k2 a7 a2 a6))
 all_goals
  clear c0 c1 c0d c1d hR
  have a0:w.heap.size<=b1:=a6.out
  have a8:b1∉F:=λ hm=>by have:=hlt.out b1 hm;omega
  have hk2:AaA (· ∈ F) w w2:=a4.out.step k2.out
  have a3:AaI w2.drew d D.readed F:=hD2.out.keep (w':=w2.drew) (λ _ _=>rfl)
  have c0d:w2.drew.cell? ↑l=some ↑d:=q0
  have c1d:w2.drew.cell? ⟨l,1,none⟩=some (I L.first):=q1
  have hR:=akA a3 hb.out ((L.first:Int)+1) (by omega) (by show _<((D.n:Nat):Int);omega)
  rw [show ((L.first:Int)+1).toNat=L.first+1 by omega] at hR
  have ag:IntKind.i64.wrap ((L.first:Int)+1)=(L.first:Int)+1:=aaO (by omega) (by omega)
  have a1:Blk w2.drew l (logO d L):=a2.out
  clear a6 k2 a4 a5 hD2 q0 q1
  replace ⟨a0,hk2,hR,a1⟩:=yh4 a0 hk2 hR a1;clear a3
  go_upto_region 4 with fail
  have q0:=c0d
  have q1:=c1d
  replace q0:w2.cell? ↑l=some ↑d:=q0
  replace q1:w2.cell? ⟨l,1,none⟩=some (I L.first):=q1
  go_region_held3 (λ W=>W.cell? ↑l=some ↑d/\W.cell? ⟨l,1,none⟩=some (I L.first)) (first|with_reducible exact ⟨c0d,c1d⟩|with_reducible exact ⟨r0,r1⟩) (first
   | (go_at_call 149;refine hR.out.mono ?_;rintro e w3 ⟨b2,rfl,a9,aa,ab,k3⟩;have ac:=k3.blk a1.out ad;have r0:=ac.cell 0;have r1:=ac.cell 1;simp at r0 r1;replace ⟨ab,k3,aa,a9⟩:=yh4 ab k3 aa a9;clear ac))
  all_goals
   have af:AaA (· ∈ F) w w3:=hk2.out.drew.step k3.out
   have hb2':w.heap.size<=b2:=aE4 hk2.out.size a9.out
   have hB1':Blk w3 b1 (aaE (D.now L.first)):=(k3.out).blk (w:=w2.drew) a7.out a8
   have hX:=hP.out b1 b2 w3 a0.out hb2' hB1' aa.out ab.out af
   clear q0 q1 c0d c1d r0 r1
   replace hX:=hid hX
   go_wp2
   exact bodyPost_ret (v:=.tuple #[.slice ↑b1 512 512,.slice ↑b2 512 512,I 0]) (by simp [results,Tryz.results217,go_sem]) rfl hX.out
end
theorem AaI.now_length {w:World} {d:Nat} {D:DM} {F:List Nat} (h:AaI w d D F) (k:Nat) (hk:k<D.n):(D.now k).length=512:=by
 obtain ⟨dur,m,ps,clock,h1,rfl,h3⟩:=h
 exact DM.now_length h1 k hk
theorem AaI.drew {w:World} {d:Nat} {D:DM} {F:List Nat} (h:AaI w d D F):AaI w.drew d D F:=h.keep (λ _ _=>rfl)
def ab0 (D:DM) (f e t:Nat):Nat × DM:=
 if D.burnt then (3,D)
 else if e*4294967296+t<=max (aaJ (D.now f)) (aaJ (D.now (f+1))) then (6,D.readed.readed)
 else ((D.readed.readed.wrote (f+ac6 (D.now f) (D.now (f+1))) (afB (D.now f) (D.now (f+1)) (e*4294967296+t))).spent).fl
def AhF (w:World) (d l:Nat) (F:List Nat) (c:Nat) (D':DM) (L':LM) (e:Ending) (w':World):Prop:=
 e=U (I c)/\∃ F',AaI w' d D' F'/\(∀ k∈F',k∈F∨w.heap.size<=k)/\Blk w' l (logO d L')/\AaA (λ k=>k∈F∨k=l) w w'
theorem ah6 (s1 s2:List UInt8):ac6 s1 s2<=1:=by unfold ac6;split<;>omega
theorem agZ (s1 s2:List UInt8) (no:Nat):(afB s1 s2 no).length=512:=aeY _ _
section
variable {w:World} {d l:Nat} {D:DM} {F:List Nat} {L:LM}
theorem aoB (hl:Blk w l (logO d L)) (h:AaI w d D F) (ac:l∉F) (hf:L.first+1<D.n) (hn:D.n<=2048) (hw:D.writes<1099511627776)
  (e t:Nat) (he:1<=e) (aF:e<2147483648) (ht:t<4294967296) :
  Calls prog 223 #[↑l,I e,I t] w
   (AhF w d l F (ab0 D L.first e t).1 (ab0 D L.first e t).2 (if (ab0 D L.first e t).1=0 then { L with epoch:=e,tail:=t } else L)):=by
 cases hb:D.burnt with
 | true=>
  have hA:ab0 D L.first e t=(3,D):=by unfold ab0;rw [hb,if_pos rfl]
  rw [hA]
  have a2:=as4 hl h hb
  have hX:∀ W,AaA NoF w W->AhF w d l F 3 D L (U (I (3:Nat))) W:=λ W k=>
   ⟨rfl,F,h.keeps k (λ _ _ f=>f),λ _ hk=>.inl hk,k.blk hl (λ f=>f),k.mono (λ _ _ f=>f.elim)⟩
  dsimp only
  rw [if_neg (show ¬ (3:Nat)=0 by decide)]
  generalize AhF w d l F 3 D L=Post at hX ⊢
  clear hA
  replace ⟨h,hl,a2,hX⟩:=yh4 h hl a2 hX
  go_enter Tryz.func223,Tryz.ntmps223
  go_wp2_with (go_at_call 217;refine a2.out.mono ?_;rintro e w2 ⟨rfl,k2⟩;replace k2:=hid k2)
  exact hX.out _ k2.out
 | false=>
  have hA:ab0 D L.first e t=if e*4294967296+t<=max (aaJ (D.now L.first)) (aaJ (D.now (L.first+1))) then (6,D.readed.readed) else ((D.readed.readed.wrote (L.first+ac6 (D.now L.first) (D.now (L.first+1))) (afB (D.now L.first) (D.now (L.first+1)) (e*4294967296+t))).spent).fl:=by
   unfold ab0;rw [hb,if_neg (by decide)]
  rw [hA]
  clear hA
  have a2:=arV hl h ac hb hf hn
  have aw:=h.now_length L.first (by omega)
  have ax:=h.now_length (L.first+1) (by omega)
  have aG:=ah6 (D.now L.first) (D.now (L.first+1))
  have hsl:=agZ (D.now L.first) (D.now (L.first+1)) (e*4294967296+t)
  have a9:=λ W (b1 b2:Nat) h1 h2=>aAW W b1 512 5 (D.now L.first) h1 aw b2 512 5 (D.now (L.first+1)) h2 ax (e*4294967296+t) (by omega) (by omega)
  unfold Ah1 at a2
  unfold Ah0 at a9
  generalize hto':ac6 (D.now L.first) (D.now (L.first+1))=sl at *
  generalize hsl':afB (D.now L.first) (D.now (L.first+1)) (e*4294967296+t)=sec at *
  generalize ay:max (aaJ (D.now L.first)) (aaJ (D.now (L.first+1)))=mx at *
  clear hto' hsl' ay
  generalize D.now L.first=s1 at *
  generalize D.now (L.first+1)=s2 at *
  have hlt:=h.lt
  have ao:=hl.lt
  have ap:D.readed.readed.burnt=false:=hb
  have hw2:D.readed.readed.writes<1099511627776:=hw
  have az:D.readed.readed.n=D.n:=rfl
  have hn2':L.first+1<D.readed.readed.n:=hf
  have aA:(e:Int)*4294967296+(t:Int)=((e*4294967296+t:Nat):Int):=by omega
  have aB:e*4294967296+t<9223372036854775808:=by omega
  generalize e*4294967296+t=no at a9 aA aB ⊢
  generalize D.readed.readed=D2 at *
  replace ⟨h,hl,a2,a9,ao,ap,hw2,hsl⟩:=yh8 h hl a2 a9 ao ap hw2 hsl;clear hlt aw ax hb az
  by_cases hst:no<=mx
  ·rw [if_pos hst]
   dsimp only
   rw [if_neg (show ¬ (6:Nat)=0 by decide)]
   have hX:∀ W,AaI W d D2 F->AaA (· ∈ F) w W->AhF w d l F 6 D2 L (U (I (6:Nat))) W:=λ W hd k=>
    ⟨rfl,F,hd,λ _ hk=>.inl hk,k.blk hl.out ac,k.mono (λ _ _ f=>.inl f)⟩
   generalize AhF w d l F 6 D2 L=Post at hX ⊢
   replace ⟨hst,hX⟩:=yh2 hst hX
   go_enter Tryz.func223,Tryz.ntmps223
   go_wp2_with (first
    | (go_at_call 217;refine a2.out.mono ?_;rintro e w2 ⟨b1,b2,rfl,ah,ai,a3,a4,hD2,k2⟩;replace ⟨k2,a3,a4,hD2,ah,ai⟩:=yh6 k2 a3 a4 hD2 ah ai)
    | (go_at_call 248;refine (a9.out _ _ _ a3.out a4.out).mono ?_;rintro e w3 ⟨g,hg,k3,ad⟩;rw [if_pos hst.out] at ad;subst ad;replace k3:=hid k3))
   have a5:=hX.out _ (hD2.out.keeps k3.out (λ _ _ f=>f)) (k2.out.trans k3.out (λ _ _ f=>f.elim))
   exact a5
  ·rw [if_neg hst]
   generalize aq:(D2.wrote (L.first+sl) sec).spent=D3
   have hX:∀ W c D' L',c=D3.fl.1->D'=D3.fl.2->L'=(if D3.fl.1=0 then { L with epoch:=e,tail:=t } else L) ->
     (∃ F',AaI W d D' F'/\(∀ k∈F',k∈F∨w.heap.size<=k)/\Blk W l (logO d L')/\AaA (λ k=>k∈F∨k=l) w W) ->
     AhF w d l F D3.fl.1 D3.fl.2 (if D3.fl.1=0 then { L with epoch:=e,tail:=t } else L) (U (I c)) W:=by
    rintro W c D' L' rfl rfl rfl h
    exact ⟨rfl,h⟩
   generalize AhF w d l F D3.fl.1 D3.fl.2 (if D3.fl.1=0 then { L with epoch:=e,tail:=t } else L)=Post at hX ⊢
   have aj:DM.fl D3=if D3.burnt then (3,D3) else (0,D3.flushed):=rfl
   replace ⟨hst,hX,aq,aj⟩:=yh4 hst hX aq aj
   go_enter Tryz.func223,Tryz.ntmps223
   go_upto_region 7 with (first
    | (go_at_call 217;refine a2.out.mono ?_;rintro e w2 ⟨b1,b2,rfl,ah,ai,a3,a4,hD2,k2⟩;replace ⟨k2,a3,a4,hD2⟩:=yh4 k2 a3 a4 hD2;clear ah ai)
    | (go_at_call 248;refine (a9.out _ _ _ a3.out a4.out).mono ?_;rintro e w3 ⟨g,hg,k3,ad⟩;rw [if_neg hst.out] at ad;obtain ⟨rfl,ar⟩:=ad;replace ⟨k3,ar⟩:=yh2 k3 ar;clear hg))
   have hD2':AaI w3 d D2 F:=hD2.out.keeps k3.out (λ _ _ f=>f)
   have a5:AaA (· ∈ F) w w3:=k2.out.trans k3.out (λ _ _ f=>f.elim)
   have ak:Blk w3 l (logO d L):=a5.blk hl.out ac
   have c0:=ak.cell 0
   have c1:=ak.cell 1
   simp at c0 c1
   have c0d:w3.drew.cell? ↑l=some ↑d:=c0
   have c1d:w3.drew.cell? ⟨l,1,none⟩=some (I L.first):=c1
   have aH:IntKind.i64.wrap ((L.first:Int)+(sl:Int))=(L.first:Int)+(sl:Int):=aaO (by omega) (by omega)
   have hW:=ah5 hD2'.drew ap.out ((L.first:Int)+(sl:Int)) (by omega) (by omega) hw2.out g 0 512 276 sec ar.out.drew (by rw [hsl.out];decide)
   rw [aER,aEO (by rw [hsl.out];decide),show ((L.first:Int)+(sl:Int)).toNat=L.first+sl by omega,aq.out] at hW
   have a6:Blk w3.drew l (logO d L):=ak
   have hsz:w.heap.size<=w3.heap.size:=a5.size
   replace ⟨a5,hW,a6,hsz⟩:=yh4 a5 hW a6 hsz;clear hD2' ak
   go_region_held3 (λ W=>W.cell? ↑l=some ↑d/\W.cell? ⟨l,1,none⟩=some (I L.first)) (first|with_reducible exact ⟨c0d,c1d⟩|with_reducible exact ⟨q0,q1⟩) (first
    | (go_at_call 162;refine hW.out.mono ?_;rintro e w4 ⟨rfl,F4,ae,k4,al⟩;have a7:=k4.blk a6.out ac;have q0:=a7.cell 0;have q1:=a7.cell 1;simp at q0 q1;replace ⟨ae,k4,al,a7⟩:=yh4 ae k4 al a7))
   all_goals
    clear c0 c1 c0d c1d q1
    have af:AaA (· ∈ F) w w4:=a5.out.drew.step k4.out
    have a1:∀ k∈F4,k∈F∨w.heap.size<=k:=λ k hk=>by
     rcases al.out k hk with a|a
     ·exact .inl a
     ·exact .inr (aE4 hsz.out a)
    have ag:l∉F4:=λ hm=>by
     rcases a1 l hm with a|a
     ·exact ac a
     ·have:=ao.out;omega
    clear k4 al
    replace ⟨af,a1⟩:=yh2 af a1
    cases am:D3.burnt with
    | true=>
     have a8:=akL ae.out am
     have a0:D3.fl=(3,D3):=by rw [aj.out,if_pos am]
     have aa:=λ W hh=>hX.out W 3 D3 L (by rw [a0]) (by rw [a0]) (by rw [a0,if_neg (show ¬ (3:Nat)=0 by decide)]) hh
     have hXX:=aa w4 ⟨F4,ae.out,a1.out,a7.out,af.out.mono (λ _ _ f=>.inl f)⟩
     clear aa
     replace ⟨a8,a0,hXX⟩:=yh3 a8 a0 hXX
     go_wp2_with (go_at_call 143;refine a8.out.mono ?_;rintro e w5 ⟨rfl,rfl⟩)
     exact hXX.out
    | false=>
     have a8:=ajK ae.out am
     have a0:D3.fl=(0,D3.flushed):=by rw [aj.out,if_neg (by rw [am];decide)]
     have aa:=λ W hh=>hX.out W 0 D3.flushed { L with epoch:=e,tail:=t } (by rw [a0]) (by rw [a0]) (by rw [a0,if_pos rfl]) hh
     replace ⟨a8,aa⟩:=yh2 a8 aa;clear a0
     go_wp2_with (go_at_call 143;refine a8.out.mono ?_;rintro e w5 ⟨rfl,F5,au,k5,an⟩;have ab:=k5.blk a7.out ag;have p4:=ab.cell 4;have p6:=ab.cell 6;have pf:=ab.frz;simp at p4 p6;replace ⟨au,k5,an,ab⟩:=yh4 au k5 an ab)
     have av:l∉F5:=λ hm=>by
      rcases an.out l hm with a|a
      ·exact ag a
      ·have:=a7.out.lt;omega
     have h6:=(ab.out.setCell 4 (I (e:Nat))).setCell 6 (I (t:Nat))
     have hk5:AaA (λ k=>k∈F∨k=l) w w5:=(af.out.mono (λ _ _ f=>.inl f)).trans k5.out (λ i hi f=>by
      rcases a1.out i f with a|a
      ·exact .inl a
      ·omega)
     have aC:=(hk5.setCell (p:=⟨l,4,none⟩) (.inl (.inr rfl)) (I (e:Nat))).setCell (p:=⟨l,6,none⟩) (.inl (.inr rfl)) (I (t:Nat))
     have aD:AaI ((w5.setCell ⟨l,4,none⟩ (I (e:Nat))).setCell ⟨l,6,none⟩ (I (t:Nat))) d D3.flushed F5:=au.out.keep (λ k hk=>by
      have aI:k≠l:=λ e=>av (e ▸ hk)
      simp only [World.setCell,Array.getElem?_modify]
      rw [if_neg (by omega),if_neg (by omega)])
     have aE:∀ k∈F5,k∈F∨w.heap.size<=k:=λ k hk=>by
      rcases an.out k hk with a|a
      ·exact a1.out k a
      ·exact .inr (aE4 af.out.size a)
     exact aa.out _ ⟨F5,aD,aE,h6,aC⟩
end
end Go.Vk
