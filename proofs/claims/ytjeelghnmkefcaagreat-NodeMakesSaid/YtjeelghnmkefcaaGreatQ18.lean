/- Part of the proof: Pp1 Ps1 Wc1 Wc2. -/
import Derived.Test.YtjeelghnmkefcaaGreatQ02
import Derived.Test.YtjeelghnmkefcaaGreatQ05
import Derived.Test.YtjeelghnmkefcaaGreatQ08
import Derived.Test.YtjeelghnmkefcaaGreatQ17
set_option linter.unusedVariables false
set_option maxHeartbeats 16000000
set_option maxRecDepth 100000
namespace Go.Vk
open Go.RowKit Go.Proofs
open Tryz (prog)
def orB (bs:List UInt8) (i:Nat):List UInt8:=bs.set (i / 8) (UInt8.ofNat (abQ bs (i / 8) ||| 2 ^ (i % 8)))
theorem asX (bs:List UInt8) (i:Nat):(orB bs i).length=bs.length:=by unfold orB;simp
theorem azP (a r:Nat) (ha:a<256) (hr:r<8):bits .or .u8 (a:Int) (2 ^ min r 8 % 256)=((a ||| 2 ^ r:Nat):Int):=by
 rw [pow8 r hr,u8_or_nat a (2 ^ r) ha (aiR r hr)]
theorem ay3 (bs:List UInt8) (i j:Nat) (hi:i / 8<bs.length):abP (orB bs i) j=if j=i then true else abP bs j:=by
 unfold abP orB
 rw [anG _ _ _ hi]
 have hx:abQ bs (i / 8) ||| 2 ^ (i % 8)<256:=Nat.or_lt_two_pow (n:=8) (acN _ _) (aiR _ (by omega))
 have a1:(UInt8.ofNat (abQ bs (i / 8) ||| 2 ^ (i % 8))).toNat=abQ bs (i / 8) ||| 2 ^ (i % 8):=by
  rw [UInt8.toNat_ofNat'];exact Nat.mod_eq_of_lt hx
 by_cases hq:j / 8=i / 8
 ·rw [if_pos hq,a1,Nat.testBit_or]
  by_cases a0:j=i
  ·subst a0
   rw [if_pos rfl,Nat.testBit_two_pow_self]
   simp
  ·rw [if_neg a0,Nat.testBit_two_pow_of_ne (by omega),Bool.or_false,hq]
 ·rw [if_neg hq,if_neg (λ e=>hq (by rw [e]))]
def abC:Nat->List UInt8
 | 0=>aaD 512
 | k+1=>orB (abC k) k
theorem adC:∀ k,(abC k).length=512
 | 0=>aEW
 | k+1=>by rw [abC,asX,adC k]
theorem amK (n j:Nat):abP (aaD n) j=false:=by
 unfold abP abQ aaD
 rw [aEL,List.getElem?_replicate]
 split<;>simp
theorem akT:∀ k j,k<=4096->abP (abC k) j=decide (j<k)
 | 0,j,_=>by rw [abC,amK];simp
 | k+1,j,h=>by
  rw [abC,ay3 _ _ _ (by rw [adC];omega),akT k j (by omega)]
  by_cases hj:j=k
  ·subst hj;simp
  ·rw [if_neg hj];simp only [decide_eq_decide];omega
def TxM.clear (C:TxC) (M:TxM):Nat × TxM:=
 if (M.put C 0 (abC (2+C.G.n / 4))).1=0 then (M.put C 0 (abC (2+C.G.n / 4))).2.put C 1 (aaD 512) else M.put C 0 (abC (2+C.G.n / 4))
section
variable {w:World} {C:TxC} {M:TxM} {X:Nat->Prop} {p:Nat}
theorem ay1 (hp:Blk w p (ab3 C.t)) (ak:X p) (hT:Aa1 w C M false X) (h0:aaT M.D C.G.life M.sp false=0) (hX:∀ i,X i->i<w.heap.size) (hb:1<C.G.blocks) (h4:2+C.G.n / 4<=4096) (ab:(M.put C 0 (abC (2+C.G.n / 4))).1=0->(M.clear C).1=0) :
  Calls prog 35 #[↑p] w (AdI w C (M.clear C).2 false X (I (M.clear C).1)):=by
 have aI:∀ (fn:Fn) (first cap:Array Value) (w:World),(Instr.makeFunc fn first cap).run prog w=.ok (.func fn first cap) w:=λ _ _ _ _=>rfl
 have aJ:∀ (a b c d e:Value) (w:World),(Instr.field 53 (.agg #[a,b,c,d,e]) 4).run prog w=.ok e w:=λ a b c d e w=>by kernel_rfl
 have aK:=al2
 obtain ⟨aL,al,am,aB,an,ac,p0,hS⟩:=ad6 hp hT
 rw [h0] at hS
 have aC:=(hT.notF ak).1
 have ao:w.heap.size∉C.F:=(ac.notF (.inr (aEK _))).1
 unfold errO at *
 have hL:∀ W,AaA NoF (w.alloc (.cells #[I 0] 63 (0,0))) W->Calls prog 86 #[↑C.t] W λ e w'=>e=U (.agg #[I C.G.lg,I (3+C.G.lg:Nat),I C.G.blocks,I C.G.n,I (2+C.G.n / 4:Nat)])/\AaA NoF W w':=λ W x=>ag9 (ac.quiet x (λ _ f=>f.elim))
 obtain ⟨r,hr⟩:∃ r,M.clear C=r:=⟨_,rfl⟩
 have hr0:=hr
 rw [hr0] at ab
 unfold TxM.clear at hr
 generalize 2+C.G.n / 4=dt at hL h4 hr ab
 generalize 3+C.G.lg=v1 at hL
 replace ⟨ak,hX,hb,al,am,an,ac,hS⟩:=yh8 ak hX hb al am an ac hS;replace ⟨h0,hL,hr,hr0,ab⟩:=yh5 h0 hL hr hr0 ab;clear hp hT aB aC ao
 go_enter_defers Tryz.func35,Tryz.ntmps35
 go_wp2_with (first
  | (go_at_call 85;refine hS.out.mono ?_;rintro e w' ⟨rfl,n,rfl⟩)
  | (go_at_call 84;refine (abX _).mono ?_;rintro e w3 ⟨rfl,rfl⟩))
 have hkW:AaA NoF (w.alloc (.cells #[I 0] 63 (0,0))) (((w.alloc (.cells #[I 0] 63 (0,0))).drewN n).alloc (aaE (aaD 512))):=((AaA.refl NoF _).drewN n).alloc _
 have ap:Blk (((w.alloc (.cells #[I 0] 63 (0,0))).drewN n).alloc (aaE (aaD 512))) (w.heap.size+1) (aaE (abC 0++aaD 0)):=by
  have:=Blk.new ((w.alloc (.cells #[I 0] 63 (0,0))).drewN n) (aaE (aaD 512))
  rw [show ((w.alloc (.cells #[I 0] 63 (0,0))).drewN n).heap.size=w.heap.size+1 from al.out] at this
  rw [show abC 0++aaD 0=aaD 512 by simp only [abC];exact aE3 _]
  exact this
 replace ⟨hkW,ap⟩:=yh2 hkW ap
 refine (hL.out _ hkW.out).mono ?_
 rintro e w3 ⟨rfl,aq⟩
 have ar:=aq.blk ap.out (λ f=>f)
 have a5:=hkW.out.step aq
 have au:=AaA.refl (· = w.heap.size+1) w3
 clear aq
 replace ⟨ar,a5,au⟩:=yh3 ar a5 au
 go_wp2
 go_loopw [4,19] (λ _ c wr=>∃ k,k<=dt/\c=I (k:Nat)/\Blk wr (w.heap.size+1) (aaE (abC k++aaD 0))/\AaA (· = w.heap.size+1) w3 wr) (λ _ c _=>dt - (intOf c).toNat)
 case atStart=>exact ⟨0,by omega,rfl,ar.out,au.out⟩
 case round=>
  obtain ⟨k,hk1,rfl,a7,a8⟩:=hrel
  by_cases aD:k<dt
  ·have aE:(k:Int)<(dt:Int):=by omega
   have hq:=at7 k
   have aM:=aw8 k
   have ad:=adC k
   have cb:=ahZ a7 (k / 8) (by omega)
   have fz:=a7.frz (k / 8)
   have aN:=azP (abQ (abC k) (k / 8)) (k % 8) (acN _ _) (by omega)
   have aO:0<=((k / 8:Nat):Int)/\((k / 8:Nat):Int)<(512:Nat):=by have:=h4;omega
   have av:Blk (wr.setCell ⟨w.heap.size+1,k / 8,none⟩ (.int .u8 (abQ (abC k) (k / 8) ||| 2 ^ (k % 8):Nat))) (w.heap.size+1) (aaE (abC (k+1)++aaD 0)):=an9 a7 _ (by have:=h4;omega) _ (Nat.or_lt_two_pow (n:=8) (acN _ _) (aiR _ (by omega)))
   have aw:AaA (· = w.heap.size+1) w3 (wr.setCell ⟨w.heap.size+1,k / 8,none⟩ (.int .u8 (abQ (abC k) (k / 8) ||| 2 ^ (k % 8):Nat))):=a8.setCell (p:=⟨w.heap.size+1,k / 8,none⟩) (.inl rfl) _
   generalize abQ (abC k) (k / 8)=a at *
   generalize k / 8=q at *
   generalize k % 8=rr at *
   replace ⟨a7,a8,ad,av,aw⟩:=yh5 a7 a8 ad av aw
   go_wp2
   go_region
   go_wp2
   exact ⟨⟨k+1,by omega,by go_num,av.out.drew,aw.out.drew⟩,by simp [intOf];omega⟩
  ·have aE:¬ (k:Int)<(dt:Int):=by omega
   obtain rfl:k=dt:=by omega
   have aF:p≠w.heap.size+1:=by omega
   have p03:wr.cell? ↑p=some ↑C.t:=a8.cellF (a5.out.cellF p0 (λ f=>f)) aF
   have ae:Aa1 wr C M false (λ i=>X i∨i=w.heap.size∨i=w.heap.size+1):=((ac.out.quiet a5.out (λ _ f=>f.elim)).quiet a8 (λ i e=>.inr (by omega))).client (λ i hi=>by
    rcases hi with x|x|x
    ·exact .inl (.inl x)
    ·exact .inl (.inr (by omega))
    ·exact .inl (.inr (by omega)))
   have af:Blk wr w.heap.size (.cells #[I 0] 63 (0,0)):=a8.blk (a5.out.blk an.out (λ f=>f)) (by omega)
   have ag:AaA (λ i=>i∈C.F∨i=C.t∨i=C.mx) w wr:=((am.out.step a5.out).mono (λ _ _ f=>f.elim)).trans a8 (λ i hi e=>by omega)
   have ah:∀ i,(X i∨i=w.heap.size∨i=w.heap.size+1)->i<wr.heap.size:=λ i hi=>by
    have aP:=a7.lt
    rcases hi with x|x|x
    ·have:=hX.out i x;omega
    ·omega
    ·omega
   have ad:=adC k
   have a0:=asT ae h0.out ah 0 (by have:=hb.out;omega) (w.heap.size+1) 0 512 _ (abC k) a7 (.inr (.inr rfl)) (by rw [aEH,ad];omega) (by rw [aER,aE0 ad])
   have ai:=λ (i:Nat) (hi:X i∨i=w.heap.size∨i=w.heap.size+1)=>ae.notF hi
   have aa:∀ W W',AaA (λ i=>i∈C.F∨i=C.t∨i=C.mx) W W'->Blk W w.heap.size (.cells #[I 0] 63 (0,0))->Blk W' w.heap.size (.cells #[I 0] 63 (0,0)):=λ W W' x y=>x.blk y (by
    obtain ⟨a1,a2,a3⟩:=ai w.heap.size (.inr (.inl rfl))
    rintro (z|z|z)
    ·exact a1 z
    ·exact a2 z
    ·exact a3 z)
   have aj:∀ W W',AaA (λ i=>i∈C.F∨i=C.t∨i=C.mx) W W'->W.cell? ↑p=some ↑C.t->W'.cell? ↑p=some ↑C.t:=λ W W' x y=>x.cellF y (by
    obtain ⟨a1,a2,a3⟩:=ai p (.inl ak.out)
    rintro (z|z|z)
    ·exact a1 z
    ·exact a2 z
    ·exact a3 z)
   have a4:∀ M2,aaT M2.D C.G.life M2.sp false=0->∀ W W',Aa1 W C M2 false (λ i=>X i∨i=w.heap.size∨i=w.heap.size+1)->wr.heap.size<=W.heap.size->AaA NoF W W'->∀ g2,W.heap.size<=g2->Blk W' g2 (aaE (aaD 512)) ->
     Calls prog 87 #[↑C.t,I 1,.slice ↑g2 512 512] W' (λ e w'=>e=U (I (M2.put C 1 (aaD 512)).1)/\Aa1 w' C (M2.put C 1 (aaD 512)).2 false (λ i=>X i∨i=w.heap.size∨i=w.heap.size+1)/\AaA (λ i=>i∈C.F∨i=C.t∨i=C.mx) W w'):=by
    intro M2 aG W W' aH hsz ax g2 aQ aA
    have hT':Aa1 W' C M2 false (λ i=>(X i∨i=w.heap.size∨i=w.heap.size+1)∨i=g2):=(aH.client (Y:=λ i=>(X i∨i=w.heap.size∨i=w.heap.size+1)∨i=g2) (λ i hi=>by
     rcases hi with x|x
     ·exact .inl x
     ·exact .inr (by omega))).quiet ax (λ _ f=>f.elim)
    have hz:(aaD 512).length=512:=aEW
    have:=asT hT' aG (by
     rintro i (x|x)
     ·have:=ah i x;have:=ax.size;omega
     ·have:=aA.lt;omega) 1 hb.out g2 0 512 _ (aaD 512) aA (.inr rfl) (by rw [hz];omega) (by rw [aER];exact aEO (by rw [hz];exact aEK _))
    refine this.mono ?_
    rintro e w' ⟨x1,x2,x3⟩
    exact ⟨x1,x2.client (λ i hi=>.inl (.inl hi)),(ax.mono (λ _ _ f=>f.elim)).step x3⟩
   have a9:(M.put C 0 (abC k)).1=0->aaT (M.put C 0 (abC k)).2.D C.G.life (M.put C 0 (abC k)).2.sp false=0:=λ hz=>by
    unfold TxM.put at hz ⊢
    split at hz<;>rename_i hc
    ·rw [if_pos hc];exact (acU C M 0 false).trans h0.out
    ·rw [if_neg hc]
     split at hz<;>rename_i hc2
     ·cases hz
     ·rw [if_neg hc2];exact (acU C M 0 false).trans h0.out
   have hPost:∀ W,Aa1 W C r.2 false X->AaA (λ i=>i∈C.F∨i=C.t∨i=C.mx) w W->AdI w C (M.clear C).2 false X (I (M.clear C).1) (U (I r.1)) W:=λ W x y=>by
    rw [hr0.out];exact ⟨rfl,x,y⟩
   by_cases a6:(M.put C 0 (abC k)).1=0
   ·have hc2:=a4 _ (a9 a6)
    rw [if_pos a6] at hr
    have hr':=hr.out
    rw [hr'] at hc2
    have hz2:r.1=0:=ab.out a6
    ·
     rw [hz2] at hc2
     replace ⟨a7,a8,ae,af,ag,ah,a0,ai⟩:=yh8 a7 a8 ae af ag ah a0 ai;replace ⟨aa,aj,a4,a9,hPost,a6,hc2,hz2⟩:=yh8 aa aj a4 a9 hPost a6 hc2 hz2;replace hr':=hid hr'
     go_wp2_with (first
      | (go_at_call 87;refine a0.out.mono ?_;rintro e w4 ⟨he,t1,t2⟩;rw [a6.out] at he;subst he;have p4:=aj.out _ _ t2 p03;replace ⟨t1,t2⟩:=yh2 t1 t2)
      | (go_at_call 84;refine (abX _).mono ?_;rintro e w3 ⟨rfl,rfl⟩))
     have t1':=t1.out
     have t2':=t2.out
     have hC:∀ W',AaA NoF w4 W'->∀ g2,w4.heap.size<=g2->Blk W' g2 (aaE (aaD 512))->Calls prog 87 #[↑C.t,I 1,.slice (some ⟨g2,0,none⟩) 512 512] W' (λ e w'=>e=U (I (0:Nat)) /\
       Blk w' w.heap.size (.cells #[I 0] 63 (0,0))/\Aa1 w' C r.2 false (λ i=>X i∨i=w.heap.size∨i=w.heap.size+1)/\AaA (λ i=>i∈C.F∨i=C.t∨i=C.mx) w w'/\w'.cell? ↑p=some ↑C.t):=λ W' x g2 y z=>by
      refine (hc2.out w4 W' t1' t2'.size x g2 y z).mono ?_
      rintro e w' ⟨x1,x2,x3⟩
      exact ⟨x1,aa.out _ _ x3 (aa.out _ _ t2' af.out),x2,(ag.out.step t2').step x3,aj.out _ _ x3 p4⟩
     have ay:AaA NoF w4 (w4.alloc (aaE (aaD 512))).drew:=((AaA.refl _ _).alloc _).drew
     have az:Blk (w4.alloc (aaE (aaD 512))).drew w4.heap.size (aaE (aaD 512)):=(Blk.new w4 _).drew
     have p4d:w4.drew.cell? ↑p=some ↑C.t:=p4
     clear t1' t2'
     replace ⟨hC,ay,az⟩:=yh3 hC ay az
     go_region_held3 (λ W=>W.cell? ↑p=some ↑C.t) (first|with_reducible exact p4d|with_reducible exact p5|exact aaU p4d _|exact aaU p4 _) (first
      | (go_at_call 87;refine (hC.out _ ay.out _ (aEK _) az.out).mono ?_;rintro e w5 ⟨rfl,tE,tR,tK,p5⟩;replace ⟨tE,tR,tK⟩:=yh3 tE tR tK)
      | (go_at_call 84;refine (abX _).mono ?_;rintro e w3 ⟨rfl,rfl⟩))
     all_goals
      replace tE:=tE.out
      replace tR:=tR.out
      replace tK:=tK.out
      have te:=tE.setCell 0 (I 0)
      have tT:=tR.quiet ((AaA.refl (· = w.heap.size) w5).setCell (p:=⟨w.heap.size,0,none⟩) (.inl rfl) (I 0)) (λ i e=>.inr (.inl e))
      have tK2:=tK.setCell (p:=⟨w.heap.size,0,none⟩) (.inr (aEK _)) (I 0)
      have tc4:=te.cell 0
      have tc3:=tE.cell 0
      have tf3:=tE.frz 0
      simp at tc4 tc3
      replace ⟨tT,tK2⟩:=yh2 tT tK2;clear te
      go_wp2
      refine leaves_cons (f:=82) (args:=#[↑w.heap.size]) (by simp) (by simp [go_sem]) ?_
      refine (atI ⟨w.heap.size,0,none⟩ _).mono ?_
      rintro e u' w'' ⟨rfl,rfl,rfl⟩
      have hQ:=hPost.out _ (tT.out.client (λ i hi=>.inl (.inl hi))) tK2.out
      rw [hz2.out] at hQ
      simp [Leaves,settle,results,Tryz.results35,go_sem,tc4]
      exact hQ
   ·
    rw [if_neg a6] at hr
    have hr':=hr.out
    rw [hr'] at a0 a6
    have hFin:∀ e W,PutM wr C r (λ i=>X i∨i=w.heap.size∨i=w.heap.size+1) e W->e=U (I r.1)/\Blk W w.heap.size (.cells #[I 0] 63 (0,0))/\Aa1 W C r.2 false (λ i=>X i∨i=w.heap.size∨i=w.heap.size+1)/\AaA (λ i=>i∈C.F∨i=C.t∨i=C.mx) w W:=by
     rintro e W ⟨x1,x2,x3⟩
     exact ⟨x1,aa _ _ x3 af,x2,ag.step x3⟩
    replace ⟨a0,hPost,a6,hFin⟩:=yh4 a0 hPost a6 hFin;clear a7 a8 ae af ag ah ai aa aj a4 a9 hr'
    go_wp2_with (first
     | (go_at_call 87;refine a0.out.mono ?_;intro e w4 ht;obtain ⟨rfl,tE,tR,tK⟩:=hFin.out _ _ ht;clear ht;replace ⟨tE,tR,tK⟩:=yh3 tE tR tK)
     | (go_at_call 84;refine (adD _ _ a6.out).mono ?_;rintro e w3 ⟨rfl,rfl⟩))
    replace tE:=tE.out
    replace tR:=tR.out
    replace tK:=tK.out
    refine leaves_cons (f:=82) (args:=#[↑w.heap.size]) (by simp) (by simp [go_sem]) ?_
    refine (amF w.heap.size 0 r.1 _ tE).mono ?_
    rintro e u' w6 ⟨rfl,rfl,t5,t6⟩
    have tT:=tR.quiet t6 (λ i e=>.inr (.inl e))
    have tK2:=tK.trans t6 (λ i hi e=>by omega)
    have tc4:=t5.cell 0
    simp at tc4
    have hQ:=hPost.out _ (tT.client (λ i hi=>.inl (.inl hi))) tK2
    simp [Leaves,settle,results,Tryz.results35,go_sem,tc4]
    exact hQ
end
end Go.Vk
namespace Go.Vk
theorem akJ (C:TxC) (M:TxM) (b:Nat):afD (M.read C b).D C.G.life=afD M.D C.G.life:=by
 unfold afD TxM.read
 dsimp only
 rw [aiY,aiC]
theorem TxM.get_putC (C:TxC) (M:TxM) (b:Nat) (data:List UInt8) (k:Nat):(M.putC b data).get C k=if k=b then data else M.get C k:=by
 unfold TxM.get TxM.putC getB
 dsimp only
 split<;>rfl
end Go.Vk
namespace Go.Vk
open Go.RowKit Go.Proofs
open Tryz (prog)
def AfY (w:World) (g:Nat) (l:List UInt8) (k:Nat):Prop:=∃ rest:List UInt8,rest.length=k/\Blk w g (aaE (l++rest))
section
variable {P:Program} {w:World}
theorem aqJ (t ty e:TypeId) (i:TypeInfo) (ht:P.underlying t=some (.slice e)) (he:e=5) (hi:P.info? e=some i) (a0:i.size=1)
  (g:Nat) (l:List UInt8) (k cap:Nat) (h:AfY w g l k) (a2:cap=l.length+k) (a:Addr) (c:Nat) (ys:List UInt8) (hy:∀ j (h:j<ys.length),w.cell? (a.add j)=some (B ys[j])) (hr:ys.length<=k) :
  ∃ w',(Builtin.append_ #[t,t] ty #[.slice ↑g l.length cap,.slice (some a) ys.length c]).run P w=.ok (.slice ↑g (l.length+ys.length) cap) w'/\AfY w' g (l++ys) (k - ys.length)/\AaA (· = g) w w':=by
 obtain ⟨rest,hk,hg⟩:=h
 subst a2
 have a3:((l++rest).map B).toArray.size=l.length+k:=by simp [hk]
 have a1:∀ j u,(ys.map B)[j]? = some u->w.cell? (a.add j)=some u:=λ j u hj=>by
  rw [aEZ] at hj
  cases hq:ys[j]? with
  | none=>rw [hq] at hj;cases hj
  | some y=>
   obtain ⟨h1,h2⟩:=List.getElem?_eq_some_iff.1 hq
   rw [hq] at hj
   have:B y=u:=by simpa using hj
   rw [hy j h1,h2,this]
 have hr':=run_append_room (P:=P) w t ty e i ht hi g l.length (l.length+k) ((l++rest).map B).toArray (by rw [he];exact hg) a ys.length c (ys.map B) (by rw [a0];simp) a1 (λ u hu=>Ap3 _ u hu) (by omega) (by rw [a0,a3];simp;omega)
 refine ⟨_,hr',⟨rest.drop ys.length,by simp [hk],?_⟩,⟨rfl,rfl,rfl,by simp [World.setRow],λ k _ hk=>setRow_other w g k _ (λ e=>hk e)⟩⟩
 have:=setRow_heap w g ((l++rest).map B).toArray (((l++rest).map B).toArray.toList.take (l.length*i.size)++ys.map B++((l++rest).map B).toArray.toList.drop (l.length*i.size+(ys.map B).length)).toArray 5 (0,0) hg
 have e3:((((l++rest).map B).toArray.toList.take (l.length*i.size)++ys.map B++((l++rest).map B).toArray.toList.drop (l.length*i.size+(ys.map B).length)).toArray)=((l++ys++rest.drop ys.length).map B).toArray:=by
  rw [a0]
  simp [List.take_append,List.drop_append,List.map_drop]
 rw [e3] at this ⊢
 exact this
variable {ops:Array Oper} {rest:List Oper} {o:Oper} {a:Act} {K:Act->World->Prop} {Q:Exit->Act->World->Prop}
theorem aiI (a2:o.guard=none) (s x:Operand) (t:TypeId) (ho:o.op=.call { callee:=.builtin .append,args:=#[s,x],argTypes:=#[t,t] })
  (e:TypeId) (i:TypeInfo) (ht:P.underlying t=some (.slice e)) (he:e=5) (hi:P.info? e=some i) (a0:i.size=1)
  (g n cap:Nat) (l:List UInt8) (k:Nat) (hs:a.eval s=.slice ↑g n cap) (hn:n=l.length) (h:AfY w g l k) (a1:cap=l.length+k) (ad:Addr) (c m:Nat) (ys:List UInt8) (hm:m=ys.length) (hx:a.eval x=.slice (some ad) m c) (hy:∀ j (h:j<ys.length),w.cell? (ad.add j)=some (B ys[j])) (hr:ys.length<=k)
  (hK:∀ w',AfY w' g (l++ys) (k - ys.length)->AaA (· = g) w w'->wpList P ops Q rest (a.put o.dst (.slice ↑g (l.length+ys.length) cap)) w') :
  wpList P ops Q (o :: rest) a w:=
 wpList_plain a2 λ _ a3=>by
  obtain ⟨w',hr',h2,h3⟩:=aqJ (P:=P) (w:=w) t o.type e i ht he hi a0 g l k cap h a1 ad c ys hy hr
  subst hn hm
  unfold Oper.wp execOp
  simp only [ho,resolve,invoke,builtin,Sem.run_bind,Sem.run_pure,Result.andThen_ok,List.map_toArray,List.map_cons,List.map_nil,hs,hx,hr']
  exact a3 _ _ (hK w' h2 h3)
theorem AfY.keeps {Gf:Nat->Prop} {w':World} {g k:Nat} {l:List UInt8} (h:AfY w g l k) (kk:AaA Gf w w') (hG:¬ Gf g):AfY w' g l k:=by
 obtain ⟨rest,h1,h2⟩:=h
 exact ⟨rest,h1,kk.blk h2 hG⟩
end
section
variable {w:World}
theorem arU (g:Nat) (l:List UInt8) (k cap:Nat) (h:AfY w g l k) (a0:cap=l.length+k) (v n:Nat) (hn:n<=8) (hv:v<4611686018427387904) (hr:n<=k) :
  Calls prog 224 #[.slice ↑g l.length cap,I v,I n] w λ e w'=>e=U (.slice ↑g (l.length+n) cap)/\AfY w' g (l++aaB v n) (k - n)/\AaA (· = g) w w':=by
 obtain ⟨i0,hi,ad,a6,hz2⟩:=info_parts ak7
 obtain ⟨L,hL⟩:∃ L,l.length=L:=⟨_,rfl⟩
 have h0:AfY w g (l++aaB v 0) (k - 0):=by simpa [aaB] using h
 have a2:=AaA.refl (· = g) w
 rw [hL]
 rw [hL] at a0
 have a7:(v:Int)=((v / 2 ^ (8*0):Nat):Int):=by simp
 have hst:∀ j,((v / 2 ^ (8*j):Nat):Int) / 256=((v / 2 ^ (8*(j+1)):Nat):Int):=λ j=>by
  rw [show 8*(j+1)=8*j+8 by omega,Nat.pow_add,← Nat.div_div_eq_div_mul];omega
 have a8:∀ j,IntKind.u8.wrap ((v / 2 ^ (8*j):Nat):Int)=((aa9 v j).toNat:Nat):=λ j=>by
  rw [abU,IntKind.wrap_u8'];omega
 have hlt:∀ j,v / 2 ^ (8*j)<=v:=λ j=>Nat.div_le_self _ _
 replace ⟨hi,a6,hL,a0,h0,a2,hst,a8⟩:=yh8 hi a6 hL a0 h0 a2 hst a8;replace ⟨hlt,hv,a7⟩:=yh3 hlt hv a7;clear h ad hz2
 go_enter Tryz.func224,Tryz.ntmps224
 go_wp2
 go_loopw [0,1,8] (λ s x c wr=>∃ j:Nat,j<=n/\c=I j/\x=I (v / 2 ^ (8*j):Nat)/\s=.slice ↑g (L+j) cap/\AfY wr g (l++aaB v j) (k - j)/\AaA (· = g) w wr) (λ _ _ c _=>n - (intOf c).toNat)
 case atStart=>exact ⟨0,by omega,rfl,by rw [← a7.out],rfl,h0.out,a2.out⟩
 case round=>
  obtain ⟨j,ah,rfl,rfl,rfl,hB,hk⟩:=hrel
  clear h0 a2
  by_cases ae:j<n
  ·have af:(j:Int)<n:=by omega
   have ai:=a8.out j
   have aj:=hst.out j
   have ag:=hlt.out j
   have hv':=hv.out
   have a1:(l++aaB v j).length=L+j:=by rw [aEH,aaC,hL.out]
   have hsn:l++aaB v j++[aa9 v j]=l++aaB v (j+1):=by rw [af7,aEQ]
   generalize v / 2 ^ (8*j)=x at *
   generalize a9:v / 2 ^ (8*(j+1))=x2 at *
   generalize aa9 v j=y at *
   generalize l++aaB v j=cur at *
   replace ⟨hB,hk,a1,hsn,a9⟩:=yh5 hB hk a1 hsn a9;clear hv' ag
   have a3:AfY (wr.alloc (.cells #[B y] 5 (0,0))) g cur (k - j):=hB.out.keeps ((AaA.refl NoF wr).alloc _) (λ f=>f)
   have a4:AaA (· = g) w (wr.alloc (.cells #[B y] 5 (0,0))):=hk.out.alloc _
   have a5:(wr.alloc (.cells #[B y] 5 (0,0))).cell? ↑wr.heap.size=some (B y):=by simp
   unfold B at a3 a4 a5
   replace ⟨a3,a4,a5⟩:=yh3 a3 a4 a5
   go_wp2_with (at_builtin;refine aiI rfl _ _ 40 rfl 5 i0 afL rfl hi.out a6.out g (L+j) cap cur (k - j) rfl ?c0 a3.out ?c1 ⟨wr.heap.size,0,none⟩ 1 1 [y] rfl rfl ?c2 ?c3 ?_)
   case c0=>exact a1.out.symm
   case c1=>rw [a1.out,a0.out];omega
   case c2=>
    intro j' hj'
    have:j'=0:=by simp at hj';omega
    subst this
    rw [show (⟨wr.heap.size,0,none⟩:Addr).add 0=⟨wr.heap.size,0,none⟩ by unfold Addr.add;split<;>simp_all]
    exact a5.out
   case c3=>simp;omega
   ·intro w2 aa hk2
    rw [hsn.out] at aa
    have ab:=a4.out.step hk2
    have ac:AfY w2 g (l++aaB v (j+1)) (k - (j+1)):=by
     rw [show k - (j+1)=k - j - 1 by omega];exact aa
    rw [a1.out]
    clear aa hk2
    replace ⟨ac,ab⟩:=yh2 ac ab
    go_wp2
    exact ⟨⟨j+1,by omega,by go_num,by rw [a9.out],by rw [Nat.add_assoc],ac.out,ab.out⟩,by simp [intOf];omega⟩
  ·have af:¬ (j:Int)<n:=by omega
   obtain rfl:j=n:=by omega
   replace ⟨hB,hk⟩:=yh2 hB hk
   go_wp2
   go_ret
   exact ⟨rfl,hB.out,hk.out⟩
end
theorem auM {P:Program} {t e:TypeId} {i:TypeInfo} (ht:P.underlying t=some (.slice e)) (he:e=5) (hi:P.info? e=some i) (hz:i.zero=some (.int .u8 0)) (hs:i.size=1) (hb:i.bytes=1)
  (m n:Nat) (hm:m<=n) (hn:n<=281474976710656) (w:World) :
  (Instr.makeSlice t (I m) (I n)).run P w=.ok (.slice ↑w.heap.size m n) (w.alloc (aaE (aaD n))):=by
 have h:=run_make (P:=P) w t e i _ ht hi hz .i64 .i64 m n (by omega) (by omega) (by rw [hb];omega) (by omega)
 rw [h]
 subst he
 have e1:madeCells (Value.int .u8 0).cells ((n:Int).toNat*i.size)=((aaD n).map B).toArray:=by
  rw [hs]
  apply Array.ext'
  apply List.ext_getElem
  ·simp [madeCells,aaD]
  ·intro j h1 h2
   have e0:j % 1=0:=Nat.mod_one j
   simp [madeCells,aaD,Value.cells,B,e0]
 rw [e1]
 simp [aaE]
theorem aD9 (w:World):(Instr.makeSlice 40 (I 0) (I 504)).run prog w=.ok (.slice ↑w.heap.size 0 504) (w.alloc (aaE (aaD 504))):=by
 obtain ⟨i,h1,h2,h3,h4⟩:=info_parts ak7
 exact auM afL rfl h1 h2 h3 h4 0 504 (by omega) (by omega) w
def al3 (e pos i c:Nat) (data:List UInt8):List UInt8:=aaB e 4++aaB pos 4++aaB i 2++aaB c 2++data
theorem amT (e pos i c:Nat) (data:List UInt8):(al3 e pos i c data).length=12+data.length:=by
 unfold al3
 simp only [aEH,aaC]
def aBS (old body:List UInt8):List UInt8:=layB (agK (old.getD 0 0) (old.getD 511 0)) body
def layD (D:DM) (L:LM) (e pos i c:Nat) (data:List UInt8):DM:=(D.readed.wrote (L.first+2+pos % L.n) (aBS (D.now (L.first+2+pos % L.n)) (al3 e pos i c data))).spent
def anY (e pos i c:Nat) (v:Value):Value:=.agg #[I e,I pos,I i,I c,v]
section
variable {w:World} {d l:Nat} {D:DM} {F:List Nat} {L:LM}
def Aw0 (w:World) (d:Nat) (F:List Nat) (D':DM) (e:Ending) (w':World):Prop:=e=U (I 0)/\∃ F',DAt w d F D' F' w'
theorem aDH (hl:Blk w l (logO d L)) (h:AaI w d D F) (a8:l∉F) (hb:D.burnt=false) (h1:1<=L.n) (hf:L.first+2+L.n<=D.n) (hn:D.n<=2048) (hw:D.writes<1099511627776)
  (e pos i c:Nat) (he:e<4294967296) (hp:pos<4294967296) (hi:i<65536) (hc:c<65536) (a:Addr) (cd:Nat) (data:List UInt8) (hd:∀ j (hj:j<data.length),w.cell? (a.add j)=some (B data[j])) (aA:data.length<=492) :
  Calls prog 174 #[↑l,anY e pos i c (.slice (some a) data.length cd)] w (Aw0 w d F (layD D L e pos i c data)):=by
 have aB:=aD9
 obtain ⟨i0,af,ar,ag,hz2⟩:=info_parts ak7
 have au:pos % L.n<L.n:=Nat.mod_lt _ (by omega)
 have hk:L.first+2+pos % L.n<D.n:=by omega
 have aC:=hl.lt
 have a5:=h.lt
 obtain ⟨n,a2⟩:∃ n,data.length=n:=⟨_,rfl⟩
 have kA:AaA NoF w (w.alloc (.cells #[I e,I pos,I i,I c,.slice (some a) n cd] 209 (0,0))):=(AaA.refl _ w).alloc _
 have bx:=Blk.new w (.cells #[I e,I pos,I i,I c,.slice (some a) n cd] 209 (0,0))
 have kB:AaA NoF w ((w.alloc (.cells #[I e,I pos,I i,I c,.slice (some a) n cd] 209 (0,0))).alloc (aaE (aaD 504))):=kA.alloc _
 have bb:AfY ((w.alloc (.cells #[I e,I pos,I i,I c,.slice (some a) n cd] 209 (0,0))).alloc (aaE (aaD 504))) (w.heap.size+1) [] 504:=⟨aaD 504,aaF _,by
  have:=Blk.new (w.alloc (.cells #[I e,I pos,I i,I c,.slice (some a) n cd] 209 (0,0))) (aaE (aaD 504))
  rw [aEI] at this
  simpa using this⟩
 have bx1:=bx.alloc (aaE (aaD 504))
 rw [a2]
 have a9:∀ W,AfY W (w.heap.size+1) [] 504->Calls prog 224 #[.slice (some ⟨w.heap.size+1,0,none⟩) 0 504,I e,I 4] W λ r w'=>r=U (.slice (some ⟨w.heap.size+1,0,none⟩) 4 504)/\AfY w' (w.heap.size+1) (aaB e 4) 500/\AaA (· = w.heap.size+1) W w':=λ W hW=>arU (w.heap.size+1) [] 504 504 hW rfl e 4 (by omega) (by omega) (by omega)
 have hP2:∀ W,AfY W (w.heap.size+1) (aaB e 4) 500->Calls prog 224 #[.slice (some ⟨w.heap.size+1,0,none⟩) 4 504,I pos,I 4] W λ r w'=>r=U (.slice (some ⟨w.heap.size+1,0,none⟩) 8 504)/\AfY w' (w.heap.size+1) (aaB e 4++aaB pos 4) 496/\AaA (· = w.heap.size+1) W w':=λ W hW=>by
  have:=arU (w.heap.size+1) (aaB e 4) 500 504 hW (by rw [aaC]) pos 4 (by omega) (by omega) (by omega)
  rwa [aaC] at this
 have aa:∀ W,AfY W (w.heap.size+1) (aaB e 4++aaB pos 4) 496->Calls prog 224 #[.slice (some ⟨w.heap.size+1,0,none⟩) 8 504,I i,I 2] W λ r w'=>r=U (.slice (some ⟨w.heap.size+1,0,none⟩) 10 504)/\AfY w' (w.heap.size+1) (aaB e 4++aaB pos 4++aaB i 2) 494/\AaA (· = w.heap.size+1) W w':=λ W hW=>by
  have hx:(aaB e 4++aaB pos 4).length=8:=by rw [aEH,aaC,aaC]
  have:=arU (w.heap.size+1) (aaB e 4++aaB pos 4) 496 504 hW (by rw [hx]) i 2 (by omega) (by omega) (by omega)
  rwa [hx] at this
 have ab:∀ W,AfY W (w.heap.size+1) (aaB e 4++aaB pos 4++aaB i 2) 494->Calls prog 224 #[.slice (some ⟨w.heap.size+1,0,none⟩) 10 504,I c,I 2] W λ r w'=>r=U (.slice (some ⟨w.heap.size+1,0,none⟩) 12 504)/\AfY w' (w.heap.size+1) (aaB e 4++aaB pos 4++aaB i 2++aaB c 2) 492/\AaA (· = w.heap.size+1) W w':=λ W hW=>by
  have hx:(aaB e 4++aaB pos 4++aaB i 2).length=10:=by simp only [aEH,aaC]
  have:=arU (w.heap.size+1) (aaB e 4++aaB pos 4++aaB i 2) 494 504 hW (by rw [hx]) c 2 (by omega) (by omega) (by omega)
  rwa [hx] at this
 have a1:(aaB e 4++aaB pos 4++aaB i 2++aaB c 2).length=12:=by simp only [aEH,aaC]
 have ah:aaB e 4++aaB pos 4++aaB i 2++aaB c 2++data=al3 e pos i c data:=rfl
 have a6:=amT e pos i c data
 rw [a2] at a6
 unfold layD aBS
 generalize al3 e pos i c data=body at *
 generalize aaB e 4++aaB pos 4++aaB i 2++aaB c 2=b12 at *
 generalize aaB e 4++aaB pos 4++aaB i 2=b10 at *
 generalize aaB e 4++aaB pos 4=b8 at *
 generalize aaB e 4=b4 at *
 have a0:∀ W,AaA (· = w.heap.size+1) ((w.alloc (.cells #[I e,I pos,I i,I c,.slice (some a) n cd] 209 (0,0))).alloc (aaE (aaD 504))) W->W.cell? ↑w.heap.size=some (I e)/\W.cell? ⟨w.heap.size,1,none⟩=some (I pos)/\W.cell? ⟨w.heap.size,2,none⟩=some (I i)/\W.cell? ⟨w.heap.size,3,none⟩=some (I c)/\W.cell? ⟨w.heap.size,4,none⟩=some (.slice (some a) n cd):=λ W k=>by
  have hB:=k.blk bx1 (by omega)
  have q0:=hB.cell 0
  have q1:=hB.cell 1
  have q2:=hB.cell 2
  have q3:=hB.cell 3
  have q4:=hB.cell 4
  simp at q0 q1 q2 q3 q4
  exact ⟨q0,q1,q2,q3,q4⟩
 generalize ai:(w.alloc (.cells #[I e,I pos,I i,I c,.slice (some a) n cd] 209 (0,0))).alloc (aaE (aaD 504))=wB at *
 have kk0:=AaA.refl (· = w.heap.size+1) wB
 have c00:=(a0 wB kk0).1
 unfold anY
 generalize hPost:Aw0 w d F _=Post at *
 replace ⟨hl,h,a8,hb,hf,hd,a2,kB⟩:=yh8 hl h a8 hb hf hd a2 kB;replace ⟨bb,bx1,a9,hP2,aa,ab,a1,ah⟩:=yh8 bb bx1 a9 hP2 aa ab a1 ah;replace ⟨a0,ai,a5,hPost,af,ag,a6,hk⟩:=yh8 a0 ai a5 hPost af ag a6 hk;replace hw:=hid hw;clear kA bx kk0 ar hz2
 go_enter Tryz.func174,Tryz.ntmps174
 go_upto_region 2 with fail
 rw [ai.out]
 go_upto_region 6 with (first
  | (go_at_call 224;first
    | (refine (a9.out _ bb.out).mono ?_;rintro r w2 ⟨rfl,bb2,k2⟩;replace k2:=hid k2;obtain ⟨_,c01,_⟩:=a0.out _ k2.out;replace bb2:=hid bb2;clear a9)
    | (refine (hP2.out _ bb2.out).mono ?_;rintro r w3 ⟨rfl,bb3,k3⟩;replace k3:=hid (k2.out.step k3);obtain ⟨_,_,c02,_⟩:=a0.out _ k3.out;replace bb3:=hid bb3;clear hP2)
    | (refine (aa.out _ bb3.out).mono ?_;rintro r w4 ⟨rfl,bb4,k4⟩;replace k4:=hid (k3.out.step k4);obtain ⟨_,_,_,c03,_⟩:=a0.out _ k4.out;replace bb4:=hid bb4;clear aa)
    | (refine (ab.out _ bb4.out).mono ?_;rintro r w5 ⟨rfl,bb5,k5⟩;replace k5:=hid (k4.out.step k5);obtain ⟨_,c51,_,_,c54⟩:=a0.out _ k5.out;replace bb5:=hid bb5)))
 have kw5:AaA NoF w w5:=kB.out.trans k5.out (λ i hi e=>by omega)
 have ac:∀ j (hj:j<data.length),w5.cell? (a.add j)=some (B data[j]):=λ j hj=>kw5.cell (hd.out j hj)
 have bx5:=(k5.out.blk bx1.out (by omega:¬ w.heap.size=w.heap.size+1))
 clear c00 ab bb2 bb3 bb4 k2 k3 k4
 replace ⟨kw5,ac,bx5⟩:=yh3 kw5 ac bx5
 go_upto_region 7 with (at_builtin;refine aiI rfl _ _ 40 rfl 5 i0 afL rfl af.out ag.out (w.heap.size+1) 12 504 b12 492 rfl ?c0 bb5.out ?c1 a cd n data ?c2 rfl ?c3 ?c4 ?_)
 case c0=>exact a1.out.symm
 case c1=>rw [a1.out]
 case c2=>exact a2.out.symm
 case c3=>exact ac.out
 case c4=>have:=a2.out;omega
 intro w6 am an
 rw [ah.out,a2.out] at am
 rw [a1.out,a2.out]
 have bx6:=an.blk bx5.out (by omega:¬ w.heap.size=w.heap.size+1)
 have kw6:AaA NoF w w6:=kw5.out.trans an (λ i hi e=>by omega)
 have c61:=bx6.cell 1
 simp at c61
 have ad:=kw6.blk hl.out (λ f=>f)
 have l60:=ad.cell 0
 simp at l60
 have aj:=h.out.keeps kw6 (λ _ _ f=>f)
 obtain ⟨rest,a7,ao⟩:=am
 have av:=kw6.size
 have ap:=aj.now_length (L.first+2+pos % L.n) hk.out
 have ae:∀ W,Blk W l (logO d L)->Calls prog 225 #[↑l,I pos] W λ r w'=>r=U (I (L.first+2+pos % L.n:Nat))/\∃ m,w'=W.drewN m:=λ W hW=>at_w hW pos h1 (by have:=hf.out;omega) (by have:=hf.out;omega)
 generalize L.first+2+pos % L.n=kx at *
 have ak:∀ m,Calls prog 149 #[↑d,I kx] (w6.drewN m) λ r w'=>∃ b,r=U (.tuple #[.slice (some ⟨b,0,none⟩) 512 512,I 0])/\w'.cell? ↑l=some ↑d/\w'.cell? ⟨w.heap.size,1,none⟩=some (I pos) /\
   Calls prog 226 #[.slice (some ⟨b,0,none⟩) 512 512,.slice (some ⟨w.heap.size+1,0,none⟩) (12+n) 504] w' λ r w8=>∃ g,r=U (.tuple #[.slice (some ⟨g,0,none⟩) 512 512,I 0])/\w8.cell? ↑l=some ↑d/\w8.cell? ⟨w.heap.size,1,none⟩=some (I pos)/\Blk w8 l (logO d L) /\
    ∀ m,Calls prog 162 #[↑d,I kx,.slice (some ⟨g,0,none⟩) 512 512] (w8.drewN m) λ r w9=>r=U (I 0)/\Post (U (I 0)) w9/\w9.cell? ↑l=some ↑d/\w9.cell? ⟨w.heap.size,1,none⟩=some (I pos):=by
  intro m
  have km:AaA NoF w6 (w6.drewN m):=(AaA.refl NoF w6).drewN m
  have aw:=aj.keeps km (λ _ _ f=>f)
  have:=akA aw hb.out (kx:Int) (by omega) (by have:=hk.out;omega)
  rw [Int.toNat_natCast] at this
  refine this.mono ?_
  rintro r w7 ⟨b,rfl,aD,ax,hD7,k7⟩
  have aq:=k7.blk (km.blk ad (λ f=>f)) a8.out
  have bx7:=k7.blk (km.blk bx6 (λ f=>f)) (λ f=>by have:=a5.out _ f;omega)
  have bb7:=k7.blk (km.blk ao (λ f=>f)) (λ f=>by have:=a5.out _ f;omega)
  have aE:=k7.size
  have aF:=km.size
  refine ⟨b,rfl,by have:=aq.cell 0;simpa using this,by have:=bx7.cell 1;simpa using this,?_⟩
  refine (arL w7 b 512 5 (D.now kx) ax ap (w.heap.size+1) 0 (12+n) 504 5 (body++rest) bb7 (by rw [aEH,a6.out];omega) (by have:=a2.out;omega)).mono ?_
  rintro r w8 ⟨g,hg,rfl,hG,k8⟩
  rw [aER,aE0 a6.out] at hG
  have a3:=k8.blk aq (λ f=>f)
  have bx8:=k8.blk bx7 (λ f=>f)
  have aG:=k8.size
  refine ⟨g,rfl,by have:=a3.cell 0;simpa using this,by have:=bx8.cell 1;simpa using this,a3,λ m=>?_⟩
  have km8:AaA NoF w8 (w8.drewN m):=(AaA.refl NoF w8).drewN m
  have ay:=hD7.keeps (k8.step km8) (λ _ _ f=>f)
  have hw2:=ah5 ay hb.out (kx:Int) (by omega) (by have:=hk.out;show (kx:Int)<(D.n:Nat);omega) hw.out g 0 512 276 _ (km8.blk hG (λ f=>f)) (by rw [aeY];omega)
  rw [Int.toNat_natCast,aER,aEO (by rw [aeY];omega)] at hw2
  refine hw2.mono ?_
  rintro r w9 ⟨rfl,F',y1,y2,y3⟩
  have aH:(w8.drewN m).heap.size=w8.heap.size:=rfl
  have az:(w6.drewN m).heap.size=w6.heap.size:=rfl
  refine ⟨rfl,?_,by have:=(y2.blk (km8.blk a3 (λ f=>f)) a8.out).cell 0;simpa using this,by have:=(y2.blk (km8.blk bx8 (λ f=>f)) (λ f=>by have:=a5.out _ f;omega)).cell 1;simpa using this⟩
  rw [← hPost.out]
  exact ⟨rfl,F',y1,λ k hk'=>(y3 k hk').elim .inl (λ x=>.inr (by omega)),(((kw6.step km).mono λ _ _ f=>f.elim).step k7).step ((k8.step km8).mono λ _ _ f=>f.elim) |>.step y2⟩
 have l60d:w6.drew.cell? ↑l=some ↑d:=l60
 have c61d:w6.drew.cell? ⟨w.heap.size,1,none⟩=some (I pos):=c61
 have a4:Blk w6.drew l (logO d L):=ad
 clear c51 c54 ac bb5
 replace ⟨ae,ak,a4⟩:=yh3 ae ak a4;clear bx6 kw6 ad aj ao a7 ap
 go_upto_region 7 with fail
 go_region_held3 (λ W=>W.cell? ↑l=some ↑d/\W.cell? ⟨w.heap.size,1,none⟩=some (I pos)) (first|with_reducible exact ⟨l60d,c61d⟩|with_reducible exact ⟨m1,m2⟩|with_reducible exact ⟨r1,r2⟩) (first
  | (go_at_call 225;refine (ae.out _ a4.out).mono ?_;rintro r w7 ⟨rfl,m,rfl⟩;have m1:(w6.drewN (1+m)).cell? ↑l=some ↑d:=l60;have m2:(w6.drewN (1+m)).cell? ⟨w.heap.size,1,none⟩=some (I pos):=c61;have hRm:=ak.out (1+m);replace hRm:=hid hRm)
  | (go_at_call 149;refine hRm.out.mono ?_;rintro r w7 ⟨b,rfl,r1,r2,hSe⟩;replace hSe:=hid hSe))
 rename_i hHeld
 clear hHeld m1 m2
 go_upto_region 13 with (go_at_call 226;refine hSe.out.mono ?_;rintro r w8 ⟨g,rfl,s1,s2,a3,al⟩;replace ⟨a3,al⟩:=yh2 a3 al)
 have s1d:w8.drew.cell? ↑l=some ↑d:=s1
 have s2d:w8.drew.cell? ⟨w.heap.size,1,none⟩=some (I pos):=s2
 have hl8d:Blk w8.drew l (logO d L):=a3.out
 replace hl8d:=hid hl8d
 go_region_held3 (λ W=>W.cell? ↑l=some ↑d/\W.cell? ⟨w.heap.size,1,none⟩=some (I pos)) (first|with_reducible exact ⟨s1d,s2d⟩|with_reducible exact ⟨m1,m2⟩|with_reducible exact ⟨t1,t2⟩) (first
  | (go_at_call 225;refine (ae.out _ hl8d.out).mono ?_;rintro r w9 ⟨rfl,m',rfl⟩;have m1:(w8.drewN (1+m')).cell? ↑l=some ↑d:=s1;have m2:(w8.drewN (1+m')).cell? ⟨w.heap.size,1,none⟩=some (I pos):=s2;have hWm:=al.out (1+m');replace hWm:=hid hWm)
  | (go_at_call 162;refine hWm.out.mono ?_;rintro r w9 ⟨rfl,hF,t1,t2⟩;replace hF:=hid hF))
 rename_i hHeld
 clear hHeld
 go_wp2
 exact hF.out
end
end Go.Vk
