/- Part of the proof: Px3 Pp2 Rga Rgb Px5 Nc1. -/
import Derived.Test.YtjeelghnmkefcaaGreatQ11
import Derived.Test.YtjeelghnmkefcaaGreatQ18
import Derived.Test.YtjeelghnmkefcaaGreatQ20
import Derived.Test.YtjeelghnmkefcaaGreatQ23
import Derived.Laws.IdiomStrings
set_option linter.unusedVariables false
set_option maxHeartbeats 16000000
set_option maxRecDepth 100000
namespace Go.Vk
def Olds (oB oN:List Bool) (oR:List (List UInt8)) (old:Nat->List UInt8) (G:Geom):Prop:=oB=aaZ (old 0)/\oN=aaZ (old 1)/\(∀ b,2<=b->b<G.blocks->oR[b]? = some (old b))/\oR.length=G.blocks
structure Same (R:RP) (T:TS) (G:Geom):Prop where
 nb:R.nowB=aaZ (T.raw 0)
 nn:R.nowN=aaZ (T.raw 1)
 raw:∀ b,2<=b->b<G.blocks->R.raw[b]? = some (T.raw b)
 rl:R.raw.length=G.blocks
 put:R.put=T.put
 sp:R.sp=T.sp
 op:R.op=true
 dead:R.dead=T.dd
 data:R.data=G.data
 blocks:R.blocks=G.blocks
 nodes:R.nodes=G.n
 od:Olds R.oldB R.oldN R.oldRaw T.old G
section
variable {R:RP} {T:TS} {G:Geom}
theorem Same.state (h:Same R T G):R.state=T.st:=by unfold RP.state TS.st;rw [h.dead,h.op,h.sp];rfl
theorem Same.nowK (h:Same R T G) (nd:Bool):R.nowK nd=aaZ (T.raw nd.toNat):=by
 cases nd
 ·exact h.nb
 ·exact h.nn
theorem avW (b:List UInt8) (i:Nat) (hi:i<4096) (hl:b.length=512):b≠ab2 b i:=λ e=>by
 have:=anI b i i (by omega)
 rw [← e,if_pos rfl] at this
 cases hb:abP b i<;>rw [hb] at this<;>cases this
theorem Same.lays (h:Same R T G) (nd:Bool) (data:List UInt8) (hl:data.length=512) (hk:(T.raw nd.toNat).length=512) :
  R.laysE nd (aaZ data)=(T.puts nd.toNat data).1/\Same (R.lays nd (aaZ data)) (T.puts nd.toNat data).2 G:=by
 unfold RP.laysE RP.lays TS.puts RP.putsE RP.puts
 rw [h.nowK nd,h.put]
 by_cases he:T.raw nd.toNat=data
 ·have hb:aaZ (T.raw nd.toNat)=aaZ data:=by rw [he]
  rw [if_pos hb,if_pos hb,if_pos he]
  exact ⟨rfl,h⟩
 ·have hb:¬ aaZ (T.raw nd.toNat)=aaZ data:=λ x=>he ((akS hk hl).1 x)
  rw [if_neg hb,if_neg hb,if_neg he]
  by_cases hm:nd.toNat∈T.put
  ·simp only [if_pos hm]
   refine ⟨trivial,?_⟩
   rw [if_pos trivial]
   cases nd
   ·refine ⟨by simp [RP.withK,TS.lay],by simpa [RP.withK,TS.lay] using h.nn,λ b h1 h2=>?_,by simpa [RP.withK] using h.rl,by simp [RP.withK,TS.lay,h.put],by simpa [RP.withK,TS.lay] using h.sp,by simpa [RP.withK] using h.op,by simpa [RP.withK,TS.lay] using h.dead,by simpa [RP.withK] using h.data,by simpa [RP.withK] using h.blocks,by simpa [RP.withK] using h.nodes,by simpa [RP.withK,TS.lay] using h.od⟩
    have a0:b≠0:=by omega
    simpa [RP.withK,TS.lay,a0] using h.raw b h1 h2
   ·refine ⟨by simpa [RP.withK,TS.lay] using h.nb,by simp [RP.withK,TS.lay],λ b h1 h2=>?_,by simpa [RP.withK] using h.rl,by simp [RP.withK,TS.lay,h.put],by simpa [RP.withK,TS.lay] using h.sp,by simpa [RP.withK] using h.op,by simpa [RP.withK,TS.lay] using h.dead,by simpa [RP.withK] using h.data,by simpa [RP.withK] using h.blocks,by simpa [RP.withK] using h.nodes,by simpa [RP.withK,TS.lay] using h.od⟩
    have a0:b≠1:=by omega
    simpa [RP.withK,TS.lay,a0] using h.raw b h1 h2
  ·simp only [if_neg hm]
   by_cases a1:T.put.length=16
   ·simp only [if_pos a1]
    refine ⟨trivial,?_⟩
    try rw [if_neg (by decide)]
    exact ⟨h.nb,h.nn,h.raw,h.rl,rfl,rfl,h.op,h.dead,h.data,h.blocks,h.nodes,h.od⟩
   ·simp only [if_neg a1]
    refine ⟨trivial,?_⟩
    rw [if_pos trivial]
    cases nd
    ·refine ⟨by simp [RP.withK,TS.lay],by simpa [RP.withK,TS.lay] using h.nn,λ b h1 h2=>?_,by simpa [RP.withK] using h.rl,by simp [RP.withK,TS.lay,h.put],by simpa [RP.withK,TS.lay] using h.sp,by simpa [RP.withK] using h.op,by simpa [RP.withK,TS.lay] using h.dead,by simpa [RP.withK] using h.data,by simpa [RP.withK] using h.blocks,by simpa [RP.withK] using h.nodes,by simpa [RP.withK,TS.lay] using h.od⟩
     have a0:b≠0:=by omega
     simpa [RP.withK,TS.lay,a0] using h.raw b h1 h2
    ·refine ⟨by simpa [RP.withK,TS.lay] using h.nb,by simp [RP.withK,TS.lay],λ b h1 h2=>?_,by simpa [RP.withK] using h.rl,by simp [RP.withK,TS.lay,h.put],by simpa [RP.withK,TS.lay] using h.sp,by simpa [RP.withK] using h.op,by simpa [RP.withK,TS.lay] using h.dead,by simpa [RP.withK] using h.data,by simpa [RP.withK] using h.blocks,by simpa [RP.withK] using h.nodes,by simpa [RP.withK,TS.lay] using h.od⟩
     have a0:b≠1:=by omega
     simpa [RP.withK,TS.lay,a0] using h.raw b h1 h2
theorem avN {nd:Bool} {l:List Bool} (h:R.nowK nd≠l):R.laysE nd l=R.putsE nd.toNat/\R.lays nd l=if R.putsE nd.toNat=0 then (R.puts nd.toNat).withK nd l else R.puts nd.toNat:=by
 unfold RP.laysE RP.lays
 rw [if_neg h,if_neg h]
 exact ⟨rfl,rfl⟩
theorem ajL (b:List UInt8) (i:Nat) (h:b.length=512):(ab2 b i).length=512:=by rw [akZ,h]
theorem Same.take (h:Same R T G) (nd:Bool) (hk:(T.raw nd.toNat).length=512) (hh:xHi G nd<=4096):R.takeA nd (T.raw nd.toNat)=(T.take G nd).1/\Same (R.take nd (T.raw nd.toNat)) (T.take G nd).2 G:=by
 have e1:rLo R nd=xLo G nd:=by unfold rLo xLo;rw [h.data]
 have e2:rHi R nd=xHi G nd:=by unfold rHi xHi;rw [h.nodes,h.blocks]
 unfold RP.takeA RP.take TS.take
 rw [h.state,e1,e2]
 by_cases hs:T.st=0
 ·simp only [if_pos hs]
  unfold TS.takeX
  cases hf:abA (T.raw nd.toNat) (xLo G nd) (xHi G nd) with
  | none=>exact ⟨rfl,⟨h.nb,h.nn,h.raw,h.rl,h.put,rfl,h.op,h.dead,h.data,h.blocks,h.nodes,h.od⟩⟩
  | some i=>
   obtain ⟨_,a2,_,_⟩:=acL hf
   obtain ⟨b1,b2⟩:=h.lays nd (ab2 (T.raw nd.toNat) i) (ajL _ _ hk) hk
   have a0:R.nowK nd≠aaZ (ab2 (T.raw nd.toNat) i):=λ x=>by
    rw [h.nowK nd] at x
    exact avW _ i (by omega) hk ((akS hk (ajL _ _ hk)).1 x)
   obtain ⟨c1,c2⟩:=avN a0
   rw [c1] at b1
   rw [c2] at b2
   dsimp only
   rw [← b1]
   refine ⟨?_,b2⟩
   split
   ·rename_i hz;first|rfl|rw [hz]
   ·first|rfl|(rename_i hz;rw [if_neg hz])
 ·simp only [if_neg hs]
  exact ⟨trivial,h⟩
theorem Same.drop (h:Same R T G) (nd:Bool) (n:Int) (hk:(T.raw nd.toNat).length=512) (hh:xHi G nd<=4095):R.dropE nd (T.raw nd.toNat) n=(T.drop G nd n).1/\Same (R.drop nd (T.raw nd.toNat) n) (T.drop G nd n).2 G:=by
 have e1:rLo R nd=xLo G nd:=by unfold rLo xLo;rw [h.data]
 have e2:rHi R nd=xHi G nd:=by unfold rHi xHi;rw [h.nodes,h.blocks]
 have eo:outK R nd n↔xOut G nd n:=by unfold outK xOut;rw [e1,e2]
 unfold RP.dropE RP.drop TS.drop
 rw [h.state]
 by_cases hs:T.st=0
 ·simp only [if_pos hs]
  by_cases ho:xOut G nd n
  ·simp only [if_pos ho,if_pos (eo.2 ho)]
   exact ⟨trivial,h⟩
  ·have ho':=ho
   unfold xOut at ho'
   simp only [if_neg ho,if_neg (λ x=>ho (eo.1 x))]
   unfold TS.dropX
   by_cases hb:abP (T.raw nd.toNat) (n.toNat - nd.toNat)=true
   ·simp only [if_pos hb]
    have a1:nd.toNat<=1:=by cases nd<;>decide
    obtain ⟨b1,b2⟩:=h.lays nd (ab2 (T.raw nd.toNat) (n.toNat - nd.toNat)) (ajL _ _ hk) hk
    have a0:R.nowK nd≠aaZ (ab2 (T.raw nd.toNat) (n.toNat - nd.toNat)):=λ x=>by
     rw [h.nowK nd] at x
     exact avW _ _ (by omega) hk ((akS hk (ajL _ _ hk)).1 x)
    obtain ⟨c1,c2⟩:=avN a0
    rw [c1] at b1
    rw [c2] at b2
    exact ⟨b1,b2⟩
   ·simp only [if_neg hb]
    exact ⟨trivial,h⟩
 ·simp only [if_neg hs]
  exact ⟨trivial,h⟩
theorem ax0 (b:Nat) (data:List UInt8) (hl:data.length=512) (k:Nat) (hk:(T.raw k).length=512):(((T.puts b data).2).raw k).length=512:=by
 have hx:((T.lay b data).raw k).length=512:=by
  show (if k=b then data else T.raw k).length=512
  split
  ·exact hl
  ·exact hk
 unfold TS.puts
 repeat' split
 ·exact hk
 ·exact hx
 ·exact hk
 ·exact hx
theorem Same.clear (h:Same R T G) (a0:(T.raw 0).length=512) (hk1:(T.raw 1).length=512):R.clearE=(T.clear G).1/\Same R.clear (T.clear G).2 G:=by
 unfold RP.clearE RP.clear TS.clear
 rw [h.state,h.data]
 by_cases hs:T.st=0
 ·simp only [if_pos hs]
  unfold TS.clearX
  obtain ⟨b1,b2⟩:=h.lays false (abC G.data) (adC _) a0
  have b1':R.laysE false (aaZ (abC G.data))=(T.puts 0 (abC G.data)).1:=b1
  have b2':Same (R.lays false (aaZ (abC G.data))) (T.puts 0 (abC G.data)).2 G:=b2
  obtain ⟨c1,c2⟩:=b2'.lays true (aaD 512) (aaF _) (ax0 0 (abC G.data) (adC _) 1 hk1)
  rw [af9] at c1 c2
  rw [b1']
  by_cases hz:(T.puts 0 (abC G.data)).1=0
  ·simp only [if_pos hz]
   exact ⟨c1,c2⟩
  ·simp only [if_neg hz]
   exact ⟨trivial,b2'⟩
 ·simp only [if_neg hs]
  exact ⟨trivial,h⟩
theorem Same.left (h:Same R T G):R.leftA (T.raw 0) (T.raw 1)=T.left G:=by
 unfold RP.leftA TS.left
 rw [h.state,h.data,h.blocks,h.nodes]
end
end Go.Vk
namespace Go.Vk
open Go.RowKit Go.Proofs
open Tryz (prog)
section
variable {w:World} {C:TxC} {M:TxM} {X:Nat->Prop} {p:Nat}
theorem awI (hp:Blk w p (ab3 C.t)) (ad:X p) (hT:Aa1 w C M false X) (h0:aaT M.D C.G.life M.sp false=0) (hX:∀ i,X i->i<w.heap.size) (hb:1<C.G.blocks) (h4:2+C.G.n / 4<=4096) (a8:(M.put C 0 (abC (2+C.G.n / 4))).1=0/\(M.clear C).1≠0) :
  Calls prog 35 #[↑p] w (AdI w C (M.clear C).2 false X (I (M.clear C).1)):=by
 have aI:∀ (fn:Fn) (first cap:Array Value) (w:World),(Instr.makeFunc fn first cap).run prog w=.ok (.func fn first cap) w:=λ _ _ _ _=>rfl
 have aJ:∀ (a b c d e:Value) (w:World),(Instr.field 53 (.agg #[a,b,c,d,e]) 4).run prog w=.ok e w:=λ a b c d e w=>by kernel_rfl
 have aK:=al2
 obtain ⟨aL,ag,ah,aB,ai,a9,p0,hS⟩:=ad6 hp hT
 rw [h0] at hS
 have aC:=(hT.notF ad).1
 have aj:w.heap.size∉C.F:=(a9.notF (.inr (aEK _))).1
 unfold errO at *
 have hL:∀ W,AaA NoF (w.alloc (.cells #[I 0] 63 (0,0))) W->Calls prog 86 #[↑C.t] W λ e w'=>e=U (.agg #[I C.G.lg,I (3+C.G.lg:Nat),I C.G.blocks,I C.G.n,I (2+C.G.n / 4:Nat)])/\AaA NoF W w':=λ W x=>ag9 (a9.quiet x (λ _ f=>f.elim))
 obtain ⟨r,hr⟩:∃ r,M.clear C=r:=⟨_,rfl⟩
 have hr0:=hr
 rw [hr0] at a8
 unfold TxM.clear at hr
 generalize 2+C.G.n / 4=dt at hL h4 hr a8
 generalize 3+C.G.lg=v1 at hL
 replace ⟨ad,hX,hb,ag,ah,ai,a9,hS⟩:=yh8 ad hX hb ag ah ai a9 hS;replace ⟨h0,hL,hr,hr0,a8⟩:=yh5 h0 hL hr hr0 a8;clear hp hT aB aC aj
 go_enter_defers Tryz.func35,Tryz.ntmps35
 go_wp2_with (first
  | (go_at_call 85;refine hS.out.mono ?_;rintro e w' ⟨rfl,n,rfl⟩)
  | (go_at_call 84;refine (abX _).mono ?_;rintro e w3 ⟨rfl,rfl⟩))
 have hkW:AaA NoF (w.alloc (.cells #[I 0] 63 (0,0))) (((w.alloc (.cells #[I 0] 63 (0,0))).drewN n).alloc (aaE (aaD 512))):=((AaA.refl NoF _).drewN n).alloc _
 have ak:Blk (((w.alloc (.cells #[I 0] 63 (0,0))).drewN n).alloc (aaE (aaD 512))) (w.heap.size+1) (aaE (abC 0++aaD 0)):=by
  have:=Blk.new ((w.alloc (.cells #[I 0] 63 (0,0))).drewN n) (aaE (aaD 512))
  rw [show ((w.alloc (.cells #[I 0] 63 (0,0))).drewN n).heap.size=w.heap.size+1 from ag.out] at this
  rw [show abC 0++aaD 0=aaD 512 by simp only [abC];exact aE3 _]
  exact this
 replace ⟨hkW,ak⟩:=yh2 hkW ak
 refine (hL.out _ hkW.out).mono ?_
 rintro e w3 ⟨rfl,al⟩
 have am:=al.blk ak.out (λ f=>f)
 have a0:=hkW.out.step al
 have an:=AaA.refl (· = w.heap.size+1) w3
 clear al
 replace ⟨am,a0,an⟩:=yh3 am a0 an
 go_wp2
 go_loopw [4,19] (λ _ c wr=>∃ k,k<=dt/\c=I (k:Nat)/\Blk wr (w.heap.size+1) (aaE (abC k++aaD 0))/\AaA (· = w.heap.size+1) w3 wr) (λ _ c _=>dt - (intOf c).toNat)
 case atStart=>exact ⟨0,by omega,rfl,am.out,an.out⟩
 case round=>
  obtain ⟨k,hk1,rfl,a5,a6⟩:=hrel
  by_cases aD:k<dt
  ·have aE:(k:Int)<(dt:Int):=by omega
   have hq:=at7 k
   have aM:=aw8 k
   have aa:=adC k
   have cb:=ahZ a5 (k / 8) (by omega)
   have fz:=a5.frz (k / 8)
   have aN:=azP (abQ (abC k) (k / 8)) (k % 8) (acN _ _) (by omega)
   have aO:0<=((k / 8:Nat):Int)/\((k / 8:Nat):Int)<(512:Nat):=by have:=h4;omega
   have ao:Blk (wr.setCell ⟨w.heap.size+1,k / 8,none⟩ (.int .u8 (abQ (abC k) (k / 8) ||| 2 ^ (k % 8):Nat))) (w.heap.size+1) (aaE (abC (k+1)++aaD 0)):=an9 a5 _ (by have:=h4;omega) _ (Nat.or_lt_two_pow (n:=8) (acN _ _) (aiR _ (by omega)))
   have ap:AaA (· = w.heap.size+1) w3 (wr.setCell ⟨w.heap.size+1,k / 8,none⟩ (.int .u8 (abQ (abC k) (k / 8) ||| 2 ^ (k % 8):Nat))):=a6.setCell (p:=⟨w.heap.size+1,k / 8,none⟩) (.inl rfl) _
   generalize abQ (abC k) (k / 8)=a at *
   generalize k / 8=q at *
   generalize k % 8=rr at *
   replace ⟨a5,a6,aa,ao,ap⟩:=yh5 a5 a6 aa ao ap
   go_wp2
   go_region
   go_wp2
   exact ⟨⟨k+1,by omega,by go_num,ao.out.drew,ap.out.drew⟩,by simp [intOf];omega⟩
  ·have aE:¬ (k:Int)<(dt:Int):=by omega
   obtain rfl:k=dt:=by omega
   have aF:p≠w.heap.size+1:=by omega
   have p03:wr.cell? ↑p=some ↑C.t:=a6.cellF (a0.out.cellF p0 (λ f=>f)) aF
   have aq:Aa1 wr C M false (λ i=>X i∨i=w.heap.size∨i=w.heap.size+1):=((a9.out.quiet a0.out (λ _ f=>f.elim)).quiet a6 (λ i e=>.inr (by omega))).client (λ i hi=>by
    rcases hi with x|x|x
    ·exact .inl (.inl x)
    ·exact .inl (.inr (by omega))
    ·exact .inl (.inr (by omega)))
   have ar:Blk wr w.heap.size (.cells #[I 0] 63 (0,0)):=a6.blk (a0.out.blk ai.out (λ f=>f)) (by omega)
   have au:AaA (λ i=>i∈C.F∨i=C.t∨i=C.mx) w wr:=((ah.out.step a0.out).mono (λ _ _ f=>f.elim)).trans a6 (λ i hi e=>by omega)
   have av:∀ i,(X i∨i=w.heap.size∨i=w.heap.size+1)->i<wr.heap.size:=λ i hi=>by
    have aP:=a5.lt
    rcases hi with x|x|x
    ·have:=hX.out i x;omega
    ·omega
    ·omega
   have aa:=adC k
   have a4:=asT aq h0.out av 0 (by have:=hb.out;omega) (w.heap.size+1) 0 512 _ (abC k) a5 (.inr (.inr rfl)) (by rw [aEH,aa];omega) (by rw [aER,aE0 aa])
   have aw:=λ (i:Nat) (hi:X i∨i=w.heap.size∨i=w.heap.size+1)=>aq.notF hi
   have ae:∀ W W',AaA (λ i=>i∈C.F∨i=C.t∨i=C.mx) W W'->Blk W w.heap.size (.cells #[I 0] 63 (0,0))->Blk W' w.heap.size (.cells #[I 0] 63 (0,0)):=λ W W' x y=>x.blk y (by
    obtain ⟨a1,a2,a3⟩:=aw w.heap.size (.inr (.inl rfl))
    rintro (z|z|z)
    ·exact a1 z
    ·exact a2 z
    ·exact a3 z)
   have af:∀ W W',AaA (λ i=>i∈C.F∨i=C.t∨i=C.mx) W W'->W.cell? ↑p=some ↑C.t->W'.cell? ↑p=some ↑C.t:=λ W W' x y=>x.cellF y (by
    obtain ⟨a1,a2,a3⟩:=aw p (.inl ad.out)
    rintro (z|z|z)
    ·exact a1 z
    ·exact a2 z
    ·exact a3 z)
   have a7:∀ M2,aaT M2.D C.G.life M2.sp false=0->∀ W W',Aa1 W C M2 false (λ i=>X i∨i=w.heap.size∨i=w.heap.size+1)->wr.heap.size<=W.heap.size->AaA NoF W W'->∀ g2,W.heap.size<=g2->Blk W' g2 (aaE (aaD 512)) ->
     Calls prog 87 #[↑C.t,I 1,.slice ↑g2 512 512] W' (λ e w'=>e=U (I (M2.put C 1 (aaD 512)).1)/\Aa1 w' C (M2.put C 1 (aaD 512)).2 false (λ i=>X i∨i=w.heap.size∨i=w.heap.size+1)/\AaA (λ i=>i∈C.F∨i=C.t∨i=C.mx) W w'):=by
    intro M2 aG W W' aH hsz ax g2 aQ aA
    have hT':Aa1 W' C M2 false (λ i=>(X i∨i=w.heap.size∨i=w.heap.size+1)∨i=g2):=(aH.client (Y:=λ i=>(X i∨i=w.heap.size∨i=w.heap.size+1)∨i=g2) (λ i hi=>by
     rcases hi with x|x
     ·exact .inl x
     ·exact .inr (by omega))).quiet ax (λ _ f=>f.elim)
    have hz:(aaD 512).length=512:=aEW
    have:=asT hT' aG (by
     rintro i (x|x)
     ·have:=av i x;have:=ax.size;omega
     ·have:=aA.lt;omega) 1 hb.out g2 0 512 _ (aaD 512) aA (.inr rfl) (by rw [hz];omega) (by rw [aER];exact aEO (by rw [hz];exact aEK _))
    refine this.mono ?_
    rintro e w' ⟨x1,x2,x3⟩
    exact ⟨x1,x2.client (λ i hi=>.inl (.inl hi)),(ax.mono (λ _ _ f=>f.elim)).step x3⟩
   have ab:(M.put C 0 (abC k)).1=0->aaT (M.put C 0 (abC k)).2.D C.G.life (M.put C 0 (abC k)).2.sp false=0:=λ hz=>by
    unfold TxM.put at hz ⊢
    split at hz<;>rename_i hc
    ·rw [if_pos hc];exact (acU C M 0 false).trans h0.out
    ·rw [if_neg hc]
     split at hz<;>rename_i hc2
     ·cases hz
     ·rw [if_neg hc2];exact (acU C M 0 false).trans h0.out
   have hPost:∀ W,Aa1 W C r.2 false X->AaA (λ i=>i∈C.F∨i=C.t∨i=C.mx) w W->AdI w C (M.clear C).2 false X (I (M.clear C).1) (U (I r.1)) W:=λ W x y=>by
    rw [hr0.out];exact ⟨rfl,x,y⟩
   have ac:=a8.out.1
   have hz2:=a8.out.2
   have hc2:=a7 _ (ab ac)
   rw [if_pos ac] at hr
   have hr':=hr.out
   rw [hr'] at hc2
   replace ⟨ar,au,a4,ae,af,hPost,ac,hc2⟩:=yh8 ar au a4 ae af hPost ac hc2;replace hz2:=hid hz2;clear a5 a6 aq av aw a7 ab hr'
   go_wp2_with (first
    | (go_at_call 87;refine a4.out.mono ?_;rintro e w4 ⟨he,t1,t2⟩;rw [ac.out] at he;subst he;have p4:=af.out _ _ t2 p03;replace ⟨t1,t2⟩:=yh2 t1 t2)
    | (go_at_call 84;refine (abX _).mono ?_;rintro e w3 ⟨rfl,rfl⟩))
   have t1':=t1.out
   have t2':=t2.out
   have hC:∀ W',AaA NoF w4 W'->∀ g2,w4.heap.size<=g2->Blk W' g2 (aaE (aaD 512))->Calls prog 87 #[↑C.t,I 1,.slice (some ⟨g2,0,none⟩) 512 512] W' (λ e w'=>e=U (I r.1) /\
     Blk w' w.heap.size (.cells #[I 0] 63 (0,0))/\Aa1 w' C r.2 false (λ i=>X i∨i=w.heap.size∨i=w.heap.size+1)/\AaA (λ i=>i∈C.F∨i=C.t∨i=C.mx) w w'/\w'.cell? ↑p=some ↑C.t):=λ W' x g2 y z=>by
    refine (hc2.out w4 W' t1' t2'.size x g2 y z).mono ?_
    rintro e w' ⟨x1,x2,x3⟩
    exact ⟨x1,ae.out _ _ x3 (ae.out _ _ t2' ar.out),x2,(au.out.step t2').step x3,af.out _ _ x3 p4⟩
   have ay:AaA NoF w4 (w4.alloc (aaE (aaD 512))).drew:=((AaA.refl _ _).alloc _).drew
   have az:Blk (w4.alloc (aaE (aaD 512))).drew w4.heap.size (aaE (aaD 512)):=(Blk.new w4 _).drew
   have p4d:w4.drew.cell? ↑p=some ↑C.t:=p4
   have p4a:=aaU p4 (aaE (aaD 512))
   have p4b:=aaU p4d (aaE (aaD 512))
   clear t1' t2'
   replace ⟨hC,ay,az⟩:=yh3 hC ay az
   first|go_loud (go_region_with (first
    | (go_at_call 87;refine (hC.out _ ay.out _ (aEK _) az.out).mono ?_;rintro e w5 ⟨rfl,tE,tR,tK,p5⟩;replace ⟨tE,tR,tK⟩:=yh3 tE tR tK)
    | (
      go_at_call 84
      refine (adD _ _ hz2.out).mono ?_
      rintro e w3 ⟨rfl,rfl⟩
      refine ar7 (w0:=w) (by
       replace tE:=tE.out
       replace tR:=tR.out
       replace tK:=tK.out
       refine leaves_cons (f:=82) (args:=#[↑w.heap.size]) (by simp) (by simp [go_sem]) ?_
       refine (amF w.heap.size 0 r.1 _ tE).mono ?_
       rintro e u' w6 ⟨rfl,rfl,t5,t6⟩
       have tT:=tR.quiet t6 (λ i e=>.inr (.inl e))
       have tK2:=tK.trans t6 (λ i hi e=>by omega)
       have tc4:=t5.cell 0
       simp at tc4
       have hQ:=hPost.out _ (tT.client (λ i hi=>.inl (.inl hi))) tK2
       simp [Leaves,settle,results,Tryz.results35,go_sem,tc4]
       exact hQ) ?_)))|fail
   all_goals trivial
end
section
variable {w:World} {m:Nat} {R:RP} {Z:Nat->Prop}
theorem axZ (h:AcP w m R Z) (hd:R.dead=false) (ho:R.op=true):Calls prog 127 #[↑m] w λ e w'=>e=U (I 0)/\AdV w w' m { R with op:=false } Z:=by
 obtain ⟨V,hV⟩:=h
 have hm:=hV.hm
 unfold refO at hm
 have c11:=hm.cell 11
 have c12:=hm.cell 12
 simp at c11 c12
 rw [ho] at c11
 rw [hd] at c12
 have f11:=hm.frz 11
 have hk:AaA (· = m) w (w.setCell ⟨m,11,none⟩ ↑false):=(AaA.refl (· = m) w).setCell (p:=⟨m,11,none⟩) (.inl rfl) _
 have h2:=hV.flag hk R.sp false R.dead (λ e=>by cases e) (by
  have:=hm.setCell 11 ↑false
  simpa [refO] using this)
 have hS:AdV w (w.setCell ⟨m,11,none⟩ ↑false) m { R with op:=false } Z:=⟨⟨V,h2.up λ i hi=>.inl hi⟩,hk.mono λ i _ e=>by rw [e];exact hV.zm⟩
 have hz:=hV.zm
 generalize hR':({ R with op:=false }:RP)=R' at *
 clear h2 hk hV
 replace hS:=hid hS;clear hm hd ho hz hR'
 go_enter Tryz.func127,Tryz.ntmps127
 go_wp2
 go_ret
 exact ⟨rfl,hS.out⟩
end
theorem akQ {w:World} {g n k:Nat} {data rest:List UInt8} (h:Blk w g (aaE (data++rest))) (hl:data.length=n) (hr:rest.length=k) (hm:n+k<=maxLen):Ab5 w 0 (.slice ↑g n (n+k)) data:=by
 subst hl hr
 unfold Ab5
 refine ⟨by simp,.inr ⟨g,data.length+rest.length,((data++rest).map B).toArray,rfl,aEY _,h,by omega,hm,by simp,?_⟩⟩
 simp [List.map_append,List.take_append,B]
section
variable {w w':World} {m:Nat} {R:RP} {V:RefV} {Z Z':Nat->Prop}
def af2 (n:Int):Prop:=n=6∨n=50∨n=60∨n=61
instance (n:Int):Decidable (af2 n):=inferInstanceAs (Decidable (_∨_))
def RP.spoilE (R:RP) (n:Int):Nat:=if R.state=0 then (if af2 n then n.toNat else 1) else R.state
def RP.spoil (R:RP) (n:Int):RP:=if R.state=0 then (if af2 n then { R with sp:=n.toNat } else R) else R
theorem axS (h:AcP w m R Z) (n:Int):Calls prog 140 #[↑m,I n] w λ e w'=>e=U (I (R.spoilE n:Nat))/\AdV w w' m (R.spoil n) Z:=by
 have hS:=aeF h
 have hq:=AdV.quiet h (AaA.refl _ w)
 unfold RP.spoilE RP.spoil
 by_cases hs:R.state=0
 ·rw [if_pos hs,if_pos hs]
  rw [hs] at hS
  by_cases a0:af2 n
  ·rw [if_pos a0,if_pos a0]
   obtain ⟨V,hV⟩:=h
   have hm:=hV.hm
   unfold refO at hm
   have f10:=hm.frz 10
   have c10:=hm.cell 10
   simp at c10
   obtain ⟨k,hk⟩:∃ k:Nat,n=k:=⟨n.toNat,by unfold af2 at a0;omega⟩
   have a1:AaA (· = m) w (w.setCell ⟨m,10,none⟩ (I k)):=(AaA.refl (· = m) w).setCell (p:=⟨m,10,none⟩) (.inl rfl) _
   have h2:=hV.flag a1 k R.op R.dead (λ e=>e) (by
    have:=hm.setCell 10 (I k)
    simpa [refO] using this)
   have hR:AdV w (w.setCell ⟨m,10,none⟩ (I k)) m { R with sp:=k } Z:=⟨⟨V,h2.up λ i hi=>.inl hi⟩,a1.mono λ i _ e=>by rw [e];exact hV.zm⟩
   subst hk
   rw [Int.toNat_natCast]
   generalize ({ R with sp:=k }:RP)=R' at *
   clear h2 a1 hV hq
   unfold af2 at a0
   rcases a0 with hx|hx|hx|hx
   all_goals
    obtain rfl:k=_:=Int.ofNat_inj.1 hx
    replace ⟨hS,hs,hR⟩:=yh3 hS hs hR;clear hm hx
    go_enter Tryz.func140,Tryz.ntmps140
    go_wp2_with (go_at_call 65;refine hS.out.mono ?_;rintro e w1 ⟨rfl,rfl⟩)
    go_ret
    exact ⟨rfl,hR.out⟩
  ·rw [if_neg a0,if_neg a0]
   unfold af2 at a0
   have n1:¬ n=6:=λ e=>a0 (.inl e)
   have n2:¬ n=50:=λ e=>a0 (.inr (.inl e))
   have n3:¬ n=60:=λ e=>a0 (.inr (.inr (.inl e)))
   have n4:¬ n=61:=λ e=>a0 (.inr (.inr (.inr e)))
   have b1:(n != 6)=true:=by simp [n1]
   have b2:(n != 50)=true:=by simp [n2]
   have b3:(n != 60)=true:=by simp [n3]
   have b4:(n != 61)=true:=by simp [n4]
   clear a0
   replace ⟨h,hS,hq,hs⟩:=yh4 h hS hq hs
   go_enter Tryz.func140,Tryz.ntmps140
   go_wp2_with (go_at_call 65;refine hS.out.mono ?_;rintro e w1 ⟨rfl,rfl⟩)
   go_ret
   exact ⟨rfl,hq.out⟩
 ·rw [if_neg hs,if_neg hs]
  have a2:¬ (R.state:Int)=0:=by omega
  generalize R.state=s at *
  replace ⟨hS,hq⟩:=yh2 hS hq;clear h hs
  go_enter Tryz.func140,Tryz.ntmps140
  go_wp2_with (go_at_call 65;refine hS.out.mono ?_;rintro e w1 ⟨rfl,rfl⟩)
  go_ret
  exact ⟨rfl,hq.out⟩
end
def TS.spoilN (T:TS) (n:Int):Nat × TS:=if T.st=0 then (if af2 n then (n.toNat,{ T with sp:=n.toNat }) else (1,T)) else (T.st,T)
theorem TS.spoilN_like (T:TS) (n:Int):T.Like (T.spoilN n).2:=by
 unfold TS.spoilN
 split
 ·split
  ·exact ⟨rfl,rfl,rfl,rfl,rfl⟩
  ·exact .refl T
 ·exact .refl T
section
variable {w w':World} {C:TxC} {T T':TS} {X:Nat->Prop} {p:Nat} {R:RP} {G:Geom}
theorem Aa6.clearA (h:Aa6 w C T X) (hp:Blk w p (ab3 C.t)) (a3:X p):Calls prog 35 #[↑p] w (AdN w C X (T.clear C.G).2 (I ((T.clear C.G).1:Nat))):=by
 by_cases a0:T.st=0->(T.puts 0 (abC C.G.data)).1=0->((T.puts 0 (abC C.G.data)).2.puts 1 (aaD 512)).1=0
 ·exact h.clear hp a3 a0
 ·have hs:T.st=0:=aE7 λ x=>a0 (λ y=>absurd y x)
  have e1:(T.puts 0 (abC C.G.data)).1=0:=aE7 λ x=>a0 (λ _ y=>absurd y x)
  have e2:¬ ((T.puts 0 (abC C.G.data)).2.puts 1 (aaD 512)).1=0:=λ x=>a0 (λ _ _=>x)
  obtain ⟨M,h1,h2⟩:=h.rep
  have hg:=h.geo
  unfold TS.clear
  rw [if_pos hs]
  obtain ⟨a1,a2⟩:=h2.clear (by have:=hg.b1;omega)
  obtain ⟨b1,b2⟩:=h2.puts (b:=0) (by have:=hg.b1;omega) (abC (2+C.G.n / 4))
  obtain ⟨c1,_⟩:=b2.puts (b:=1) (by have:=hg.b1;omega) (aaD 512)
  have a4:(M.put C 0 (abC (2+C.G.n / 4))).1=0:=b1.trans e1
  have:=awI hp a3 h1 (h2.st hs) h.lt (by have:=hg.b1;omega) (by have:=hg.b1;have:=hg.b2;omega) ⟨a4,by
   unfold TxM.clear
   rw [if_pos a4,c1]
   exact e2⟩
  rw [a1] at this
  exact this.mono (AdN.of h a2)
theorem Aa6.spoilN (h:Aa6 w C T X) (n:Int):Calls prog 137 #[↑C.t,I n] w (AdN w C X (T.spoilN n).2 (I ((T.spoilN n).1:Nat))):=by
 obtain ⟨M,h1,h2⟩:=h.rep
 have hS:=anU h1
 rw [h2.stsp] at hS
 have a1:=h1
 obtain ⟨own,xc,y1,y2,y3⟩:=a1
 have hq:∀ m,AdN w C X T (I (T.st:Nat)) (U (I (T.st:Nat))) (w.drewN m):=λ m=>by
  have hk:AaA NoF w (w.drewN m):=(AaA.refl _ w).drewN m
  exact ⟨rfl,h.quiet hk,hk.mono λ _ _ f=>f.elim⟩
 have hq1:∀ m,AdN w C X T (I (1:Nat)) (U (I (1:Nat))) (w.drewN m):=λ m=>by
  have hk:AaA NoF w (w.drewN m):=(AaA.refl _ w).drewN m
  exact ⟨rfl,h.quiet hk,hk.mono λ _ _ f=>f.elim⟩
 unfold TS.spoilN
 by_cases hs:T.st=0
 ·rw [if_pos hs]
  by_cases a0:af2 n
  ·rw [if_pos a0]
   have c2:=y1.ht.cell 2
   simp at c2
   have a2:=λ m=>(y1.ht.drewN m).frz 2
   obtain ⟨k,hk⟩:∃ k:Nat,n=k:=⟨n.toNat,by unfold af2 at a0;omega⟩
   subst hk
   rw [Int.toNat_natCast]
   have hP:∀ m,AdN w C X { T with sp:=k } (I (k:Nat)) (U (I (k:Nat))) ((w.drewN m).setCell ⟨C.t,2,none⟩ (I (k:Nat))):=λ m=>by
    have h3:=h1.spoilt m k
    have kk:AaA (λ i=>i=C.t) w ((w.drewN m).setCell ⟨C.t,2,none⟩ (I (k:Nat))):=((AaA.refl (λ i=>i=C.t) w).drewN m).setCell (p:=⟨C.t,2,none⟩) (.inl rfl) _
    exact ⟨rfl,⟨⟨_,h3,h2.spoil k⟩,λ i hi=>aEJ (h.lt i hi) kk.size,h.geo⟩,kk.mono λ i _ e=>.inr (.inl e)⟩
   rw [hs] at hS
   generalize AdN w C X { T with sp:=k } (I (k:Nat))=Post at *
   unfold af2 at a0
   clear hq hq1 y2 y3 hs
   rcases a0 with hx|hx|hx|hx
   all_goals
    obtain rfl:k=_:=Int.ofNat_inj.1 hx
    replace ⟨h,h1,h2,hS,hP,y1⟩:=yh6 h h1 h2 hS hP y1;clear hx
    go_enter Tryz.func137,Tryz.ntmps137
    go_wp2_with (go_at_call 85;refine hS.out.mono ?_;rintro e w' ⟨rfl,m,rfl⟩;have a3:=a2 m)
    exact hP.out _
  ·rw [if_neg a0]
   unfold af2 at a0
   have n1:¬ n=6:=λ e=>a0 (.inl e)
   have n2:¬ n=50:=λ e=>a0 (.inr (.inl e))
   have n3:¬ n=60:=λ e=>a0 (.inr (.inr (.inl e)))
   have n4:¬ n=61:=λ e=>a0 (.inr (.inr (.inr e)))
   rw [hs] at hS
   generalize AdN w C X T (I (1:Nat))=Post at *
   clear a0 hq y2 y3 hs
   replace ⟨h,h1,h2,hS,hq1,y1⟩:=yh6 h h1 h2 hS hq1 y1
   go_enter Tryz.func137,Tryz.ntmps137
   go_wp2_with (go_at_call 85;refine hS.out.mono ?_;rintro e w' ⟨rfl,m,rfl⟩)
   exact hq1.out _
 ·rw [if_neg hs]
  have a4:¬ (T.st:Int)=0:=by omega
  generalize AdN w C X T (I (T.st:Nat))=Post at *
  generalize T.st=s at *
  clear hq1 y2 y3 hs
  replace ⟨hS,hq⟩:=yh2 hS hq;clear h h1 h2 y1
  go_enter Tryz.func137,Tryz.ntmps137
  go_wp2_with (go_at_call 85;refine hS.out.mono ?_;rintro e w' ⟨rfl,m,rfl⟩)
  exact hq.out _
theorem Same.spoil (h:Same R T G) (n:Int):R.spoilE n=(T.spoilN n).1/\Same (R.spoil n) (T.spoilN n).2 G:=by
 unfold RP.spoilE RP.spoil TS.spoilN
 rw [h.state]
 by_cases hs:T.st=0
 ·simp only [if_pos hs]
  by_cases hn:af2 n
  ·simp only [if_pos hn]
   exact ⟨trivial,h.nb,h.nn,h.raw,h.rl,h.put,rfl,h.op,h.dead,h.data,h.blocks,h.nodes,h.od⟩
  ·simp only [if_neg hn]
   exact ⟨trivial,h⟩
 ·simp only [if_neg hs]
  exact ⟨trivial,h⟩
end
end Go.Vk
namespace Go.Vk
structure Nd where
 kind:Int
 links:Int
 parent:Int
 size:Int
 owned:Int
 ptr:List Int
def Nd.zero:Nd:=⟨0,0,0,0,0,List.replicate 12 0⟩
instance:DecidableEq Nd:=λ a b=>by
 cases a;cases b
 rw [Nd.mk.injEq]
 exact inferInstance
structure NdIn (n:Nd):Prop where
 k:1<=n.kind/\n.kind<=3
 l:0<=n.links/\n.links<=64
 s:0<=n.size/\n.size<=8459264
 o:0<=n.owned/\n.owned<=2048
 d:n.kind=2->1<=n.parent/\n.parent<=1024
 p:n.kind≠2->n.parent=0
 q:∀ x∈n.ptr,0<=x/\x<=2047
def Ac4 (n:Nd):Prop:=n=Nd.zero∨NdIn n
def ab7 (n:Nd):List UInt8:=aaB n.kind.toNat 2++aaB n.links.toNat 2++aaB n.parent.toNat 4++aaB n.size.toNat 8++aaB n.owned.toNat 8++n.ptr.flatMap (λ p=>aaB p.toNat 4)++aaD 52
def encN (n:Nd):List UInt8:=if n.kind=0 then aaD 128 else ab7 n++aaB (crc (ab7 n)) 4
def fld (bs:List UInt8) (at_ n:Nat):Nat:=abH ((bs.drop at_).take n)
def decN (bs:List UInt8):Nd:=⟨fld bs 0 2,fld bs 2 2,fld bs 4 4,fld bs 8 8,fld bs 16 8,(List.range 12).map λ i=>((fld bs (24+4*i) 4:Nat):Int)⟩
def AcM (bs:List UInt8):Prop:=Ac4 (decN bs)/\encN (decN bs)=bs
theorem amB (l:List Int):(l.flatMap λ p=>aaB p.toNat 4).length=4*l.length:=by
 induction l with
 | nil=>rfl
 | cons a l ih=>rw [List.flatMap_cons,aEH,ih,aaC,List.length_cons];omega
theorem akE (n:Nd) (h:n.ptr.length=12):(ab7 n).length=124:=by
 unfold ab7
 simp only [aEH,aaC,amB,h,aaF]
theorem aeJ (n:Nd) (h:n.ptr.length=12):(encN n).length=128:=by
 unfold encN
 split
 ·exact aaF 128
 ·rw [aEH,akE n h,aaC]
theorem abZ (bs:List UInt8):(decN bs).ptr.length=12:=by simp [decN]
theorem akM {a b c:List UInt8} {at_ n:Nat} (ha:a.length=at_) (hb:b.length=n):fld (a++b++c) at_ n=abH b:=by
 unfold fld
 rw [aEQ,← ha,List.drop_left,← hb,List.take_left]
theorem aiA (v:Int) (n:Nat) (h0:0<=v) (h:v<((2 ^ (8*n):Nat):Int)):((abH (aaB v.toNat n):Nat):Int)=v:=by
 rw [acZ _ _ (by omega)];omega
theorem ayU (l:List Int):∀ (pre post:List UInt8) (i:Nat) (hi:i<l.length),(∀ x∈l,0<=x/\x<=2047)->((fld (pre++(l.flatMap λ p=>aaB p.toNat 4)++post) (pre.length+4*i) 4:Nat):Int)=l[i]:=by
 induction l with
 | nil=>intro pre post i hi;cases hi
 | cons a l ih=>
  intro pre post i hi hq
  rw [List.flatMap_cons]
  match i,hi with
  | 0,_=>
   have e:pre++(aaB a.toNat 4++l.flatMap λ p=>aaB p.toNat 4)++post=pre++aaB a.toNat 4++((l.flatMap λ p=>aaB p.toNat 4)++post):=by simp [aEQ]
   rw [e,akM (by omega) (aaC _ _)]
   have:=hq a (by simp)
   exact aiA a 4 this.1 (by simp;omega)
  | i+1,hi=>
   have e:pre++(aaB a.toNat 4++l.flatMap λ p=>aaB p.toNat 4)++post=(pre++aaB a.toNat 4)++(l.flatMap λ p=>aaB p.toNat 4)++post:=by simp [aEQ]
   have hl:pre.length+4*(i+1)=(pre++aaB a.toNat 4).length+4*i:=by rw [aEH,aaC];omega
   rw [e,hl,ih (pre++aaB a.toNat 4) post i (by simpa using hi) (λ x hx=>hq x (by simp [hx]))]
   rfl
theorem awD:decN (aaD 128)=Nd.zero:=by
 have h:∀ at_ n,fld (aaD 128) at_ n=0:=λ at_ n=>by
  unfold fld aaD
  rw [List.drop_replicate,List.take_replicate]
  generalize min n (128 - at_)=k
  induction k with
  | zero=>rfl
  | succ k ih=>rw [List.replicate_succ];show (0:UInt8).toNat+256*abH (List.replicate k 0)=0;rw [ih];rfl
 unfold decN Nd.zero
 simp only [h]
 rfl
theorem NdIn.pos {n:Nd} (h:NdIn n):n.kind≠0:=by have:=h.k;omega
theorem an7 (n:Nd) (hl:n.ptr.length=12) (h:Ac4 n):decN (encN n)=n:=by
 rcases h with rfl|h
 ·exact awD
 ·have hk:=h.pos
  have a0:0<=n.parent/\n.parent<=1024:=by
   by_cases e:n.kind=2
   ·have:=h.d e;omega
   ·have:=h.p e;omega
  have hb:encN n=ab7 n++aaB (crc (ab7 n)) 4:=by unfold encN;rw [if_neg hk]
  rw [hb]
  generalize aaB (crc (ab7 n)) 4=c
  obtain ⟨k,l,p,s,o,q⟩:=n
  obtain ⟨h1,h2,h3,h4,_,_,h7⟩:=h
  dsimp only at h1 h2 h3 h4 h7 hl a0
  have e0:((fld (ab7 ⟨k,l,p,s,o,q⟩++c) 0 2:Nat):Int)=k:=by
   have e:ab7 ⟨k,l,p,s,o,q⟩++c=[]++aaB k.toNat 2++(aaB l.toNat 2++aaB p.toNat 4++aaB s.toNat 8++aaB o.toNat 8++q.flatMap (λ p=>aaB p.toNat 4)++aaD 52++c):=by simp [ab7,aEQ]
   rw [e,akM (at_:=0) (n:=2) (a:=[]) rfl (aaC _ _)]
   exact aiA _ _ (by omega) (by simp;omega)
  have e1:((fld (ab7 ⟨k,l,p,s,o,q⟩++c) 2 2:Nat):Int)=l:=by
   have e:ab7 ⟨k,l,p,s,o,q⟩++c=aaB k.toNat 2++aaB l.toNat 2++(aaB p.toNat 4++aaB s.toNat 8++aaB o.toNat 8++q.flatMap (λ p=>aaB p.toNat 4)++aaD 52++c):=by simp [ab7,aEQ]
   rw [e,akM (aaC _ _) (aaC _ _)]
   exact aiA _ _ (by omega) (by simp;omega)
  have e2:((fld (ab7 ⟨k,l,p,s,o,q⟩++c) 4 4:Nat):Int)=p:=by
   have e:ab7 ⟨k,l,p,s,o,q⟩++c=(aaB k.toNat 2++aaB l.toNat 2)++aaB p.toNat 4++(aaB s.toNat 8++aaB o.toNat 8++q.flatMap (λ p=>aaB p.toNat 4)++aaD 52++c):=by simp [ab7,aEQ]
   rw [e,akM (by simp [aaC]) (aaC _ _)]
   exact aiA _ _ (by omega) (by simp;omega)
  have e3:((fld (ab7 ⟨k,l,p,s,o,q⟩++c) 8 8:Nat):Int)=s:=by
   have e:ab7 ⟨k,l,p,s,o,q⟩++c=(aaB k.toNat 2++aaB l.toNat 2++aaB p.toNat 4)++aaB s.toNat 8++(aaB o.toNat 8++q.flatMap (λ p=>aaB p.toNat 4)++aaD 52++c):=by simp [ab7,aEQ]
   rw [e,akM (by simp [aaC]) (aaC _ _)]
   exact aiA _ _ (by omega) (by simp;omega)
  have e4:((fld (ab7 ⟨k,l,p,s,o,q⟩++c) 16 8:Nat):Int)=o:=by
   have e:ab7 ⟨k,l,p,s,o,q⟩++c=(aaB k.toNat 2++aaB l.toNat 2++aaB p.toNat 4++aaB s.toNat 8)++aaB o.toNat 8++(q.flatMap (λ p=>aaB p.toNat 4)++aaD 52++c):=by simp [ab7,aEQ]
   rw [e,akM (by simp [aaC]) (aaC _ _)]
   exact aiA _ _ (by omega) (by simp;omega)
  have e5:(List.range 12).map (λ i=>((fld (ab7 ⟨k,l,p,s,o,q⟩++c) (24+4*i) 4:Nat):Int))=q:=by
   have e:ab7 ⟨k,l,p,s,o,q⟩++c=(aaB k.toNat 2++aaB l.toNat 2++aaB p.toNat 4++aaB s.toNat 8++aaB o.toNat 8)++q.flatMap (λ p=>aaB p.toNat 4)++(aaD 52++c):=by simp [ab7,aEQ]
   have hp:(aaB k.toNat 2++aaB l.toNat 2++aaB p.toNat 4++aaB s.toNat 8++aaB o.toNat 8).length=24:=by simp [aaC]
   refine List.ext_getElem (by simp [hl]) λ i a2 a1=>?_
   rw [List.getElem_map,List.getElem_range,e,← hp]
   exact ayU q _ _ i a1 h7
  unfold decN
  rw [e0,e1,e2,e3,e4,e5]
theorem aB4 {n:Nd} (hl:n.ptr.length=12) (h:Ac4 n):AcM (encN n):=⟨by rw [an7 n hl h];exact h,by rw [an7 n hl h]⟩
theorem akD {bs:List UInt8}:AcM bs↔∃ n:Nd,n.ptr.length=12/\Ac4 n/\encN n=bs:=
 ⟨λ h=>⟨decN bs,abZ bs,h.1,h.2⟩,λ ⟨n,h1,h2,h3⟩=>h3 ▸ aB4 h1 h2⟩
instance (n:Nd):Decidable (NdIn n):=
 decidable_of_iff ((1<=n.kind/\n.kind<=3)/\(0<=n.links/\n.links<=64)/\(0<=n.size/\n.size<=8459264)/\(0<=n.owned/\n.owned<=2048)/\(n.kind=2->1<=n.parent/\n.parent<=1024)/\(n.kind≠2->n.parent=0)/\(∀ x∈n.ptr,0<=x/\x<=2047))
  ⟨λ ⟨a,b,c,d,e,f,g⟩=>⟨a,b,c,d,e,f,g⟩,λ ⟨a,b,c,d,e,f,g⟩=>⟨a,b,c,d,e,f,g⟩⟩
instance (n:Nd):Decidable (Ac4 n):=inferInstanceAs (Decidable (_∨_))
instance (bs:List UInt8):Decidable (AcM bs):=inferInstanceAs (Decidable (_/\_))
end Go.Vk
