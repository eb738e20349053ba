/- Part of the proof: Se1 Se2 Se3 Eq Cw2 Cw4. -/
import Derived.Test.YtjeelghnmkefcaaGreatQ02
import Derived.Test.YtjeelghnmkefcaaGreatQ04
import Derived.Deep.RegionHeld3
import Derived.Deep.CutRange
import Derived.ChangeKeysEq
import Derived.Laws.Cover3
set_option linter.unusedVariables false
set_option maxHeartbeats 16000000
set_option maxRecDepth 100000
namespace Go.Vk
open Go.RowKit Go.Proofs
open Tryz (prog)
theorem afV {w:World} {b:Nat} {T:TypeId} {bs:List UInt8} (h:Blk w b (aa2 T bs)) (i:Nat) (hi:i<bs.length):∃ v,w.cell? ⟨b,i,none⟩=some v:=⟨_,adQ h i hi⟩
theorem azZ:Tryz.zeroCells276=((aaD 512).map B).toArray:=by kernel_rfl
theorem azA (w:World):(Instr.alloc 276 true (.tuple #[])).run prog w=.ok ↑w.heap.size (w.alloc (aa2 276 (aaD 512))):=by kernel_rfl
theorem amX:prog.underlying 276=some (.array 512 5):=by kernel_rfl
theorem aiQ:(prog.info? 276).map (·.size)=some 512:=by kernel_rfl
def aeO (t:UInt8) (body:List UInt8):List UInt8:=
 lay (((((aaD 512).set 0 t).set 511 t).set 1 (UInt8.ofNat body.length)).set 2 (UInt8.ofNat (body.length / 256))) 7 (body.take 504)
def layB (t:UInt8) (body:List UInt8):List UInt8:=
 lay (aeO t body) 3 (aaB (crc (((aeO t body).drop 1).take 2++((aeO t body).drop 7).take 504)) 4)
theorem azH (w:World) (t:UInt8) (g off c:Nat) (T:TypeId) (src:List UInt8) (hg:Blk w g (aa2 T src)) (n:Nat) (hlen:off+n<=src.length) (hn:n<=504) :
  Calls prog 249 #[B t,.slice (some ⟨g,off,none⟩) n c] w λ e w'=>e=U (.agg (((layB t ((src.drop off).take n)).map B).toArray))/\AaA NoF w w':=by
 obtain ⟨i5,aw,ax,hs5,a8⟩:=info_parts ak7
 replace ⟨hg,aw,ax,hs5,a8⟩:=yh5 hg aw ax hs5 a8
 unfold B
 go_enter Tryz.func249,Tryz.ntmps249
 go_upto_region 2 with fail
 have a5:=(Blk.new w (.cells Tryz.zeroCells276 276 (0,0))).alloc (.cells Tryz.zeroCells276 276 (0,0))
 have a0:=Blk.new (w.alloc (.cells Tryz.zeroCells276 276 (0,0))) (.cells Tryz.zeroCells276 276 (0,0))
 have hg1:=(hg.out.alloc (.cells Tryz.zeroCells276 276 (0,0))).alloc (.cells Tryz.zeroCells276 276 (0,0))
 have hk1:=((AaA.refl NoF w).alloc (.cells Tryz.zeroCells276 276 (0,0))).alloc (.cells Tryz.zeroCells276 276 (0,0))
 have hlt:=hg.out.lt
 simp only [aEI] at a0
 generalize (w.alloc (.cells Tryz.zeroCells276 276 (0,0))).alloc (.cells Tryz.zeroCells276 276 (0,0))=w1 at a5 a0 hg1 hk1 ⊢
 rw [azZ] at a5 a0
 replace a5:Blk w1 _ (aa2 276 (aaD 512)):=a5
 replace a0:Blk w1 _ (aa2 276 (aaD 512)):=a0
 have hF:∀ i,i=w.heap.size+1->w.heap.size<=i:=by intro i hi;omega
 have aj:∀ i,i=w.heap.size->w.heap.size<=i:=by intro i hi;omega
 have af:g≠w.heap.size+1:=by omega
 have a9:w.heap.size≠w.heap.size+1:=by omega
 generalize w.heap.size+1=bb at a0 hF af a9 ⊢
 generalize a1:w.heap.size=rb at a5 hF aj hlt a9 ⊢
 have hz:=aaF 512
 obtain ⟨v0,c0⟩:=afV a0 0 (by omega)
 obtain ⟨v1,c1⟩:=afV a0 1 (by omega)
 obtain ⟨v2,c2⟩:=afV a0 2 (by omega)
 obtain ⟨v511,c511⟩:=afV a0 511 (by omega)
 have cf:=a0.frz
 replace ⟨a5,a0,hg1,hk1,hF,aj,a1⟩:=yh7 a5 a0 hg1 hk1 hF aj a1;clear hlt
 go_upto_region 4 with fail
 have aa:((src.drop off).take n).length=n:=by simp;omega
 have f1:Value.int .u8 ((n:Int) % 256)=B (UInt8.ofNat n):=by simp [B]
 have f2:Value.int .u8 ((n:Int) / 256)=B (UInt8.ofNat (n / 256)):=by
  unfold B
  rw [UInt8.toNat_ofNat',Nat.mod_eq_of_lt (by omega)];simp
 rw [f1,f2]
 have ab:=(((a0.out.setCell 0 (B t)).setCell 511 (B t)).setCell 1 (B (UInt8.ofNat n))).setCell 2 (B (UInt8.ofNat (n / 256)))
 have ag:=(((hg1.out.setCell_ne (p:=⟨bb,0,none⟩) af (B t)).setCell_ne (p:=⟨bb,511,none⟩) af (B t)).setCell_ne (p:=⟨bb,1,none⟩) af (B (UInt8.ofNat n))).setCell_ne (p:=⟨bb,2,none⟩) af (B (UInt8.ofNat (n / 256)))
 have ah:=(((a5.out.setCell_ne (p:=⟨bb,0,none⟩) a9 (B t)).setCell_ne (p:=⟨bb,511,none⟩) a9 (B t)).setCell_ne (p:=⟨bb,1,none⟩) a9 (B (UInt8.ofNat n))).setCell_ne (p:=⟨bb,2,none⟩) a9 (B (UInt8.ofNat (n / 256)))
 have ai:∀ i,w.heap.size<=(⟨bb,i,none⟩:Addr).block:=by intro i;have:=hF.out bb rfl;rw [a1.out];exact this
 have hk2:=(((hk1.out.setCell (p:=⟨bb,0,none⟩) (.inr (ai _)) (B t)).setCell (p:=⟨bb,511,none⟩) (.inr (ai _)) (B t)).setCell (p:=⟨bb,1,none⟩) (.inr (ai _)) (B (UInt8.ofNat n))).setCell (p:=⟨bb,2,none⟩) (.inr (ai _)) (B (UInt8.ofNat (n / 256)))
 have e2:Obj.cells ((((((aaD 512).map B).toArray.setIfInBounds 0 (B t)).setIfInBounds 511 (B t)).setIfInBounds 1 (B (UInt8.ofNat n))).setIfInBounds 2 (B (UInt8.ofNat (n / 256)))) 276 (0,0)=aa2 276 (((((aaD 512).set 0 t).set 511 t).set 1 (UInt8.ofNat n)).set 2 (UInt8.ofNat (n / 256))):=by
  simp only [aa2,List.setIfInBounds_toArray,List.map_set]
 replace ab:Blk _ bb _:=e2 ▸ ab
 have e3:((((w1.setCell ↑bb (B t)).setCell ⟨bb,511,none⟩ (B t)).setCell ⟨bb,1,none⟩ (B (UInt8.ofNat n))).setCell ⟨bb,2,none⟩ (B (UInt8.ofNat (n / 256))))=((((w1.setCell ↑bb (Value.int .u8 t.toNat)).setCell ⟨bb,511,none⟩ (Value.int .u8 t.toNat)).setCell ⟨bb,1,none⟩ (B (UInt8.ofNat n))).setCell ⟨bb,2,none⟩ (B (UInt8.ofNat (n / 256)))):=rfl
 rw [← e3]
 generalize ((((w1.setCell ↑bb (B t)).setCell ⟨bb,511,none⟩ (B t)).setCell ⟨bb,1,none⟩ (B (UInt8.ofNat n))).setCell ⟨bb,2,none⟩ (B (UInt8.ofNat (n / 256))))=w2 at ab ag ah hk2 ⊢
 have ac:(((((aaD 512).set 0 t).set 511 t).set 1 (UInt8.ofNat n)).set 2 (UInt8.ofNat (n / 256))).length=512:=by simp only [aEV,aaF]
 have ad:aeO t ((src.drop off).take n)=lay (((((aaD 512).set 0 t).set 511 t).set 1 (UInt8.ofNat n)).set 2 (UInt8.ofNat (n / 256))) 7 ((src.drop off).take n):=by
  unfold aeO
  rw [aa,aEO (by omega)]
 generalize ((((aaD 512).set 0 t).set 511 t).set 1 (UInt8.ofNat n)).set 2 (UInt8.ofNat (n / 256))=row0 at ab ac ad
 clear c0 c1 c2 c511 cf a5 a0 hg1 hk1 f1 f2 e2 e3 ai hz
 clear w1
 replace ⟨ab,ag,ah,hk2,ac,ad⟩:=yh6 ab ag ah hk2 ac ad
 go_step
 iterate 2 (refine aaR rfl _ _ (by go_simp;exact ⟨rfl,rfl⟩) ?_;simp only [wz])
 refine ae4 rfl (.tmp 21) (.tmp 22) 40 40 rfl 5 afL amP 276 T bb 7 504 505 g off n c rfl rfl row0 src ab.out ag.out (by rw [ac.out];decide) hlen ?_
 intro w3 a2 k3 hs3
 rw [show Nat.min n 504=n from Nat.min_eq_left hn] at a2 ⊢
 rw [← ad.out] at a2
 have ak:=k3.blk ah.out a9
 have al:=hk2.out.fresh k3 (by intro i hi;rw [a1.out];exact hF.out i hi)
 have a6:(aeO t ((src.drop off).take n)).length=512:=by rw [ad.out,ab6 (by rw [aa,ac.out];omega),ac.out]
 have hB:layB t ((src.drop off).take n)=lay (aeO t ((src.drop off).take n)) 3 (aaB (crc (((aeO t ((src.drop off).take n)).drop 1).take 2++((aeO t ((src.drop off).take n)).drop 7).take 504)) 4):=rfl
 generalize hRow:layB t ((src.drop off).take n)=row2 at hB
 replace hRow:=hid hRow
 generalize aeO t ((src.drop off).take n)=row1 at a2 a6 hB
 have aD:=awF ((row1.drop 1).take 2++(row1.drop 7).take 504)
 generalize am:crc ((row1.drop 1).take 2++(row1.drop 7).take 504)=cs at hB aD
 clear hs3 k3 ab ag ah hk2 ac ad
 clear w2
 clear row0
 replace ⟨a2,ak,al,a6,hB,am⟩:=yh6 a2 ak al a6 hB am
 have ay:((row1.drop 1).take 2++(row1.drop 7).take 504).length=506:=by simp [a6.out]
 have an:∀ k,0+506<=((row1.drop 1).take 2++(row1.drop 7).take 504++aaD k).length:=by intro k;rw [aEH,ay];omega
 have ao:∀ k,((row1.drop 1).take 2++(row1.drop 7).take 504++aaD k).take 506=(row1.drop 1).take 2++(row1.drop 7).take 504:=by intro k;rw [← ay];exact List.take_left
 clear ay
 replace ⟨an,ao⟩:=yh2 an ao
 go_upto_region 5 with fail
 go_region_held3 (λ _=>True) (trivial) (first
  | ((fail_if_success (clear a3));rw [if_pos (by rfl)];refine amW (.tmp 24) (.tmp 25) 40 rfl 5 i5 afL rfl aw.out ax.out hs5.out a8.out 276 276 bb 1 2 2 bb 7 504 505 rfl rfl row1 row1 (by first|exact a2.out|exact a2.out.drew) (by first|exact a2.out|exact a2.out.drew) (by rw [a6.out];decide) (by rw [a6.out];decide) (by decide) (by decide) (by decide) ?_;intro cap k w5 az a3 k5 aA;clear az;have a8:=k5.blk a2.out.drew (λ f=>f);have ap:=k5.blk ak.out.drew (λ f=>f);have hk5:=al.out.drew.step k5;replace ⟨a8,ap,hk5,a3⟩:=yh4 a8 ap hk5 a3;clear k5 aA)
  | (go_at_call 229;refine (aCU _ _ 0 cap _ a3.out 506 (an.out k) (by decide)).mono ?_;rintro e w6 ⟨rfl,k6⟩;rw [aER,ao.out,am.out];have aq:=k6.blk a8.out (λ f=>f);have ar:=k6.blk ap.out (λ f=>f);have au:=hk5.out.step k6;replace ⟨aq,ar,au⟩:=yh3 aq ar au;clear k6 a8 ap hk5 a3))
 clear a2 ak al an ao am
 go_wp2
 go_loopw [7,28] (λ _ i wr=>∃ k:Nat,k<=4/\i=I k/\Blk wr bb (aa2 276 (lay row1 3 (aaB cs k)))/\Blk wr rb (aa2 276 (aaD 512))/\AaA NoF w wr) (λ _ i _=>4 - (intOf i).toNat)
 case atStart=>exact ⟨0,by omega,rfl,by simpa [aaB,lay] using aq.out,ar.out,au.out⟩
 case round=>
  obtain ⟨j,hj,rfl,a7,ae,hk7⟩:=hrel
  clear aq ar au
  have a4:(lay row1 3 (aaB cs j)).length=512:=by rw [ab6 (by rw [aaC,a6.out];omega),a6.out]
  by_cases aE:j<4
  ·obtain ⟨v,hc⟩:=afV a7 (3+j) (by omega)
   have hz:=a7.frz
   replace ⟨a7,ae,hk7,a4⟩:=yh4 a7 ae hk7 a4
   go_wp2
   have aF:Value.int .u8 ((cs:Int) / 2 ^ (8*j) % 256)=B (aa9 cs j):=by
    unfold B
    rw [abU];simp
   rw [aF]
   have aC:=a7.out.setCell (3+j) (B (aa9 cs j))
   rw [akP,← aiB cs j (by rw [a6.out];omega)] at aC
   have aG:=ae.out.setCell_ne (p:=⟨bb,3+j,none⟩) a9 (B (aa9 cs j))
   have aH:=hk7.out.setCell (p:=⟨bb,3+j,none⟩) (.inr (by rw [a1.out];exact hF.out bb rfl)) (B (aa9 cs j))
   refine ⟨⟨j+1,by omega,by go_num,aC,aG,aH⟩,?_⟩
   simp [intOf];omega
  ·obtain rfl:j=4:=by omega
   rw [← hB.out] at a7 a4
   replace ⟨a7,ae,hk7,a4⟩:=yh4 a7 ae hk7 a4
   go_upto_region 11 with fail
   go_step
   refine aaN rfl 276 (.tmp 5) rfl bb 0 276 (row2.map B) 512 _ rfl a7.out (by rw [abL,a4.out];decide) amX rfl aiQ ?_
   rw [aER,aEO (by rw [abL,a4.out];decide)]
   refine aaL rfl 276 (.tmp 4) (.tmp 40) rfl rb 0 276 ((aaD 512).map B) (row2.map B) rfl rfl ae.out (by rw [abL,abL,a4.out,aaF];decide) (by rw [abL,a4.out];exact aiQ) (Ap3 _) ?_
   intro w9 av k9 aI
   rw [aa4 (by rw [abL,abL,a4.out,aaF])] at av
   have aB:=hk7.out.fresh k9 (by intro i hi;rw [a1.out];exact aj.out i hi)
   clear aI k9
   replace ⟨av,aB⟩:=yh2 av aB
   go_wp2
   exact bodyPost_ret (v:=.agg (row2.map B).toArray) (afO rfl _ _ rb 276 (row2.map B) _ rfl av.out amX rfl (by rw [abL,a4.out];exact aiQ)) rfl ⟨by rw [← hRow.out];rfl,aB.out⟩
def agK (a b:UInt8):UInt8:=if a.toNat≠0/\b.toNat≠0 then 0 else if a.toNat≠1/\b.toNat≠1 then 1 else if a.toNat≠2/\b.toNat≠2 then 2 else 3
theorem az6 (a b:UInt8) (k:Nat) (hk:k<3) (h:∀ m,m<k->¬ (a.toNat≠m/\b.toNat≠m)) (hf:a.toNat≠k/\b.toNat≠k):B (agK a b)=.int .u8 k:=by
 have:k=0∨k=1∨k=2:=by omega
 unfold agK
 rcases this with rfl|rfl|rfl
 ·rw [if_pos hf];rfl
 ·rw [if_neg (h 0 (by omega)),if_pos hf];rfl
 ·rw [if_neg (h 0 (by omega)),if_neg (h 1 (by omega)),if_pos hf];rfl
theorem atY {a b:UInt8} (h:∀ m,m<3->¬ (a.toNat≠m/\b.toNat≠m)):B (agK a b)=.int .u8 3:=by
 unfold agK
 rw [if_neg (h 0 (by omega)),if_neg (h 1 (by omega)),if_neg (h 2 (by omega))];rfl
theorem aCM (w:World) (a b:UInt8):Calls prog 250 #[B a,B b] w λ e w'=>e=U (B (agK a b))/\w'=w:=by
 have a0:=az6 a b
 have a1:=@atY a b
 generalize B (agK a b)=R at a0 a1 ⊢
 unfold B
 generalize a.toNat=x at a0 a1 ⊢
 generalize b.toNat=y at a0 a1 ⊢
 replace ⟨a0,a1⟩:=yh2 a0 a1
 go_enter Tryz.func250,Tryz.ntmps250
 go_wp2
 go_loop [6] (λ i=>∃ k:Nat,k<=3/\i=.int .u8 k/\Hid (∀ m,m<k->¬ (x≠m/\y≠m))) (λ i=>3 - (intOf i).toNat)
 case atStart=>exact ⟨0,by omega,rfl,λ m hm=>by omega⟩
 case round=>
  obtain ⟨k,hk,rfl,hm⟩:=hrel
  by_cases hlt:k<3
  ·by_cases h1:x=k
   ·have a2:Hid (∀ m,m<k+1->¬ (x≠m/\y≠m)):=λ m h=>by
     by_cases e:m=k
     ·subst e;omega
     ·exact hm m (by omega)
    subst h1
    go_wp2
    exact ⟨⟨x+1,by omega,by go_num,a2⟩,by simp [intOf];omega⟩
   ·by_cases h2:y=k
    ·have a2:Hid (∀ m,m<k+1->¬ (x≠m/\y≠m)):=λ m h=>by
      by_cases e:m=k
      ·subst e;omega
      ·exact hm m (by omega)
     subst h2
     have e1:((y:Int) != (x:Int))=true:=by simp;omega
     go_wp2
     exact ⟨⟨y+1,by omega,by go_num,a2⟩,by simp [intOf];omega⟩
    ·have hR:=a0.out k hlt hm.out ⟨h1,h2⟩
     have e1:((k:Int) != (x:Int))=true:=by simp;omega
     have e2:((k:Int) != (y:Int))=true:=by simp;omega
     replace hR:=hid hR
     go_wp2
     go_ret
     exact ⟨by rw [hR.out];rfl,rfl⟩
  ·obtain rfl:k=3:=by omega
   have hR:=a1.out hm.out
   replace hR:=hid hR
   go_wp2
   go_ret
   exact ⟨by rw [hR.out];rfl,rfl⟩
theorem AaA.cell {w w':World} (k:AaA NoF w w') {a:Addr} {v:Value} (h:w.cell? a=some v):w'.cell? a=some v:=by
 have hb:=World.block_lt_of_cell? w a h
 have:=k.block a.block hb (λ f=>f)
 unfold World.cell? at *
 rw [this];exact h
theorem AaA.there {w w':World} (k:AaA NoF w w') {b n:Nat} (hn:0<n) (h:w.there b 0 n):w'.there b 0 n:=by
 have h0:=(h 0 hn).1
 obtain ⟨v,hv⟩:=Option.isSome_iff_exists.1 h0
 have hb:=World.block_lt_of_cell? w _ hv
 have he:=k.block b hb (λ f=>f)
 intro j hj
 have:=h j hj
 unfold World.cell? World.frozen? at *
 dsimp only at *
 rw [he];exact this
theorem ahC {K:Act->World->Prop} {Q:Exit->Act->World->Prop} {e:Exit} {a:Act} {w:World} (S:World->Prop) (hS:S w) (h:∀ w',S w'->Exit.then K Q e a w'):Exit.then K Q e a w:=h w hS
theorem adW {P:Program} {c:Code} {Q:Exit->Act->World->Prop} {a:Act} {w:World} (S:World->Prop) (hS:S w) (h:∀ w',S w'->c.wp P Q a w'):c.wp P Q a w:=h w hS
theorem at6 {w:World} {b n:Nat} {T:TypeId} {cs:List Value} (h:Blk w b (.cells cs.toArray T (0,0))) (hn:n=cs.length):w.there b 0 n:=by
 intro j hj
 refine ⟨?_,h.frz _⟩
 rw [h.cell]
 have:0+j<cs.length:=by omega
 simp [show j<cs.length by omega]
theorem afC (t:UInt8) (body:List UInt8):(aeO t body).length=512:=by
 unfold aeO
 rw [ab6]
 ·simp only [aEV,aaF]
 ·simp only [aEV,aaF,aEM];omega
theorem aeY (t:UInt8) (body:List UInt8):(layB t body).length=512:=by
 unfold layB
 rw [ab6 (by rw [aaC,afC];omega),afC]
theorem arL (w:World) (g1 c1:Nat) (T1:TypeId) (old:List UInt8) (h1:Blk w g1 (aa2 T1 old)) (ac:old.length=512)
  (g2 off n c2:Nat) (T2:TypeId) (src:List UInt8) (h2:Blk w g2 (aa2 T2 src)) (hlen:off+n<=src.length) (hn:n<=504) :
  Calls prog 226 #[.slice ↑g1 512 c1,.slice (some ⟨g2,off,none⟩) n c2] w λ e w'=>
   ∃ g,w.heap.size<=g/\e=U (.tuple #[.slice (some ⟨g,0,none⟩) 512 512,I 0])/\Blk w' g (aa2 276 (layB (agK (old.getD 0 0) (old.getD 511 0)) ((src.drop off).take n)))/\AaA NoF w w':=by
 have o0:=adQ h1 0 (by omega)
 have o511:=adQ h1 511 (by omega)
 have d0:old.getD 0 0=old[0]'(by omega):=by rw [aEL,aEG (by omega)];rfl
 have d511:old.getD 511 0=old[511]'(by omega):=by rw [aEL,aEG (by omega)];rfl
 rw [d0,d511]
 generalize old[0]'(by omega)=a at o0
 generalize old[511]'(by omega)=b at o511
 clear d0 d511
 have hT:=λ w=>aCM w a b
 generalize agK a b=t at hT ⊢
 unfold B at o0 o511 hT
 have hL:=λ w3 h=>azH w3 t g2 off c2 T2 src h n hlen hn
 generalize a0:layB t ((src.drop off).take n)=row at hL ⊢
 have a3:∀ v∈row.map B,v.oneCell'=true:=Ap3 _
 replace ⟨h1,h2,hT,hL,a0⟩:=yh5 h1 h2 hT hL a0
 go_enter Tryz.func226,Tryz.ntmps226
 go_upto_region 5 with fail
 have a4:(row.map B).length=512:=by rw [abL,← a0.out,aeY]
 have a8:∀ W:World,(W.alloc (.cells Tryz.zeroCells276 276 (0,0))).there W.heap.size 0 512:=by
  intro W
  have:=Blk.new W (.cells Tryz.zeroCells276 276 (0,0))
  rw [azZ] at this ⊢
  exact at6 this (by rw [abL,aaF])
 have ab:=aiQ
 have hg1:=h1.out.lt
 have ad:=h2.out.lt
 have sc:∀ (W:World) (b:Nat) (x:Addr) (v:Value),w.heap.size<=b->x.block<w.heap.size->W.cell? x=some v->(W.setCells b 0 (row.map B)).cell? x=some v:=by
  intro W b x v hb hx h
  rw [World.cell?_setCells_out b (row.map B) 0 W x (λ e=>by omega)];exact h
 have sb:∀ (vs:List Value) (W:World) (b o:Nat),w.heap.size<=b->Blk W g2 (aa2 T2 src)->Blk (W.setCells b o vs) g2 (aa2 T2 src):=by
  intro vs
  induction vs with
  | nil=>intro W b o hb h;exact h
  | cons v vs ih=>
   intro W b o hb h
   exact ih _ b (o+1) hb (h.setCell_ne (p:=⟨b,o,none⟩) (by show g2≠b;omega) v)
 have o0d:w.drew.cell? ↑g1=some (.int .u8 a.toNat):=o0
 have o511d:w.drew.cell? ⟨g1,511,none⟩=some (.int .u8 b.toNat):=o511
 have a1:Blk w.drew g2 (aa2 T2 src):=h2.out
 have o0a:=aaU o0 (.cells Tryz.zeroCells276 276 (0,0))
 have o511a:=aaU o511 (.cells Tryz.zeroCells276 276 (0,0))
 have a9:=h2.out.alloc (.cells Tryz.zeroCells276 276 (0,0))
 have o0e:(w.alloc (.cells Tryz.zeroCells276 276 (0,0))).drew.cell? ↑g1=some (.int .u8 a.toNat):=o0a
 have o511e:(w.alloc (.cells Tryz.zeroCells276 276 (0,0))).drew.cell? ⟨g1,511,none⟩=some (.int .u8 b.toNat):=o511a
 have a2:Blk (w.alloc (.cells Tryz.zeroCells276 276 (0,0))).drew g2 (aa2 T2 src):=a9
 have aa:Blk (w.alloc (.cells Tryz.zeroCells276 276 (0,0))).drew w.heap.size (.cells Tryz.zeroCells276 276 (0,0)):=Blk.new w _
 have fin:∀ (W:World) (b:Nat),w.heap.size<=b->AaA NoF w W->Blk W b (.cells Tryz.zeroCells276 276 (0,0)) ->
   Blk (W.setCells b 0 (row.map B)) b (aa2 276 row)/\AaA NoF w (W.setCells b 0 (row.map B)):=by
  intro W b hb hk h
  rw [azZ] at h
  have:=ac1 b 276 (row.map B) 0 W ((aaD 512).map B) h (by rw [a4,abL,aaF];decide)
  rw [aa4 (by rw [a4,abL,aaF])] at this
  exact ⟨this.1,hk.fresh this.2.1 (by intro i hi;omega)⟩
 replace fin:=hid fin
 go_region_held3 (λ W=>W.cell? ↑g1=some (.int .u8 a.toNat)/\W.cell? ⟨g1,511,none⟩=some (.int .u8 b.toNat)/\Blk W g2 (aa2 T2 src)) (first
  | with_reducible exact ⟨o0d,o511d,a1⟩|with_reducible exact ⟨o0e,o511e,a2⟩|with_reducible exact ⟨q0,q511,q2⟩|with_reducible exact ⟨aaU q0 _,aaU q511 _,q2.alloc _⟩|with_reducible exact ⟨sc _ _ _ _ z6 hg1 (aaU q0 _),sc _ _ _ _ z6 hg1 (aaU q511 _),sb _ _ _ _ z6 (q2.alloc _)⟩|with_reducible exact ⟨sc _ _ _ _ (aEK _) hg1 q0,sc _ _ _ _ (aEK _) hg1 q511,sb _ _ _ _ (aEK _) q2⟩) (first
  | (go_at_call 250;refine (hT.out _).mono ?_;rintro e w5 ⟨rfl,rfl⟩)
  | (go_at_call 249;refine (hL.out _ (by first|with_reducible exact a1|with_reducible exact a2)).mono ?_;rintro e w6 ⟨rfl,k6⟩;have z6:w.heap.size<=w6.heap.size:=(by have:=k6.size;simp at this;omega);(try have th6:=AaA.there (w:=(w.alloc (.cells Tryz.zeroCells276 276 (0,0))).drew) (by with_reducible exact k6) (by decide) (a8 w));(try have bz6:=k6.blk (b:=w.heap.size) (by with_reducible exact aa) (λ f=>f));have q0:=k6.cell (a:=⟨g1,0,none⟩) (by first|with_reducible exact o0d|with_reducible exact o0e);have q511:=k6.cell (a:=⟨g1,511,none⟩) (by first|with_reducible exact o511d|with_reducible exact o511e);have q2:=k6.blk (b:=g2) (by first|with_reducible exact a1|with_reducible exact a2) (λ f=>f)))
 all_goals
  have a5:AaA NoF w w6:=⟨k6.os,k6.tape,k6.output,z6,λ i hi _=>by
   rw [k6.block i (by first|exact hi|(show i<(w.alloc _).heap.size;rw [aEI];omega)) (λ f=>f)]
   first|rfl|exact ((AaA.refl NoF w).alloc _).block i hi (λ f=>f)⟩
  first
   | refine ahC (λ W=>Blk W w.heap.size (aa2 276 row)/\AaA NoF w W) (by with_reducible exact fin.out _ _ (aEK _) a5 bz6) ?_
   | refine ahC (λ W=>Blk W w6.heap.size (aa2 276 row)/\AaA NoF w W) (by with_reducible exact fin.out _ _ z6 (a5.alloc _) (Blk.new w6 _)) ?_
  clear sc sb a8 a3 a4 ab o0d o511d a1 o0a o511a a9 o0e o511e a2 aa a5 q0 q511 q2
  rintro w9 ⟨a6,a7⟩
  replace ⟨a6,a7⟩:=yh2 a6 a7
  go_wp2
  go_ret2
  exact ⟨_,by first|exact aEK _|exact z6,rfl,a6.out,a7.out⟩
end Go.Vk
namespace Go.Vk
open Go.RowKit
section
variable {P:Program} (w:World)
theorem afR {e:TypeId} {k':IntKind} (he:P.underlying e=some (.int k')):P.plainKey e=true:=by simp [Program.plainKey,he]
theorem aj8 (d:Nat) {t e:TypeId} {n:Nat} {k':IntKind} (ht:P.underlying t=some (.array n e)) (he:P.underlying e=some (.int k')) (hs:(P.info? e).map (·.size)=some 1) (xs ys:List UInt8) (hx:xs.length=n) (hy:ys.length=n) :
  (Op.equalIn (d+2) t (.agg (xs.map B).toArray) (.agg (ys.map B).toArray)).run P w=.ok (decide (xs=ys)) w:=by
 have hsz:(sizeOf e).run P w=.ok 1 w:=by
  cases hq:P.info? e with
  | none=>simp [hq] at hs
  | some i=>simp only [hq,Option.map_some,Option.some.injEq] at hs;simp [sizeOf,typeInfo,hq,hs]
 rw [show d+2=(d+1)+1 from rfl]
 have hD:∀ x y:UInt8,(Op.equalIn (d+1) e (B x) (B y)).run P w=.ok (decide (x=y)) w:=λ x y=>by
  have:=run_equalIn_int (P:=P) w d e .u8 k' (x.toNat:Int) (y.toNat:Int) he
  unfold B
  rw [this]
  congr 1
  rw [Bool.eq_iff_iff]
  simp only [beq_iff_eq,decide_eq_true_eq]
  exact ⟨λ h=>UInt8.toNat_inj.1 (by exact_mod_cast h),λ h=>by rw [h]⟩
 generalize d+1=D at hD ⊢
 simp only [Op.equalIn,Sem.run_bind,run_underlying ht,hsz,Result.andThen_ok]
 simp only [Std.Legacy.Range.forIn_eq_forIn_range',Std.Legacy.Range.size,Nat.sub_zero,Nat.add_one_sub_one,Nat.div_one,Nat.mul_one]
 have key:∀ m k,k+m=n->(forIn (m:=Sem) (List.range' k m) ((none:Option Bool),PUnit.unit) λ i r=>do
   let a ← part e (xs.map B).toArray i
   let b ← part e (ys.map B).toArray i
   let r ← Op.equalIn D e a b
   if (!r)=true then pure (ForInStep.done (some false,PUnit.unit)) else pure (ForInStep.yield (none,PUnit.unit))).run P w =
    .ok ((if xs.drop k=ys.drop k then none else some false),PUnit.unit) w:=by
  intro m
  induction m with
  | zero=>
   intro k hk
   have e1:xs.drop k=[]:=List.drop_eq_nil_of_le (by omega)
   have e2:ys.drop k=[]:=List.drop_eq_nil_of_le (by omega)
   simp [e1,e2]
  | succ m ih=>
   intro k hk
   have h1:k<xs.length:=by omega
   have h2:k<ys.length:=by omega
   have p1:=run_part_plain (P:=P) w (afR he) (xs:=(xs.map B).toArray) (off:=k) (v:=B xs[k]) (by simp [h1])
   have p2:=run_part_plain (P:=P) w (afR he) (xs:=(ys.map B).toArray) (off:=k) (v:=B ys[k]) (by simp [h2])
   rw [List.range'_succ,List.forIn_cons]
   simp only [Sem.run_bind,p1,p2,hD,Result.andThen_ok]
   rw [aEX h1,aEX h2]
   by_cases hh:xs[k]=ys[k]
   ·simp only [hh,decide_true,Bool.not_true,Bool.false_eq_true,if_false,Sem.run_pure,Result.andThen_ok]
    rw [ih (k+1) (by omega)]
    simp only [List.cons.injEq,true_and]
   ·rw [if_neg (λ e=>hh (List.cons.inj e).1)]
    simp only [hh,decide_false,Bool.not_false,if_true,Sem.run_pure,Result.andThen_ok]
 have:=key n 0 (by omega)
 rw [this]
 by_cases hh:xs=ys
 ·simp [hh]
 ·simp [hh]
theorem anV {t e:TypeId} {n:Nat} {k':IntKind} (ht:P.underlying t=some (.array n e)) (he:P.underlying e=some (.int k')) (hs:(P.info? e).map (·.size)=some 1) (xs ys:List UInt8) (hx:xs.length=n) (hy:ys.length=n) :
  (binOp .neq t (.agg (xs.map B).toArray) (.agg (ys.map B).toArray)).run P w=.ok (.bool (!decide (xs=ys))) w:=by
 rw [run_neq_struct,aj8 w 9998 ht he hs xs ys hx hy]
 rfl
end
end Go.Vk
namespace Go.Vk
open Go.RowKit Go.Proofs
open Tryz (prog)
def AbY (s l n:Int):Prop:=18<=l/\l<=256/\4<=n/\n<=1024/\n % 4=0/\s<=2048/\l+n / 4+6<=s
instance (s l n:Int):Decidable (AbY s l n):=by unfold AbY;infer_instance
def akG (s l n:Int):Value:=.agg #[I l,I (3+l),I (s - (3+l)),I n,I (2+n / 4)]
theorem au1 (w:World) (s l n:Int) (h:AbY s l n):Calls prog 153 #[.agg #[I s,I l,I n]] w λ e w'=>
  e=U (.tuple #[akG s l n,I 0])/\AaA NoF w w':=by
 obtain ⟨h1,h2,h3,h4,h5,h6,h7⟩:=h
 have e5:¬ (n.tmod 4≠0):=by rw [Int.tmod_eq_emod_of_nonneg (by omega)];omega
 go_enter Tryz.func153,Tryz.ntmps153
 go_wp2
 exact bodyPost_ret (v:=.tuple #[akG s l n,I 0]) (by simp [results,Tryz.results153,akG,go_sem]) rfl ⟨rfl,(((AaA.refl _ _).alloc _).alloc _).alloc _⟩
section
variable {P:Program} {w:World} {ops:Array Oper} {rest:List Oper} {o:Oper} {a:Act} {Q:Exit->Act->World->Prop}
theorem aoK (a3:o.guard=none) (d s:Operand) (dT sT:TypeId)
  (ho:o.op=.call { callee:=.builtin .copy,args:=#[d,s],argTypes:=#[dT,sT] }) (elem:TypeId) (hu:P.underlying dT=some (.slice elem)) (hsz:(P.info? elem).map (·.size)=some 1)
  (g off dLen dCap:Nat) (txt:ByteArray) (hd:a.eval d=.slice (some ⟨g,off,none⟩) dLen dCap) (hs:a.eval s=.string txt)
  (cur src:List UInt8) (a0:txt.data.toList=src) (hg:Blk w g (aaE cur)) (a4:off+dLen<=cur.length) (a2:src.length<=dLen)
  (h:∀ w',Blk w' g (aaE (lay cur off src))->AaA (· = g) w w'->w'.heap.size=w.heap.size->wpList P ops Q rest (a.put o.dst (goInt (src.length:Nat))) w') :
  wpList P ops Q (o :: rest) a w:=by
 have hn:Nat.min txt.size dLen=src.length:=by
  rw [← a0,ByteArray.size]
  rw [← a0] at a2
  exact Nat.min_eq_left a2
 have a5:(Builtin.firstCells 1 src.length (.string txt)).run P w=.ok (src.map B).toArray w:=by
  simp only [Builtin.firstCells,Sem.run_pure]
  congr 1
  apply Array.ext'
  have e:(txt.extract 0 src.length).data=txt.data:=by
   rw [ByteArray.data_extract,← a0]
   simp
  rw [e,Array.toList_map,a0]
  rfl
 have hst:=run_storeCells_cells (P:=P) g off (src.map B) 0 w (λ j hj=>by
   rw [hg.cell]
   have:off+j<cur.length:=by simp at hj;omega
   simp [this]) (λ j hj=>hg.frz _) (Ap3 _)
 have a1:(Builtin.copy_ #[dT,sT] o.type #[.slice (some ⟨g,off,none⟩) dLen dCap,.string txt]).run P w=.ok (goInt (src.length:Nat)) (w.setCells g off (src.map B)):=by
  cases hq:P.info? elem with
  | none=>simp [hq] at hsz
  | some i=>
   have hi:i.size=1:=by simpa [hq] using hsz
   simp only [Nat.add_zero] at hst
   simp [Builtin.copy_,run_underlying hu,Builtin.lenOf,sizeOf,typeInfo,hq,hi,hn,a5,hst]
 refine wpList_plain a3 λ K hK=>?_
 have hb:lay cur off src=lay cur off src:=rfl
 have e:=ac1 g 5 (src.map B) off w (cur.map B) hg (by simp;omega)
 unfold Oper.wp
 simp only [execOp,ho,resolve,invoke,builtin]
 simp [hd,hs,a1,Result.andThen]
 refine hK _ _ (h _ ?_ e.2.1 e.2.2)
 have:=e.1
 unfold aaE
 rw [show (lay cur off src).map B=layV (cur.map B) off (src.map B) by simp [lay,layV,List.map_take,List.map_drop]]
 exact this
end
theorem aj3 (w:World) (wb g at_:Nat) (bs:List UInt8) (v:Nat) (hb:bs.length=512) (hw:Blk w wb (adM g 512 512 at_)) (hg:Blk w g (aaE bs)) (a0:wb≠g) (hv:v<9223372036854775808)
  (hlen:at_+4<=512) :
  Calls prog 182 #[↑wb,I 4,I v] w λ e w'=>e=U (.tuple #[]) /\
   Blk w' wb (adM g 512 512 (at_+4))/\Blk w' g (aaE (lay bs at_ (aaB v 4)))/\AaA (λ k=>k=wb∨k=g) w w':=by
 have:=alJ w wb g 512 at_ bs (by rw [hb];exact hw) hg a0 4 v (by omega) hv (by omega) (by omega)
 rw [hb] at this
 exact this.mono λ e w' h=>⟨h.1,h.2.1,h.2.2.1,h.2.2.2.1⟩
def ag7:List UInt8:=[118,101,108,108,117,109,0,1]
def ac0 (s l n:Nat):List UInt8:=adZ (lay (lay (lay (lay (aaD 512) 0 ag7) 8 (aaB s 4)) 12 (aaB l 4)) 16 (aaB n 4))
def encK (s l n:Nat):Nat->List UInt8
 | 0=>lay (aaD 512) 0 ag7
 | 1=>lay (lay (aaD 512) 0 ag7) 8 (aaB s 4)
 | 2=>lay (lay (lay (aaD 512) 0 ag7) 8 (aaB s 4)) 12 (aaB l 4)
 | _=>lay (lay (lay (lay (aaD 512) 0 ag7) 8 (aaB s 4)) 12 (aaB l 4)) 16 (aaB n 4)
theorem ad8 (s l n:Nat):ac0 s l n=adZ (encK s l n 3):=rfl
theorem abK (s l n k:Nat):(encK s l n k).length=512:=by
 have h0:(lay (aaD 512) 0 ag7).length=512:=by rw [ab6 (by simp [ag7,aaF]),aaF]
 have h1:(lay (lay (aaD 512) 0 ag7) 8 (aaB s 4)).length=512:=by rw [ab6 (by rw [aaC];omega),h0]
 have h2:(lay (lay (lay (aaD 512) 0 ag7) 8 (aaB s 4)) 12 (aaB l 4)).length=512:=by rw [ab6 (by rw [aaC];omega),h1]
 match k with
 | 0=>exact h0
 | 1=>exact h1
 | 2=>exact h2
 | k+3=>show (lay _ 16 _).length=512;rw [ab6 (by rw [aaC];omega),h2]
theorem aEC (a b c:Value) (w:World):(Instr.index 245 (.agg #[a,b,c]) (I 0)).run prog w=.ok a w:=by kernel_rfl
theorem aEB (a b c:Value) (w:World):(Instr.index 245 (.agg #[a,b,c]) (I 1)).run prog w=.ok b w:=by kernel_rfl
theorem aEA (a b c:Value) (w:World):(Instr.index 245 (.agg #[a,b,c]) (I 2)).run prog w=.ok c w:=by kernel_rfl
theorem amC (w:World) (s l n:Nat) (h:AbY s l n):Calls prog 159 #[.agg #[I s,I l,I n]] w λ e w'=>
  ∃ g,w.heap.size<=g/\e=U (.tuple #[.slice (some ⟨g,0,none⟩) 512 512,I 0])/\Blk w' g (aaE (ac0 s l n))/\AaA NoF w w':=by
 have a4:s<4096/\l<4096/\n<4096:=by unfold AbY at h;omega
 obtain ⟨al,am,an⟩:=a4
 have hP:=λ w=>au1 w s l n h
 unfold akG at hP
 have ag:=al2
 replace hP:=hid hP
 go_enter Tryz.func159,Tryz.ntmps159
 go_upto_region 5 with (go_at_call 153;refine (hP.out _).mono ?_;rintro e w2 ⟨rfl,hk2⟩;have a6:=hk2.blk (Blk.new w _) (λ f=>f);have x0:=a6.cell 0;have x1:=a6.cell 1;have x2:=a6.cell 2;simp at x0 x1 x2;replace ⟨hk2,a6⟩:=yh2 hk2 a6)
 have a1:=((Blk.new (w2.alloc (.cells #[I l,I (3+l),I (s - (3+l)),I n,I (2+n / 4)] 53 (0,0))) (aaE (aaD 512))).alloc (.cells #[.slice (some ⟨w2.heap.size+1,0,none⟩) 512 512,I 0] 219 (0,0)))
 have a2:=Blk.new ((w2.alloc (.cells #[I l,I (3+l),I (s - (3+l)),I n,I (2+n / 4)] 53 (0,0))).alloc (aaE (aaD 512))) (.cells #[.slice (some ⟨w2.heap.size+1,0,none⟩) 512 512,I 0] 219 (0,0))
 have a4:=((a6.out.alloc (.cells #[I l,I (3+l),I (s - (3+l)),I n,I (2+n / 4)] 53 (0,0))).alloc (aaE (aaD 512))).alloc (.cells #[.slice (some ⟨w2.heap.size+1,0,none⟩) 512 512,I 0] 219 (0,0))
 have hk1:AaA NoF w w2:=((AaA.refl _ w).alloc _).trans hk2.out (λ _ _ f=>f)
 have a3:=((hk1.alloc (.cells #[I l,I (3+l),I (s - (3+l)),I n,I (2+n / 4)] 53 (0,0))).alloc (aaE (aaD 512))).alloc (.cells #[.slice (some ⟨w2.heap.size+1,0,none⟩) 512 512,I 0] 219 (0,0))
 generalize ((w2.alloc (.cells #[I l,I (3+l),I (s - (3+l)),I n,I (2+n / 4)] 53 (0,0))).alloc (aaE (aaD 512))).alloc (.cells #[.slice (some ⟨w2.heap.size+1,0,none⟩) 512 512,I 0] 219 (0,0))=w3 at a1 a2 a4 a3 ⊢
 simp only [aEI] at a1 a2
 have ah:w.heap.size<w2.heap.size:=by have:=hk2.out.size;rw [aEI] at this;omega
 have ae:w.heap.size<w2.heap.size+1:=by omega
 have a5:w2.heap.size+1+1≠w2.heap.size+1:=by omega
 generalize ai:w2.heap.size+1+1=wb at a2 a5 ⊢
 have aj:w2.heap.size+1<wb:=by omega
 clear ai
 generalize w2.heap.size+1=g at a1 a2 ae a5 aj ⊢
 clear hk2 a6 x0 x1 x2 hk1 ah
 generalize hsz:w.heap.size=sb at a4 ae ⊢
 have y0:=a2.cell 0
 have y1:=a2.cell 1
 have yf:=a2.frz
 simp at y0 y1
 replace ⟨a1,a2,a4,a3,hsz⟩:=yh5 a1 a2 a4 a3 hsz
 go_step
 iterate 5 (refine aaR rfl _ _ (by go_simp;exact ⟨rfl,rfl⟩) ?_;simp only [wz])
 refine aoK rfl (.tmp 24) (.const (.string { data:=#[118,101,108,108,117,109,0,1] })) 40 9 rfl 5 afL amP g 0 512 512 _ rfl rfl (aaD 512) ag7 rfl a1.out (by rw [aaF];decide) (by decide) ?_
 intro w4 ad a0 ak
 have a7:Blk w4 wb (adM g 512 512 0):=a0.blk a2.out a5
 have a8:=a0.blk a4.out (λ e=>by omega)
 have hk5:AaA NoF w w4:=⟨a0.os.trans a3.out.os,a0.tape.trans a3.out.tape,a0.output.trans a3.out.output,aE4 a3.out.size a0.size,λ i hi _=>by
  rw [a0.block i (aEJ hi a3.out.size) (λ e=>by have:=hsz.out;omega)];exact a3.out.block i hi (λ f=>f)⟩
 have z0:=a7.cell 0
 have z1:=a7.cell 1
 have zf:=a7.frz
 have x0:=a8.cell 0
 have x1:=a8.cell 1
 have x2:=a8.cell 2
 simp at z0 z1 x0 x1 x2
 clear a0 ak y0 y1 yf a1 a2 a4 a3 ag hP
 clear w3
 replace ⟨ad,a7,a8,hk5⟩:=yh4 ad a7 a8 hk5
 go_upto_region 6 with fail
 rw [show ag7.length=8 from rfl]
 have hw5:=a7.out.setCell 1 (I ((8:Nat):Int))
 have aa:=ad.out.setCell_ne (p:=⟨wb,1,none⟩) (λ e=>a5 e.symm) (I ((8:Nat):Int))
 have ab:=a8.out.setCell_ne (p:=⟨wb,1,none⟩) (by show sb≠wb;omega) (I ((8:Nat):Int))
 have ac:AaA NoF w _:=hk5.out.setCell (p:=⟨wb,1,none⟩) (.inr (by have:=hsz.out;show _<=wb;omega)) (I ((8:Nat):Int))
 have e1:Obj.cells (#[Value.slice (some ⟨g,0,none⟩) 512 512,I (0:Nat)].setIfInBounds 1 (I ((8:Nat):Int))) 219 (0,0)=adM g 512 512 (8+4*0):=by
  simp [adM]
 rw [e1] at hw5
 generalize w4.setCell ⟨wb,1,none⟩ (I ((8:Nat):Int))=w5 at hw5 aa ab ac ⊢
 clear a7 ad a8 hk5 z0 z1 zf x0 x1 x2 e1
 clear w4
 have x0:=ab.cell 0
 have x1:=ab.cell 1
 have x2:=ab.cell 2
 simp at x0 x1 x2
 have hF:∀ i,(i=wb∨i=g)->w.heap.size<=i:=by have:=hsz.out;intro i hi;omega
 replace ⟨hw5,aa,ac,hF⟩:=yh4 hw5 aa ac hF;clear ab
 go_wp2
 go_loopw [8,35] (λ _ i wr=>∃ k:Nat,k<=3/\i=I k/\Blk wr wb (adM g 512 512 (8+4*k))/\Blk wr g (aaE (encK s l n k))/\AaA NoF w wr) (λ _ i _=>3 - (intOf i).toNat)
 case atStart=>exact ⟨0,by omega,rfl,hw5.out,aa.out,ac.out⟩
 case round=>
  obtain ⟨k,hk,rfl,a9,hg1,hk1⟩:=hrel
  clear hw5 aa ac
  replace ⟨a9,hg1,hk1⟩:=yh3 a9 hg1 hk1
  by_cases hlt:k<3
  ·have:k=0∨k=1∨k=2:=by omega
   rcases this with rfl|rfl|rfl
   ·have af:=aEC
    go_wp2_with  fail
    have hN:=aj3 wr wb g _ _ s (abK s l n 0) a9.out hg1.out a5 (by omega) (by omega)
    refine hN.mono ?_
    rintro e w3 ⟨rfl,a2,a1,a3⟩
    have a0:=hk1.out.fresh a3 hF.out
    clear a3
    replace ⟨a2,a1,a0⟩:=yh3 a2 a1 a0
    go_wp2
    go_roundw
    case rel=>
     have hfin:∃ k:Nat,k<=3/\Value.int .i64 1=I k/\Blk w3 wb (adM g 512 512 (8+4*k))/\Blk w3 g (aaE (encK s l n k))/\AaA NoF w w3:=⟨1,by omega,rfl,a2.out,a1.out,a0.out⟩
     first|exact hfin|((repeat apply Exists.intro);exact ⟨hfin,rfl⟩)
    case measure=>simp [intOf]
   ·have af:=aEB
    go_wp2_with  fail
    have hN:=aj3 wr wb g _ _ l (abK s l n 1) a9.out hg1.out a5 (by omega) (by omega)
    refine hN.mono ?_
    rintro e w3 ⟨rfl,a2,a1,a3⟩
    have a0:=hk1.out.fresh a3 hF.out
    clear a3
    replace ⟨a2,a1,a0⟩:=yh3 a2 a1 a0
    go_wp2
    go_roundw
    case rel=>
     have hfin:∃ k:Nat,k<=3/\Value.int .i64 2=I k/\Blk w3 wb (adM g 512 512 (8+4*k))/\Blk w3 g (aaE (encK s l n k))/\AaA NoF w w3:=⟨2,by omega,rfl,a2.out,a1.out,a0.out⟩
     first|exact hfin|((repeat apply Exists.intro);exact ⟨hfin,rfl⟩)
    case measure=>simp [intOf]
   ·have af:=aEA
    go_wp2_with  fail
    have hN:=aj3 wr wb g _ _ n (abK s l n 2) a9.out hg1.out a5 (by omega) (by omega)
    refine hN.mono ?_
    rintro e w3 ⟨rfl,a2,a1,a3⟩
    have a0:=hk1.out.fresh a3 hF.out
    clear a3
    replace ⟨a2,a1,a0⟩:=yh3 a2 a1 a0
    go_wp2
    go_roundw
    case rel=>
     have hfin:∃ k:Nat,k<=3/\Value.int .i64 3=I k/\Blk w3 wb (adM g 512 512 (8+4*k))/\Blk w3 g (aaE (encK s l n k))/\AaA NoF w w3:=⟨3,by omega,rfl,a2.out,a1.out,a0.out⟩
     first|exact hfin|((repeat apply Exists.intro);exact ⟨hfin,rfl⟩)
    case measure=>simp [intOf]
  ·obtain rfl:k=3:=by omega
   go_wp2_with fail
   refine (arK wr wb g 512 _ (encK s l n 3) (by rw [abK];exact a9.out) hg1.out a5 (by rw [abK];omega) (by rw [abK];omega) (by rw [abK];decide) (by omega)).mono ?_
   rintro e w3 ⟨rfl,a1,a3⟩
   have a0:=hk1.out.fresh a3 hF.out
   rw [abK]
   clear a3
   replace ⟨a1,a0⟩:=yh2 a1 a0
   go_wp2
   go_ret2
   exact ⟨g,by have:=hF.out g (.inr rfl);omega,rfl,a1.out,a0.out⟩
end Go.Vk
