/- Part of the proof: Px2 Ld0 Pk2 Rf1 Rf2. -/
import Derived.Test.YtjeelghnmkefcaaGreatQ14
import Derived.Test.YtjeelghnmkefcaaGreatQ19
set_option linter.unusedVariables false
set_option maxHeartbeats 16000000
set_option maxRecDepth 100000
namespace Go.Vk
open Go.RowKit Go.Proofs
open Tryz (prog)
structure Aa6 (w:World) (C:TxC) (T:TS) (X:Nat->Prop):Prop where
 rep:∃ M,Aa1 w C M false X/\PX C M T
 lt:∀ i,X i->i<w.heap.size
 geo:AtR C.G
def xLo (G:Geom) (nd:Bool):Nat:=if nd then 0 else G.data
def xHi (G:Geom) (nd:Bool):Nat:=if nd then G.n else G.blocks
def TS.take (T:TS) (G:Geom) (nd:Bool):(Nat × Nat) × TS:=if T.st=0 then T.takeX nd.toNat (xLo G nd) (xHi G nd) nd.toNat (noE nd) else ((0,T.st),T)
def xOut (G:Geom) (nd:Bool) (n:Int):Prop:=n<((xLo G nd+nd.toNat:Nat):Int)∨((xHi G nd+nd.toNat:Nat):Int)<=n
instance (G:Geom) (nd:Bool) (n:Int):Decidable (xOut G nd n):=inferInstanceAs (Decidable (_∨_))
def TS.drop (T:TS) (G:Geom) (nd:Bool) (n:Int):Nat × TS:=if T.st=0 then (if xOut G nd n then (11,T) else T.dropX nd.toNat (n.toNat - nd.toNat)) else (T.st,T)
def TS.clear (T:TS) (G:Geom):Nat × TS:=if T.st=0 then T.clearX G.data else (T.st,T)
def TS.putB (T:TS) (b:Nat) (data:List UInt8):Nat × TS:=if T.st=0 then T.puts b data else (T.st,T)
theorem TS.take_like (T:TS) (G:Geom) (nd:Bool):T.Like (T.take G nd).2:=by
 unfold TS.take
 split
 ·exact T.takeX_like _ _ _ _ _
 ·exact .refl T
theorem TS.drop_like (T:TS) (G:Geom) (nd:Bool) (n:Int):T.Like (T.drop G nd n).2:=by
 unfold TS.drop
 split
 ·split
  ·exact .refl T
  ·exact T.dropX_like _ _
 ·exact .refl T
theorem TS.clear_like (T:TS) (G:Geom):T.Like (T.clear G).2:=by
 unfold TS.clear
 split
 ·exact T.clearX_like _
 ·exact .refl T
theorem TS.putB_like (T:TS) (b:Nat) (data:List UInt8):T.Like (T.putB b data).2:=by
 unfold TS.putB
 split
 ·exact T.puts_like _ _
 ·exact .refl T
section
variable {w w':World} {C:TxC} {T T':TS} {X:Nat->Prop} {p:Nat}
theorem Aa6.notF (h:Aa6 w C T X) {i:Nat} (hi:X i):¬ KF C i:=by
 obtain ⟨M,h1,_⟩:=h.rep
 obtain ⟨a1,a2,a3⟩:=h1.notF hi
 rintro (x|x|x)
 ·exact a1 x
 ·exact a2 x
 ·exact a3 x
theorem Aa6.grow (h:Aa6 w C T X) {Gf:Nat->Prop} (k:AaA Gf w w') (hG:∀ i,i<w.heap.size->Gf i->X i) {Y:Nat->Prop} (hY:∀ i,Y i->i<w'.heap.size/\(X i∨w.heap.size<=i)):Aa6 w' C T Y:=by
 obtain ⟨M,h1,h2⟩:=h.rep
 refine ⟨⟨M,?_,h2⟩,λ i hi=>(hY i hi).1,h.geo⟩
 have h4:=h1.client (Y:=λ i=>X i∨w.heap.size<=i) (λ i hi=>hi)
 exact (h4.quiet k (λ i hi=>(Nat.lt_or_ge i w.heap.size).elim (λ e=>.inl (hG i e hi)) .inr)).client (λ i hi=>.inl (hY i hi).2)
theorem Aa6.quiet (h:Aa6 w C T X) (k:AaA NoF w w'):Aa6 w' C T X:=
 h.grow k (λ _ _ f=>f.elim) (λ i hi=>⟨aEJ (h.lt i hi) k.size,.inl hi⟩)
theorem Aa6.blk (h:Aa6 w C T X) (k:AaA (KF C) w w') {b:Nat} {o:Obj} (hb:Blk w b o) (hX:X b):Blk w' b o:=k.blk hb (h.notF hX)
theorem Aa6.len (h:Aa6 w C T X) (b:Nat) (hb:b<C.G.blocks):(T.raw b).length=512:=by
 obtain ⟨M,h1,h2⟩:=h.rep
 rw [← h2.g b hb];exact h1.get_len b hb
def AdN (w:World) (C:TxC) (X:Nat->Prop) (T':TS) (v:Value) (e:Ending) (w':World):Prop:=e=.returned v/\Aa6 w' C T' X/\AaA (KF C) w w'
theorem AdN.of (h:Aa6 w C T X) {M':TxM} {v:Value} (hp:PX C M' T'):∀ e w',AdI w C M' false X v e w'->AdN w C X T' v e w':=by
 rintro e w' ⟨rfl,x2,x3⟩
 exact ⟨rfl,⟨⟨M',x2,hp⟩,λ i hi=>aEJ (h.lt i hi) x3.size,h.geo⟩,x3⟩
theorem Aa6.takeB (h:Aa6 w C T X) (hp:Blk w p (ab3 C.t)) (a0:X p):Calls prog 131 #[↑p] w (AdN w C X (T.take C.G false).2 (.tuple #[I ((T.take C.G false).1.1:Nat),I ((T.take C.G false).1.2:Nat)])):=by
 obtain ⟨M,h1,h2⟩:=h.rep
 have hg:=h.geo
 unfold TS.take
 by_cases hs:T.st=0
 ·rw [if_pos hs]
  obtain ⟨a1,a2⟩:=h2.take (blk:=0) (by have:=hg.b1;omega) (2+C.G.n / 4) C.G.blocks 0 60
  have:=axG hp a0 h1 (h2.st hs) h.lt (by have:=hg.b1;omega) (by have:=hg.b1;omega) (by have:=hg.b2;omega)
  rw [a1] at this
  exact this.mono (AdN.of h a2)
 ·rw [if_neg hs]
  have hst:=h2.stsp
  have:=auC hp h1 (by rw [hst];exact hs)
  rw [hst] at this
  exact this.mono (AdN.of h h2)
theorem Aa6.takeN (h:Aa6 w C T X) (hp:Blk w p (ab3 C.t)) (a0:X p):Calls prog 102 #[↑p] w (AdN w C X (T.take C.G true).2 (.tuple #[I ((T.take C.G true).1.1:Nat),I ((T.take C.G true).1.2:Nat)])):=by
 obtain ⟨M,h1,h2⟩:=h.rep
 have hg:=h.geo
 unfold TS.take
 by_cases hs:T.st=0
 ·rw [if_pos hs]
  obtain ⟨a1,a2⟩:=h2.take (blk:=1) (by have:=hg.b1;omega) 0 C.G.n 1 61
  have:=axF hp a0 h1 (h2.st hs) h.lt (by have:=hg.b1;omega) (aEY _) (by have:=hg.n2;omega)
  rw [a1] at this
  exact this.mono (AdN.of h a2)
 ·rw [if_neg hs]
  have hst:=h2.stsp
  have:=auB hp h1 (by rw [hst];exact hs)
  rw [hst] at this
  exact this.mono (AdN.of h h2)
theorem Aa6.dropB (h:Aa6 w C T X) (hp:Blk w p (ab3 C.t)) (a0:X p) (n:Int):Calls prog 133 #[↑p,I n] w (AdN w C X (T.drop C.G false n).2 (I ((T.drop C.G false n).1:Nat))):=by
 obtain ⟨M,h1,h2⟩:=h.rep
 have hg:=h.geo
 unfold TS.drop
 by_cases hs:T.st=0
 ·rw [if_pos hs]
  by_cases ho:xOut C.G false n
  ·rw [if_pos ho]
   have ho':n<((2+C.G.n / 4:Nat):Int)∨((C.G.blocks:Nat):Int)<=n:=ho
   exact (av9 hp h1 (h2.st hs) n ho').mono (AdN.of h h2)
  ·rw [if_neg ho]
   have ho':¬ (n<((2+C.G.n / 4:Nat):Int)∨((C.G.blocks:Nat):Int)<=n):=ho
   obtain ⟨i,rfl⟩:∃ i:Nat,n=i:=⟨n.toNat,by omega⟩
   obtain ⟨a1,a2⟩:=h2.drop (blk:=0) (by have:=hg.b1;omega) i
   have:=ayZ hp a0 h1 (h2.st hs) h.lt (by have:=hg.b1;omega) (by have:=hg.b2;omega) i (by omega)
   rw [a1] at this
   exact this.mono (AdN.of h a2)
 ·rw [if_neg hs]
  have hst:=h2.stsp
  have:=awA hp h1 (by rw [hst];exact hs) n
  rw [hst] at this
  exact this.mono (AdN.of h h2)
theorem Aa6.dropN (h:Aa6 w C T X) (hp:Blk w p (ab3 C.t)) (a0:X p) (n:Int):Calls prog 108 #[↑p,I n] w (AdN w C X (T.drop C.G true n).2 (I ((T.drop C.G true n).1:Nat))):=by
 obtain ⟨M,h1,h2⟩:=h.rep
 have hg:=h.geo
 unfold TS.drop
 by_cases hs:T.st=0
 ·rw [if_pos hs]
  by_cases ho:xOut C.G true n
  ·rw [if_pos ho]
   have ho':n<((0+1:Nat):Int)∨((C.G.n+1:Nat):Int)<=n:=ho
   exact (av7 hp h1 (h2.st hs) n (by omega)).mono (AdN.of h h2)
  ·rw [if_neg ho]
   have ho':¬ (n<((0+1:Nat):Int)∨((C.G.n+1:Nat):Int)<=n):=ho
   obtain ⟨i,rfl⟩:∃ i:Nat,n=((i+1:Nat):Int):=⟨n.toNat - 1,by omega⟩
   obtain ⟨a1,a2⟩:=h2.drop (blk:=1) (by have:=hg.b1;omega) i
   have:=ayY hp a0 h1 (h2.st hs) h.lt (by have:=hg.b1;omega) (by have:=hg.n2;omega) i (by omega)
   rw [a1] at this
   exact this.mono (AdN.of h a2)
 ·rw [if_neg hs]
  have hst:=h2.stsp
  have:=av8 hp h1 (by rw [hst];exact hs) n
  rw [hst] at this
  exact this.mono (AdN.of h h2)
theorem Aa6.clear (h:Aa6 w C T X) (hp:Blk w p (ab3 C.t)) (a0:X p) (a3:T.st=0->(T.puts 0 (abC C.G.data)).1=0->((T.puts 0 (abC C.G.data)).2.puts 1 (aaD 512)).1=0) :
  Calls prog 35 #[↑p] w (AdN w C X (T.clear C.G).2 (I ((T.clear C.G).1:Nat))):=by
 obtain ⟨M,h1,h2⟩:=h.rep
 have hg:=h.geo
 unfold TS.clear
 by_cases hs:T.st=0
 ·rw [if_pos hs]
  obtain ⟨a1,a2⟩:=h2.clear (by have:=hg.b1;omega)
  obtain ⟨b1,b2⟩:=h2.puts (b:=0) (by have:=hg.b1;omega) (abC (2+C.G.n / 4))
  obtain ⟨c1,_⟩:=b2.puts (b:=1) (by have:=hg.b1;omega) (aaD 512)
  have:=ay1 hp a0 h1 (h2.st hs) h.lt (by have:=hg.b1;omega) (by have:=hg.b1;have:=hg.b2;omega) (λ e=>by
   have e1:=a3 hs (b1.symm.trans e)
   unfold TxM.clear
   rw [if_pos e]
   exact c1.trans e1)
  rw [a1] at this
  exact this.mono (AdN.of h a2)
 ·rw [if_neg hs]
  have hst:=h2.stsp
  have:=awJ hp h1 (by rw [hst];exact hs)
  rw [hst] at this
  exact this.mono (AdN.of h h2)
def TS.left (T:TS) (G:Geom):Nat × Nat × Nat:=if T.st=0 then (ad3 (T.raw 0) G.data G.blocks,ad3 (T.raw 1) 0 G.n,0) else (0,0,T.st)
theorem Aa6.left (h:Aa6 w C T X) (hp:Blk w p (ab3 C.t)) (a0:X p):Calls prog 40 #[↑p] w (AdN w C X T (.tuple #[I ((T.left C.G).1:Nat),I ((T.left C.G).2.1:Nat),I ((T.left C.G).2.2:Nat)])):=by
 obtain ⟨M,h1,h2⟩:=h.rep
 have hg:=h.geo
 unfold TS.left
 by_cases hs:T.st=0
 ·rw [if_pos hs]
  have:=aBO hp a0 h1 (h2.st hs) (by have:=hg.b1;omega) (by have:=hg.b1;omega) (by have:=hg.b2;omega) (by have:=hg.n2;omega)
  rw [h2.g 0 (by have:=hg.b1;omega),(h2.read 0).g 1 (by have:=hg.b1;omega)] at this
  exact this.mono (AdN.of h ((h2.read 0).read 1))
 ·rw [if_neg hs]
  have hst:=h2.stsp
  have:=ayI hp h1 (by rw [hst];exact hs)
  rw [hst] at this
  exact this.mono (AdN.of h h2)
theorem Aa6.state (h:Aa6 w C T X):Calls prog 85 #[↑C.t] w λ e w'=>e=U (I (T.st:Nat))/\Aa6 w' C T X/\AaA NoF w w':=by
 obtain ⟨M,h1,h2⟩:=h.rep
 refine (anU h1).mono ?_
 rintro e w' ⟨rfl,m,rfl⟩
 rw [h2.stsp]
 have hk:AaA NoF w (w.drewN m):=(AaA.refl _ w).drewN m
 exact ⟨rfl,h.quiet hk,hk⟩
theorem Aa6.get (h:Aa6 w C T X) (h0:T.st=0) (b:Nat) (hb:b<C.G.blocks):Calls prog 122 #[↑C.t,I b] w λ e w'=>
  ∃ g k,e=U (.tuple #[.slice (some ⟨g,0,none⟩) 512 (512+k),I 0])/\w.heap.size<=g/\Blk w' g (aaE (T.raw b++aaD k))/\Aa6 w' C T (λ i=>X i∨w.heap.size<=i/\i<w'.heap.size)/\AaA (KF C) w w':=by
 obtain ⟨M,h1,h2⟩:=h.rep
 refine (aBW h1 (h2.st h0) b hb).mono ?_
 rintro e w' ⟨g,k,rfl,x1,x2,x3,x4⟩
 rw [h2.g b hb] at x2
 exact ⟨g,k,rfl,x1,x2,⟨⟨_,x3.client (λ i hi=>.inl (hi.elim .inl (λ y=>.inr y.1))),h2.read _⟩,λ i hi=>hi.elim (λ y=>aEJ (h.lt i y) x4.size) (·.2),h.geo⟩,x4.mono λ i _ hi=>.inl hi⟩
theorem Aa6.get_bad (h:Aa6 w C T X) (h0:T.st≠0) (b:Nat):Calls prog 122 #[↑C.t,I b] w λ e w'=>
  e=U (.tuple #[.slice none 0 0,I (T.st:Nat)])/\Aa6 w' C T X/\AaA NoF w w':=by
 obtain ⟨M,h1,h2⟩:=h.rep
 have hst:=h2.stsp
 obtain ⟨own,xc,y1,y2,y3⟩:=h1
 have e1:txAt M.D C.G M.sp false (b:Int)=T.st:=by unfold txAt;rw [hst,if_pos h0]
 have:=Go.Vk.aED y1.ht y1.hs y1.hd (b:Int) (by rw [e1];exact h0)
 rw [e1] at this
 refine this.mono ?_
 rintro e w' ⟨rfl,m,rfl⟩
 have hk:AaA NoF w (w.drewN m):=(AaA.refl _ w).drewN m
 exact ⟨rfl,h.quiet hk,hk⟩
theorem aw5 (h:Aa6 w C T X) (h0:T.st≠0) (b:Nat) (v:Value):Calls prog 87 #[↑C.t,I b,v] w (AdN w C X T (I (T.st:Nat))):=by
 obtain ⟨M,h1,h2⟩:=h.rep
 have hst:=h2.stsp
 obtain ⟨own,xc,y1,y2,y3⟩:=id h1
 have e1:txAt M.D C.G M.sp false (b:Int)=T.st:=by unfold txAt;rw [hst,if_pos h0]
 have hA:=axC y1.ht y1.hs y1.hd (b:Int)
 rw [e1] at hA
 have hq:∀ m,AdN w C X T (I (T.st:Nat)) (U (I (T.st:Nat))) (w.drewN m):=λ m=>by
  have hk:AaA NoF w (w.drewN m):=(AaA.refl _ w).drewN m
  exact ⟨rfl,h.quiet hk,hk.mono λ _ _ f=>f.elim⟩
 have a0:¬ (T.st:Int)=0:=by omega
 generalize AdN w C X T (I (T.st:Nat))=Post at *
 generalize T.st=s at *
 clear e1 hst y1 y2 y3
 replace ⟨hA,hq⟩:=yh2 hA hq;clear h h0 h1 h2
 go_enter Tryz.func87,Tryz.ntmps87
 go_wp2_with (go_at_call 168;refine hA.out.mono ?_;rintro e w' ⟨rfl,m,rfl⟩;have hq1:=hq.out m;replace hq1:=hid hq1)
 exact hq1.out
theorem Aa6.put (h:Aa6 w C T X) (b:Nat) (hb:b<C.G.blocks) (g c:Nat) (data rest:List UInt8) (hg:Blk w g (aaE (data++rest))) (a0:X g) (hl:data.length=512) :
  Calls prog 87 #[↑C.t,I b,.slice ↑g 512 c] w (AdN w C X (T.putB b data).2 (I ((T.putB b data).1:Nat))):=by
 unfold TS.putB
 by_cases hs:T.st=0
 ·rw [if_pos hs]
  obtain ⟨M,h1,h2⟩:=h.rep
  obtain ⟨a1,a2⟩:=h2.puts hb data
  have:=asT h1 (h2.st hs) h.lt b hb g 0 c (data++rest) data hg a0 (by rw [aEH];omega) (by rw [aER,aE0 hl])
  refine this.mono ?_
  rintro e w' ⟨rfl,x2,x3⟩
  rw [a1]
  exact ⟨rfl,⟨⟨_,x2,a2⟩,λ i hi=>aEJ (h.lt i hi) x3.size,h.geo⟩,x3⟩
 ·rw [if_neg hs]
  exact aw5 h hs b _
end
theorem apJ {bs:List UInt8} {lo top i:Nat} (h1:lo<=i) (h2:i<top) (h3:abP bs i=false) (h4:∀ j,lo<=j->j<i->abP bs j=true):abA bs lo top=some i:=by
 cases hf:abA bs lo top with
 | none=>have:=aiN hf i h1 h2;rw [h3] at this;cases this
 | some k=>
  obtain ⟨a1,a2,a3,a4⟩:=acL hf
  rcases Nat.lt_trichotomy i k with h|h|h
  ·have:=a4 i h1 h;rw [h3] at this;cases this
  ·rw [h]
  ·have:=h4 k a1 h;rw [a3] at this;cases this
theorem amU {bs:List UInt8} {lo top:Nat} (h:∀ j,lo<=j->j<top->abP bs j=true):abA bs lo top=none:=by
 cases hf:abA bs lo top with
 | none=>rfl
 | some k=>
  obtain ⟨a1,a2,a3,a4⟩:=acL hf
  have:=h k a1 a2;rw [a3] at this;cases this
end Go.Vk
namespace Go.Vk
theorem aB9 {a b:List UInt8} (ha:a.length=512) (hb:b.length=512) (h:∀ i,i<4096->abP a i=abP b i):a=b:=by
 refine List.ext_getElem (by omega) λ j h1 h2=>?_
 have hx:abQ a j=a[j].toNat:=by unfold abQ;rw [aEL,aEG h1];rfl
 have hy:abQ b j=b[j].toNat:=by unfold abQ;rw [aEL,aEG h2];rfl
 refine UInt8.toNat_inj.1 ?_
 rw [← hx,← hy]
 refine Nat.eq_of_testBit_eq λ r=>?_
 by_cases hr:r<8
 ·have:=h (8*j+r) (by omega)
  unfold abP at this
  rwa [show (8*j+r) / 8=j by omega,show (8*j+r) % 8=r by omega] at this
 ·have hp:2 ^ 8<=2 ^ r:=aE5 (by decide) (by omega)
  rw [Nat.testBit_lt_two_pow (aEJ (acN _ _) hp),Nat.testBit_lt_two_pow (aEJ (acN _ _) hp)]
end Go.Vk
namespace Go.Vk
open Go.RowKit Go.Proofs
open Tryz (prog)
theorem arC:(prog).underlying 127=some (.slice 4):=Tryz.underlying127
theorem arZ:((prog).info? 4).map (λ i=>(i.zero,i.size,i.bytes))=some (some ↑false,1,1):=by kernel_rfl
def ae6 (l:List Bool):List Value:=l.map Value.bool
def AaW (w:World) (lo:Nat) (v:Value) (l:List Bool):Prop:=w.ownsRow lo 4 1 v l.length (ae6 l)
theorem aqX {w w':World} (h:AaA NoF w w'):Below w.heap.size w w':=⟨h.os,h.tape,h.output,h.size,λ k hk=>h.block k hk (λ f=>f)⟩
theorem aaV {w:World} {lo e size:Nat} {v:Value} {n:Nat} {xs:List Value} (h:w.ownsRow lo e size v n xs):∀ k,v.ownBlock=some k->lo<=k:=by
 intro k hk
 rcases h.2 with ⟨rfl,_⟩|⟨g,cap,cur,rfl,hb,_⟩
 ·cases hk
 ·simp [Value.ownBlock] at hk;omega
theorem aq4 (k:Nat):ae6 (List.replicate (k+1) false)=ae6 (List.replicate k false)++[.bool false]:=by
 rw [List.replicate_succ'];simp [ae6]
theorem aC9 (w:World):Calls prog 113 #[] w λ e w'=>∃ v,e=.returned v/\AaW w' w.heap.size v (List.replicate 4096 false)/\AaA NoF w w':=by
 obtain ⟨i0,hi,a2,a3,hz2⟩:=info_parts arZ
 have hk:=AaA.refl NoF w
 have a4:∀ W v,W.ownsRow w.heap.size 4 1 v 4096 (ae6 (List.replicate 4096 false))->AaW W w.heap.size v (List.replicate 4096 false):=λ W v h=>by
  unfold AaW;rw [aEW];exact h
 obtain ⟨fl,hf⟩:∃ fl,List.replicate 4096 false=fl:=⟨_,rfl⟩
 rw [hf]
 replace ⟨a4,hf⟩:=yh2 a4 hf
 replace ⟨hi,a2,a3,hz2,hk⟩:=yh5 hi a2 a3 hz2 hk
 go_enter Tryz.func113,Tryz.ntmps113
 go_wp2
 go_loopw [1,2] (λ v i wr=>∃ k:Nat,k<=4096/\i=I k/\wr.ownsRow w.heap.size 4 1 v k (ae6 (List.replicate k false))/\AaA NoF w wr) (λ _ i _=>4096 - (intOf i).toNat)
 case atStart=>exact ⟨0,by omega,rfl,World.ownsRow_nil _ _ _ _,hk.out⟩
 case round=>
  obtain ⟨k,hk1,rfl,hown,hk2⟩:=hrel
  by_cases a6:k<4096
  ·have a7:(k:Int)<4096:=by omega
   replace hk2:=hid hk2
   go_wp2_with (at_builtin;refine wpList_append_own _ rfl _ _ 127 rfl w.heap.size 4 i0 ↑false 1 1 arC hi.out a2.out a3.out hz2.out rfl (by decide) _ _ _ rfl (hown.alloc _) ⟨wr.heap.size,0,none⟩ 1 1 [↑false] rfl rfl ?c1 ?c2 ?c3 ?c4 ?c5 ?_)
   case c1=>
    intro j u hj
    match j,hj with
    | 0,hj=>simp at hj;subst hj;simp [Addr.add]
   case c2=>intro u hu;simp at hu;subst hu;rfl
   case c3=>unfold maxLen;omega
   case c4=>omega
   case c5=>have:=hk2.out.size;simp;omega
   ·intro v' w1 a0 a1 hx
    have a5:=(hk2.out.alloc _).grown a1 (λ k hk=>.inr (aaV hown k hk))
    rw [← aq4] at a0
    replace ⟨a0,a5,hown⟩:=yh3 a0 a5 hown;clear a1
    go_wp2
    exact ⟨⟨k+1,by omega,by go_num,a0.out,a5.out⟩,by simp [intOf];omega⟩
  ·have a7:¬ (k:Int)<4096:=by omega
   obtain rfl:k=4096:=by omega
   replace ⟨hk2,hown⟩:=yh2 hk2 hown
   go_wp2
   go_ret
   exact ⟨u1,rfl,by rw [← hf.out];exact a4.out _ _ hown.out,hk2.out⟩
theorem aq3 (l:List Bool) (k:Nat) (h:k<l.length):ae6 (l.take (k+1))=ae6 (l.take k)++[.bool l[k]]:=by
 rw [List.take_add_one,aEG h];unfold ae6;rw [List.map_append];rfl
theorem ar8 (w:World) (g cap:Nat) (l:List Bool) (hc:∀ j (h:j<l.length),w.cell? ⟨g,j,none⟩=some (.bool l[j])) (hl:l.length<=4096) :
  Calls prog 252 #[.slice ↑g l.length cap] w λ e w'=>∃ v,e=.returned v/\AaW w' w.heap.size v l/\AaA NoF w w':=by
 obtain ⟨i0,hi,a3,a4,hz2⟩:=info_parts arZ
 have hk:=AaA.refl NoF w
 have a2:∀ W v,W.ownsRow w.heap.size 4 1 v l.length (ae6 (l.take l.length))->AaW W w.heap.size v l:=λ W v h=>by
  rw [List.take_length] at h;exact h
 obtain ⟨n,hn⟩:∃ n,l.length=n:=⟨_,rfl⟩
 rw [hn] at a2 hl ⊢
 replace ⟨hi,a3,a4,hz2,hk,a2,hc⟩:=yh7 hi a3 a4 hz2 hk a2 hc
 go_enter Tryz.func252,Tryz.ntmps252
 go_wp2
 go_loopw [3,4] (λ v i wr=>∃ k:Nat,k<=n/\i=I k/\wr.ownsRow w.heap.size 4 1 v k (ae6 (l.take k))/\AaA NoF w wr) (λ _ i _=>n - (intOf i).toNat)
 case atStart=>exact ⟨0,by omega,rfl,World.ownsRow_nil _ _ _ _,hk.out⟩
 case round=>
  obtain ⟨k,hk1,rfl,hown,hk2⟩:=hrel
  by_cases a7:k<n
  ·have a8:(k:Int)<n:=by omega
   have a9:0<=(k:Int)/\(k:Int)<(n:Nat):=by omega
   have a6:=hk2.cellF (hc.out k (by omega)) (λ f=>f)
   obtain ⟨b,hb⟩:∃ b,l[k]=b:=⟨_,rfl⟩
   rw [hb] at a6
   have hsn:=aq3 l k (by omega)
   rw [hb] at hsn
   replace ⟨hk2,hsn⟩:=yh2 hk2 hsn;clear hb
   go_wp2_with (at_builtin;refine wpList_append_own _ rfl _ _ 127 rfl w.heap.size 4 i0 ↑false 1 1 arC hi.out a3.out a4.out hz2.out rfl (by decide) _ _ _ rfl (hown.alloc _) ⟨wr.heap.size,0,none⟩ 1 1 [.bool b] rfl rfl ?c1 ?c2 ?c3 ?c4 ?c5 ?_)
   case c1=>
    intro j u hj
    match j,hj with
    | 0,hj=>simp at hj;subst hj;simp [Addr.add]
   case c2=>intro u hu;simp at hu;subst hu;rfl
   case c3=>unfold maxLen;omega
   case c4=>omega
   case c5=>have:=hk2.out.size;simp;omega
   ·intro v' w1 a0 a1 hx
    have a5:=(hk2.out.alloc _).grown a1 (λ k hk=>.inr (aaV hown k hk))
    rw [← hsn.out] at a0
    replace ⟨a0,a5,hown⟩:=yh3 a0 a5 hown;clear a1
    clear a6
    go_wp2
    exact ⟨⟨k+1,by omega,by go_num,a0.out,a5.out⟩,by simp [intOf];omega⟩
  ·have a8:¬ (k:Int)<n:=by omega
   obtain rfl:k=n:=by omega
   replace ⟨hk2,hown⟩:=yh2 hk2 hown
   go_wp2
   go_ret
   exact ⟨u3,rfl,a2.out _ _ hown.out,hk2.out⟩
theorem AaW.keeps {w w':World} {lo:Nat} {v:Value} {l:List Bool} {Gf:Nat->Prop} (h:AaW w lo v l) (k:AaA Gf w w') (hG:∀ g,lo<=g->¬ Gf g):AaW w' lo v l:=by
 refine ⟨h.1,?_⟩
 rcases h.2 with h2|⟨g,cap,cur,rfl,hb,hh,rest⟩
 ·exact .inl h2
 ·refine .inr ⟨g,cap,cur,rfl,hb,?_,rest⟩
  have hlt:g<w.heap.size:=by
   by_cases hx:g<w.heap.size
   ·exact hx
   ·rw [Array.getElem?_eq_none (by omega)] at hh;cases hh
  rw [k.block g hlt (hG g hb)];exact hh
theorem AaW.lo {w:World} {lo lo':Nat} {v:Value} {l:List Bool} (h:AaW w lo v l) (hl:lo'<=lo):AaW w lo' v l:=by
 refine ⟨h.1,?_⟩
 rcases h.2 with h2|⟨g,cap,cur,rfl,hb,rest⟩
 ·exact .inl h2
 ·exact .inr ⟨g,cap,cur,rfl,by omega,rest⟩
theorem AaW.slice {w:World} {lo:Nat} {v:Value} {l:List Bool} (h:AaW w lo v l) (hn:0<l.length):∃ g cap,v=.slice (some ⟨g,0,none⟩) l.length cap/\lo<=g/\g<w.heap.size/\∀ j (h:j<l.length),w.cell? ⟨g,j,none⟩=some (.bool l[j]):=by
 rcases id h.2 with ⟨_,h2⟩|⟨g,cap,cur,rfl,hb,hh,rest⟩
 ·omega
 ·refine ⟨g,cap,rfl,hb,?_,λ j hj=>?_⟩
  ·by_cases hx:g<w.heap.size
   ·exact hx
   ·rw [Array.getElem?_eq_none (by omega)] at hh;cases hh
  ·have:=World.ownsRow.cells h (g:=g) rfl j (.bool l[j]) (by simp [ae6,aEG hj])
   have e:(⟨g,0,none⟩:Addr).add j=⟨g,j,none⟩:=by unfold Addr.add;split<;>simp_all
   rw [e] at this
   exact this
theorem azB (w:World) (g1 c1 g2 c2:Nat) (l1 l2:List Bool) (h1:∀ j (h:j<l1.length),w.cell? ⟨g1,j,none⟩=some (.bool l1[j])) (h2:∀ j (h:j<l2.length),w.cell? ⟨g2,j,none⟩=some (.bool l2[j])) (n1:l1.length<=4096) (n2:l2.length<=4096) (p1:0<l1.length) (p2:0<l2.length) :
  Calls prog 230 #[.agg #[.slice ↑g1 l1.length c1,.slice ↑g2 l2.length c2]] w λ e w'=>
   ∃ v1 v2,e=U (.agg #[v1,v2])/\AaW w' w.heap.size v1 l1/\AaW w' w.heap.size v2 l2/\v1.ownBlock≠v2.ownBlock/\AaA NoF w w':=by
 have a3:=λ W (x:AaA NoF w W)=>ar8 W g1 c1 l1 (λ j hj=>x.cellF (h1 j hj) (λ f=>f)) n1
 have a4:=λ W (x:AaA NoF w W)=>ar8 W g2 c2 l2 (λ j hj=>x.cellF (h2 j hj) (λ f=>f)) n2
 generalize a5:l1.length=m1 at a3 ⊢
 generalize a6:l2.length=m2 at a4 ⊢
 replace ⟨a3,a4,p1,p2⟩:=yh4 a3 a4 p1 p2;clear h1 h2 n1 n2 a5 a6
 go_enter Tryz.func230,Tryz.ntmps230
 go_upto_region 1 with fail
 have q1:Blk ((w.alloc (.cells #[.slice ↑g1 m1 c1,.slice ↑g2 m2 c2] 129 (0,0))).alloc (.cells #[.slice none 0 0,.slice none 0 0] 129 (0,0))) w.heap.size (.cells #[.slice ↑g1 m1 c1,.slice ↑g2 m2 c2] 129 (0,0)):=(Blk.new w _).alloc _
 have q2:Blk ((w.alloc (.cells #[.slice ↑g1 m1 c1,.slice ↑g2 m2 c2] 129 (0,0))).alloc (.cells #[.slice none 0 0,.slice none 0 0] 129 (0,0))) (w.heap.size+1) (.cells #[.slice none 0 0,.slice none 0 0] 129 (0,0)):=by
  have:=Blk.new (w.alloc (.cells #[.slice ↑g1 m1 c1,.slice ↑g2 m2 c2] 129 (0,0))) (.cells #[.slice none 0 0,.slice none 0 0] 129 (0,0))
  rw [aEI] at this
  exact this
 have q3:AaA NoF w ((w.alloc (.cells #[.slice ↑g1 m1 c1,.slice ↑g2 m2 c2] 129 (0,0))).alloc (.cells #[.slice none 0 0,.slice none 0 0] 129 (0,0))):=((AaA.refl _ w).alloc _).alloc _
 refine adW (λ W=>Blk W w.heap.size (.cells #[.slice ↑g1 m1 c1,.slice ↑g2 m2 c2] 129 (0,0))/\Blk W (w.heap.size+1) (.cells #[.slice none 0 0,.slice none 0 0] 129 (0,0))/\AaA NoF w W) ⟨q1,q2,q3⟩ ?_
 clear q1 q2 q3
 rintro w1 ⟨q1,q2,q3⟩
 have a0:w1.drew.cell? ↑w.heap.size=some (.slice ↑g1 m1 c1):=by have:=q1.drew.cell 0;simpa using this
 have a1:w1.drew.cell? ⟨w.heap.size,1,none⟩=some (.slice ↑g2 m2 c2):=by have:=q1.drew.cell 1;simpa using this
 have a2:=q3.drew
 have hlt:=q2.lt
 replace ⟨q2,a2⟩:=yh2 q2 a2;clear q1 q3
 go_region_held3 (λ W=>W.cell? ↑w.heap.size=some (.slice ↑g1 m1 c1)/\W.cell? ⟨w.heap.size,1,none⟩=some (.slice ↑g2 m2 c2)) (first|with_reducible exact ⟨a0,a1⟩|with_reducible exact ⟨b0,b1⟩|with_reducible exact ⟨d0,d1⟩|exact ⟨abB (abB d0 (by dsimp only;omega) _) (by dsimp only;omega) _,abB (abB d1 (by dsimp only;omega) _) (by dsimp only;omega) _⟩) (first
  | (go_at_call_of 252 (Value.slice ↑g1 m1 c1);refine (a3.out _ a2.out).mono ?_;rintro e w2 ⟨v1,rfl,r1,k2⟩;obtain ⟨gg1,cc1,rfl,_,hgl1,_⟩:=r1.slice p1.out;replace hgl1:=hid hgl1;have b0:=k2.cellF a0 (λ f=>f);have b1:=k2.cellF a1 (λ f=>f);replace ⟨k2,r1⟩:=yh2 k2 r1)
  | (go_at_call_of 252 (Value.slice ↑g2 m2 c2);refine (a4.out _ (a2.out.step k2.out)).mono ?_;rintro e w3 ⟨v2,rfl,r2,k3⟩;obtain ⟨gg2,cc2,rfl,hgl2,_,_⟩:=r2.slice p2.out;replace hgl2:=hid hgl2;have d0:=k3.cellF b0 (λ f=>f);have d1:=k3.cellF b1 (λ f=>f);have q4:=k3.blk (k2.out.blk q2.out.drew (λ f=>f)) (λ f=>f);have e0:=q4.cell 0;have e1:=q4.cell 1;have ef:=q4.frz;simp at e0 e1;replace ⟨k3,r2,q4⟩:=yh3 k3 r2 q4))
 all_goals
  have hst:AaA (λ i=>i=w.heap.size+1) w3 ((w3.setCell ⟨w.heap.size+1,0,none⟩ (.slice ↑gg1 l1.length cc1)).setCell ⟨w.heap.size+1,1,none⟩ (.slice ↑gg2 l2.length cc2)):=((AaA.refl (λ i=>i=w.heap.size+1) w3).setCell (p:=⟨w.heap.size+1,0,none⟩) (.inl rfl) _).setCell (p:=⟨w.heap.size+1,1,none⟩) (.inl rfl) _
  have q5:=(q4.out.setCell 0 (.slice ↑gg1 l1.length cc1)).setCell 1 (.slice ↑gg2 l2.length cc2)
  simp at q5
  have x0:=q5.cell 0
  have x1:=q5.cell 1
  simp at x0 x1
  have z1:=w1.drew.heap.size
  have y1:=(r1.out.keeps k3.out (λ _ _ f=>f))
  have kk:AaA NoF w1.drew w3:=k2.out.step k3.out
  have kw:AaA NoF w w3:=a2.out.step kk
  have kf:=kw.trans hst (λ i hi e=>by omega)
  replace ⟨hst,y1,kf⟩:=yh3 hst y1 kf;clear q5 kk kw
  go_wp2
  have a7:w.heap.size+1<w1.drew.heap.size:=hlt
  have hz2:w.heap.size+1<w2.heap.size:=aEJ a7 k2.out.size
  exact bodyPost_ret (v:=.agg #[.slice ↑gg1 l1.length cc1,.slice ↑gg2 l2.length cc2]) (by simp [results,Tryz.results230,go_sem,x0,x1]) rfl
   ⟨_,_,rfl,(y1.out.keeps hst.out (λ g hg e=>by omega)).lo (by omega),(r2.out.keeps hst.out (λ g hg e=>by omega)).lo (by omega),λ x=>by have y1:gg1=gg2:=aEP x;have y2:=hgl1.out;have y3:=hgl2.out;omega,kf.out⟩
def valK (l:List Bool) (i:Nat):Nat->Nat
 | 0=>0
 | n+1=>2*valK l i n+(if l.getD (8*i+(7 - n)) false then 1 else 0)
theorem anR (l:List Bool) (i:Nat):∀ n,valK l i n<2 ^ n
 | 0=>by simp [valK]
 | n+1=>by
  have:=anR l i n
  unfold valK
  rw [Nat.pow_succ]
  split<;>omega
def aeK (l:List Bool) (n:Nat):List UInt8:=(List.range n).map λ i=>UInt8.ofNat (valK l i 8)
def Ab5 (w:World) (lo:Nat) (v:Value) (l:List UInt8):Prop:=w.ownsRow lo 5 1 v l.length (l.map B)
theorem apV (l:List Bool) (k:Nat):(aeK l (k+1)).map B=(aeK l k).map B++[.int .u8 (valK l k 8:Nat)]:=by
 unfold aeK
 rw [List.range_succ,List.map_append,List.map_append]
 congr 1
 have h:=anR l k 8
 simp only [List.map_cons,List.map_nil,B]
 rw [show (UInt8.ofNat (valK l k 8)).toNat=valK l k 8 from by rw [UInt8.toNat_ofNat'];exact Nat.mod_eq_of_lt h]
theorem axX (w:World) (g cap:Nat) (l:List Bool) (hc:∀ j (h:j<l.length),w.cell? ⟨g,j,none⟩=some (.bool l[j])) (hl:l.length=4096) :
  Calls prog 186 #[.slice ↑g 4096 cap] w λ e w'=>∃ v,e=.returned v/\Ab5 w' w.heap.size v (aeK l 512)/\AaA NoF w w':=by
 obtain ⟨i0,hi,a3,a4,hz2⟩:=info_parts ak7
 have hk:=AaA.refl NoF w
 have a5:∀ W v,W.ownsRow w.heap.size 5 1 v 512 ((aeK l 512).map B)->Ab5 W w.heap.size v (aeK l 512):=λ W v h=>by
  unfold Ab5;rw [show (aeK l 512).length=512 by simp [aeK]];exact h
 obtain ⟨fl,hf⟩:∃ fl,aeK l 512=fl:=⟨_,rfl⟩
 rw [hf]
 replace ⟨hi,a3,a4,hz2,hk,a5,hf,hc⟩:=yh8 hi a3 a4 hz2 hk a5 hf hc
 go_enter Tryz.func186,Tryz.ntmps186
 go_wp2
 go_loopw [3,4,5,6] (λ v i _ _ wr=>∃ k:Nat,k<=512/\i=I k/\wr.ownsRow w.heap.size 5 1 v k ((aeK l k).map B)/\AaA NoF w wr) (λ _ i _ _ _=>512 - (intOf i).toNat)
 case atStart=>exact ⟨0,by omega,rfl,World.ownsRow_nil _ _ _ _,hk.out⟩
 case round=>
  obtain ⟨k,hk1,rfl,hown,hk2⟩:=hrel
  by_cases af:k<512
  ·have ag:(k:Int)<512:=by omega
   replace ⟨hk2,hown⟩:=yh2 hk2 hown
   go_wp2
   go_loopw [5,6] (λ v kk wr'=>∃ n:Nat,n<=8/\v=I (valK l k n:Nat)/\kk=I (7 - (n:Int))/\wr'=wr) (λ _ kk _=>(intOf kk+1).toNat)
   case atStart=>exact ⟨0,by omega,rfl,rfl,rfl⟩
   case round=>
    obtain ⟨n,ah,rfl,rfl,rfl⟩:=hrel
    by_cases ak:n<8
    ·have ai:(0:Int)<=7 - (n:Int):=by omega
     have a2:=anR l k n
     have a8:valK l k n<256:=aEJ a2 (aE5 (by decide) ah:2 ^ n<=2 ^ 8)
     have a9:IntKind.i64.wrap (2*(valK l k n:Int))=((2*valK l k n:Nat):Int):=by rw [aaO (by omega) (by omega)];omega
     have aa:IntKind.i64.wrap (8*(k:Int))=((8*k:Nat):Int):=by rw [aaO (by omega) (by omega)];omega
     have hj:IntKind.i64.wrap (((8*k:Nat):Int)+(7 - (n:Int)))=((8*k+(7 - n):Nat):Int):=by rw [aaO (by omega) (by omega)];omega
     have hd:IntKind.i64.wrap (7 - (n:Int) - 1)=7 - ((n+1:Nat):Int):=by rw [aaO (by omega) (by omega)];omega
     have ab:0<=((8*k+(7 - n):Nat):Int)/\((8*k+(7 - n):Nat):Int)<(4096:Nat):=by omega
     have a6:=hk2.out.cellF (hc.out (8*k+(7 - n)) (by rw [hl];omega)) (λ f=>f)
     have hvs:valK l k (n+1)=2*valK l k n+(if l.getD (8*k+(7 - n)) false then 1 else 0):=rfl
     have ac:l.getD (8*k+(7 - n)) false=l[8*k+(7 - n)]'(by rw [hl];omega):=by rw [aEL,aEG (by rw [hl];omega)];rfl
     rw [ac] at hvs
     generalize l[8*k+(7 - n)]'(by rw [hl];omega)=b at a6 hvs
     have ad:IntKind.i64.wrap (((2*valK l k n:Nat):Int)+1)=((2*valK l k n+1:Nat):Int):=by rw [aaO (by omega) (by omega)];omega
     clear ac
     cases b with
     | true=>
      rw [if_pos rfl] at hvs
      generalize 8*k+(7 - n)=j at hj ab a6
      generalize 2*valK l k n=v2 at a9 ad hvs
      generalize 8*k=k8 at aa hj
      replace ⟨hvs,a2⟩:=yh2 hvs a2
      go_wp2
      exact ⟨⟨n+1,by omega,by rw [hvs.out];rfl,rfl,trivial⟩,by simp [intOf];omega⟩
     | false=>
      rw [if_neg (by decide)] at hvs
      generalize 8*k+(7 - n)=j at hj ab a6
      generalize 2*valK l k n=v2 at a9 ad hvs
      generalize 8*k=k8 at aa hj
      replace hvs:=hid hvs;clear a2
      go_wp2
      exact ⟨⟨n+1,by omega,by rw [hvs.out];rfl,rfl,trivial⟩,by simp [intOf];omega⟩
    ·have ai:¬ (0:Int)<=7 - (n:Int):=by omega
     obtain rfl:n=8:=by omega
     have ae:valK l k 8<256:=anR l k 8
     have aj:IntKind.u8.wrap ((valK l k 8:Nat):Int)=((valK l k 8:Nat):Int):=by rw [IntKind.wrap_u8'];omega
     have hsn:=apV l k
     generalize valK l k 8=vv at aj hsn ae
     replace hsn:=hid hsn;clear ae
     replace hown:=hown.out
     go_wp2_with (at_builtin;refine wpList_append_own _ rfl _ _ 40 rfl w.heap.size 5 i0 (.int .u8 0) 1 1 afL hi.out a3.out a4.out hz2.out rfl (by decide) _ _ _ rfl (hown.alloc _) ⟨wr.heap.size,0,none⟩ 1 1 [.int .u8 vv] rfl rfl ?c1 ?c2 ?c3 ?c4 ?c5 ?_)
     case c2=>rfl
     case c3=>unfold maxLen;omega
     case c4=>omega
     case c5=>have:=hk2.out.size;simp;omega
     ·intro v' w1 a0 a1 hx
      have a7:=(hk2.out.alloc _).grown a1 (λ k hk=>.inr (aaV hown k hk))
      rw [← hsn.out] at a0
      replace ⟨a0,a7,hown⟩:=yh3 a0 a7 hown;clear a1
      go_wp2
      exact ⟨⟨k+1,by omega,by go_num,a0.out,a7.out⟩,by simp [intOf];omega⟩
  ·have ag:¬ (k:Int)<512:=by omega
   obtain rfl:k=512:=by omega
   replace ⟨hk2,hown⟩:=yh2 hk2 hown
   go_wp2
   go_ret
   exact ⟨_,rfl,by rw [← hf.out];exact a5.out _ _ hown.out,hk2.out⟩
end Go.Vk
