/- Part of the proof: Nn3 Nc3 Nq1 Nc2 Nq2 Nq3. -/
import Derived.Test.YtjeelghnmkefcaaGreatQ04
import Derived.Test.YtjeelghnmkefcaaGreatQ24
import Derived.Test.YtjeelghnmkefcaaGreatQ27
import Derived.Test.YtjeelghnmkefcaaGreatQ28
set_option linter.unusedVariables false
set_option maxHeartbeats 16000000
set_option maxRecDepth 100000
namespace Go.Vk
open Go.RowKit Go.Proofs
open Tryz (prog)
def Wid (X:Nat->Prop) (w w':World) (i:Nat):Prop:=X i∨w.heap.size<=i/\i<w'.heap.size
structure Ab4 (w:World) (C:TxC) (T:TS) (X:Nat->Prop) (tab p:Nat):Prop where
 pl:Aa6 w C T X
 ht:Blk w tab (tabO p)
 hp:Blk w p (ab3 C.t)
 xt:X tab
 xp:X p
 n4:C.G.n % 4=0
def thrE (c:Nat):Ending:=.panicked [{ v:=errV c,recovered:=false }]
theorem aB3:endE 0 (U (.tuple #[])):=.inl ⟨rfl,rfl⟩
theorem adE {c:Nat} (h:c≠0):endE c (thrE c):=.inr ⟨h,rfl⟩
section
variable {w w':World} {C:TxC} {T T':TS} {X Y:Nat->Prop} {tab p:Nat}
theorem Ab4.quiet (h:Ab4 w C T X tab p) (k:AaA NoF w w'):Ab4 w' C T X tab p:=
 ⟨h.pl.quiet k,k.blk h.ht (λ f=>f),k.blk h.hp (λ f=>f),h.xt,h.xp,h.n4⟩
theorem Ab4.wide (h:Ab4 w C T X tab p) (k:AaA NoF w w'):Ab4 w' C T (Wid X w w') tab p:=
 ⟨h.pl.wider k,k.blk h.ht (λ f=>f),k.blk h.hp (λ f=>f),.inl h.xt,.inl h.xp,h.n4⟩
theorem Ab4.step (h:Ab4 w C T X tab p) {F:Nat->Prop} (k:AaA F w w') (hF:∀ i,F i->KF C i∨¬ X i) (h':Aa6 w' C T' X):Ab4 w' C T' X tab p:=
 ⟨h',k.blk h.ht (λ f=>(hF _ f).elim (h.pl.notF h.xt) (λ g=>g h.xt)),k.blk h.hp (λ f=>(hF _ f).elim (h.pl.notF h.xp) (λ g=>g h.xp)),h.xt,h.xp,h.n4⟩
theorem Ab4.to (h:Ab4 w C T X tab p) {F:Nat->Prop} (k:AaA F w w') (ht:¬ F tab) (hp:¬ F p) (h':Aa6 w' C T' Y) (hY:∀ i,X i->Y i):Ab4 w' C T' Y tab p:=
 ⟨h',k.blk h.ht ht,k.blk h.hp hp,hY _ h.xt,hY _ h.xp,h.n4⟩
theorem Ab4.mine (h:Ab4 w C T X tab p) {F:Nat->Prop} (k:AaA F w w') (hF:∀ i,F i->X i/\i≠tab/\i≠p):Ab4 w' C T X tab p:=
 ⟨h.pl.grow k (λ i _ f=>(hF i f).1) (λ i hi=>⟨aEJ (h.pl.lt i hi) k.size,.inl hi⟩),k.blk h.ht (λ f=>(hF _ f).2.1 rfl),k.blk h.hp (λ f=>(hF _ f).2.2 rfl),h.xt,h.xp,h.n4⟩
theorem az3:∃ d,(prog).underlying 160=some d/\d.isRow=true:=by
 refine ⟨.struct ((prog).fieldsOf 160),by kernel_rfl,rfl⟩
theorem arJ:((prog).info? 160).map (·.size)=some 3:=by kernel_rfl
theorem Aa6.layout (h:Aa6 w C T X):Calls prog 86 #[↑C.t] w λ e w'=>e=U (.agg #[I C.G.lg,I (3+C.G.lg:Nat),I C.G.blocks,I C.G.n,I (2+C.G.n / 4:Nat)])/\AaA NoF w w':=by
 obtain ⟨M,h1,_⟩:=h.rep
 exact ag9 h1
theorem Ab4.cells (h:Ab4 w C T X tab p):w.cell? ↑tab=some ↑p/\w.cell? ↑p=some ↑C.t:=by
 have a:=h.ht.cell 0
 have b:=h.hp.cell 0
 simp at a b
 exact ⟨a,b⟩
def Aj0 (w:World) (G:Geom) (k:Int) (e:Ending) (w':World):Prop:=AaA NoF w w'/\(¬ (k<1∨(G.n:Int)<k)/\e=U (.tuple #[])∨(k<1∨(G.n:Int)<k)/\e=thrE 11)
theorem aiV (h:Ab4 w C T X tab p) (k:Int):Calls prog 94 #[↑tab,I k] w (Aj0 w C.G k):=by
 obtain ⟨a0,b0⟩:=h.cells
 have hL:=h.pl.layout
 have a4:∀ (a b c d e:Value) (w:World),(Instr.field 53 (.agg #[a,b,c,d,e]) 3).run prog w=.ok d w:=λ a b c d e w=>by kernel_rfl
 have hg:=h.pl.geo.n2
 have a1:¬ (k<1∨(C.G.n:Int)<k)->∀ w',AaA NoF w w'->Aj0 w C.G k (U (.tuple #[])) w':=λ a w' b=>⟨b,.inl ⟨a,rfl⟩⟩
 have hP2:(k<1∨(C.G.n:Int)<k)->∀ w',AaA NoF w w'->Aj0 w C.G k (thrE 11) w':=λ a w' b=>⟨b,.inr ⟨a,rfl⟩⟩
 generalize Aj0 w C.G k=Post at *
 generalize C.G.n=n at *
 generalize 3+C.G.lg=v1 at hL
 generalize 2+n / 4=v2 at hL
 by_cases h1:k<1
 ·have hQ:=hP2 (.inl h1) w (AaA.refl _ w)
  have a2:decide (k<1)=true:=decide_eq_true h1
  replace ⟨h,hL,a1,hP2,hQ,h1⟩:=yh6 h hL a1 hP2 hQ h1
  go_enter Tryz.func94,Tryz.ntmps94
  go_wp2_with fail
  exact ⟨rfl,hQ.out⟩
 ·have a2:decide (k<1)=false:=decide_eq_false h1
  by_cases h2:(n:Int)<k
  ·have a3:decide ((n:Int)<k)=true:=decide_eq_true h2
   have hP2:=hP2 (.inr h2)
   replace ⟨h,hL,a1,hP2,h1,h2⟩:=yh6 h hL a1 hP2 h1 h2
   go_enter Tryz.func94,Tryz.ntmps94
   go_wp2_with (go_at_call 86;refine hL.out.mono ?_;rintro e w1 ⟨rfl,k1⟩;replace k1:=hid k1)
   exact ⟨rfl,hP2.out _ k1.out⟩
  ·have a3:decide ((n:Int)<k)=false:=decide_eq_false h2
   have a1:=a1 (λ x=>x.elim h1 h2)
   replace ⟨hL,a1⟩:=yh2 hL a1;clear h hP2 h1 h2
   go_enter Tryz.func94,Tryz.ntmps94
   go_wp2_with (go_at_call 86;refine hL.out.mono ?_;rintro e w1 ⟨rfl,k1⟩;replace k1:=hid k1)
   go_end0
   exact a1.out _ k1.out
def afX (k b g cap:Nat):Value:=.agg #[I k,I b,.slice ↑g 512 cap]
def ac5 (k b g cap:Nat):Obj:=.cells #[I k,I b,.slice ↑g 512 cap] 160 (0,0)
def AjU (w:World) (C:TxC) (T:TS) (X:Nat->Prop) (tab p k:Nat) (e:Ending) (w':World):Prop:=
 ∃ g c,e=U (afX k (nblk k) g (512+c))/\w.heap.size<=g/\Blk w' g (aaE (T.raw (nblk k)++aaD c))/\Ab4 w' C T (Wid X w w') tab p/\AaA (KF C) w w'
theorem aiU {G:Geom} (hg:AtR G) {k:Nat} (h:k<=G.n):nblk k<G.blocks:=by
 have:=hg.b1
 unfold nblk;omega
theorem alY (h:Ab4 w C T X tab p) (h0:T.st=0) (k:Nat) (h1:1<=k) (h2:k<=C.G.n):Calls prog 96 #[↑tab,I k] w (AjU w C T X tab p k):=by
 have hA:=h.quiet ((AaA.refl NoF w).alloc (.cells #[I 0,I 0,.slice none 0 0] 160 (0,0)))
 obtain ⟨a0,b0⟩:=hA.cells
 have ab:=aiU h.pl.geo h2
 have hn:=h.pl.geo.n2
 have hW:=h.wide ((AaA.refl NoF w).alloc (.cells #[I 0,I 0,.slice none 0 0] 160 (0,0)))
 have hG:=hW.pl.get h0 (nblk k) ab
 have a5:=Blk.new w (.cells #[I 0,I 0,.slice none 0 0] 160 (0,0))
 have hq:((k:Int) - 1).tdiv 4=(((k - 1) / 4:Nat):Int):=by rw [show ((k:Int) - 1)=((k - 1:Nat):Int) by omega];rfl
 have hb:2+(((k - 1) / 4:Nat):Int)=((nblk k:Nat):Int):=by unfold nblk;omega
 have a7:AaA NoF w (w.alloc (.cells #[I 0,I 0,.slice none 0 0] 160 (0,0))):=(AaA.refl NoF w).alloc _
 have hP:∀ g c w',w.heap.size<=g->Blk w' g (aaE (T.raw (nblk k)++aaD c))->Ab4 w' C T (Wid X w w') tab p->AaA (KF C) w w'->AjU w C T X tab p k (U (afX k (nblk k) g (512+c))) w':=λ g c w' a b d e=>⟨g,c,rfl,a,b,d,e⟩
 generalize AjU w C T X tab p k=Post at *
 have af:(0:Int)<=(((k - 1) / 4:Nat):Int)/\(((k - 1) / 4:Nat):Int)<=1024:=by omega
 have hlt:=a5.lt
 generalize (k - 1) / 4=q at *
 replace ⟨h,hW,hG,a5,a7,hP,hlt⟩:=yh7 h hW hG a5 a7 hP hlt;clear hA h0
 go_enter Tryz.func96,Tryz.ntmps96
 go_upto_region 2 with fail
 generalize w.alloc (.cells #[I 0,I 0,.slice none 0 0] 160 (0,0))=wA at *
 go_wp2_with fail
 refine hG.out.mono ?_
 rintro e w1 ⟨g,c,rfl,c1,c2,c3,c4⟩
 have ag:=c4.size
 have ac:=hlt.out
 have ad:=hW.out.pl.notF (.inr ⟨aEK _,ac⟩)
 have a2:=c4.blk a5.out ad
 have kW:AaA (KF C) w w1:=(a7.out.mono (λ _ _ f=>f.elim)).step c4
 have a9:Ab4 w1 C T (Wid X w w1) tab p:=hW.out.to c4 (hW.out.pl.notF hW.out.xt) (hW.out.pl.notF hW.out.xp) (c3.less (λ i hi=>hi.elim (λ x=>.inl (.inl x)) (λ x=>by
  by_cases e:i<wA.heap.size
  ·exact .inl (.inr ⟨x.1,e⟩)
  ·exact .inr ⟨by omega,x.2⟩))) (λ i hi=>hi.elim .inl (λ x=>.inr ⟨x.1,by omega⟩))
 have hk2:=(((AaA.refl (· = w.heap.size) w1).setCell (p:=⟨w.heap.size,0,none⟩) (.inl rfl) (I k)).setCell (p:=⟨w.heap.size,1,none⟩) (.inl rfl) (I (nblk k:Nat))).setCell (p:=⟨w.heap.size,2,none⟩) (.inl rfl) (.slice ↑g 512 (512+c))
 have a6:=((a2.setCell 0 (I k)).setCell 1 (I (nblk k:Nat))).setCell 2 (.slice ↑g 512 (512+c))
 simp at a6
 have ae:g≠w.heap.size:=by omega
 have aa:=hk2.blk c2 ae
 have l1:=h.out.pl.lt _ h.out.xt
 have l2:=h.out.pl.lt _ h.out.xp
 have a1:=a9.mine hk2 (λ i e=>⟨.inr ⟨by omega,by omega⟩,by omega,by omega⟩)
 have a3:∀ i,Wid X w w1 i->Wid X w (((w1.setCell ↑w.heap.size (I k)).setCell ⟨w.heap.size,1,none⟩ (I (nblk k:Nat))).setCell ⟨w.heap.size,2,none⟩ (.slice ↑g 512 (512+c))) i:=λ i hi=>hi.elim .inl (λ x=>.inr ⟨x.1,by simp only [aES];exact x.2⟩)
 have a4:Ab4 _ C T (Wid X w (((w1.setCell ↑w.heap.size (I k)).setCell ⟨w.heap.size,1,none⟩ (I (nblk k:Nat))).setCell ⟨w.heap.size,2,none⟩ (.slice ↑g 512 (512+c)))) tab p:=a1.to (AaA.refl NoF _) (λ f=>f) (λ f=>f) (a1.pl.less (λ i hi=>hi.elim .inl (λ x=>.inr ⟨x.1,by have:=x.2;simp only [aES] at this;exact this⟩))) a3
 have hPP:=hP.out g c _ (by omega) aa a4 (kW.fresh hk2 (λ i e=>by omega))
 have d0:=a2.cell 0
 have d1:=a2.cell 1
 have d2:=a2.cell 2
 have df:=a2.frz
 simp at d0 d1 d2
 clear hk2 aa a9 a1 a4 a3 kW c1 c2 c3 c4 a2
 obtain ⟨ds,us,a8⟩:=az3
 replace ⟨a6,hPP,us,a8⟩:=yh4 a6 hPP us a8
 go_wp2_with (go_at_call 103;refine (akF _).mono ?_;rintro e w3 ⟨rfl,rfl⟩)
 exact bodyPost_ret (v:=afX k (nblk k) g (512+c)) (afO rfl _ _ w.heap.size 160 [I k,I (nblk k:Nat),.slice ↑g 512 (512+c)] ds rfl a6.out us.out a8.out arJ) rfl hPP.out
end
end Go.Vk
namespace Go.Vk
def adF (r:Nat):Nat:=if r % 2=1 then (r / 2) ^^^ 2197175160 else r / 2
def adA:Nat->Nat->Nat
 | 0,r=>r
 | k+1,r=>adA k (adF r)
theorem aq5 (a b:Nat):adF (a ^^^ b)=adF a ^^^ adF b:=by
 have hd:(a ^^^ b) / 2=a / 2 ^^^ b / 2:=by
  apply Nat.eq_of_testBit_eq
  intro i
  rw [Nat.testBit_xor,Nat.testBit_div_two,Nat.testBit_div_two,Nat.testBit_div_two,Nat.testBit_xor]
 have hm:(a ^^^ b) % 2=(a % 2+b % 2) % 2:=by
  have h1:=Nat.testBit_xor a b 0
  rw [Nat.testBit_zero,Nat.testBit_zero,Nat.testBit_zero] at h1
  rcases Nat.mod_two_eq_zero_or_one a with x|x<;>rcases Nat.mod_two_eq_zero_or_one b with y|y<;>rcases Nat.mod_two_eq_zero_or_one (a ^^^ b) with z|z<;>rw [x,y,z] at h1<;>rw [x,y,z]<;>first|rfl|(revert h1;decide)
 unfold adF
 rw [hd,hm]
 by_cases x:a % 2=1
 ·by_cases y:b % 2=1
  ·rw [if_neg (by omega),if_pos x,if_pos y]
   apply Nat.eq_of_testBit_eq
   intro i
   simp only [Nat.testBit_xor]
   cases (a / 2).testBit i<;>cases (b / 2).testBit i<;>cases Nat.testBit 2197175160 i<;>rfl
  ·rw [if_pos (by omega),if_pos x,if_neg y]
   apply Nat.eq_of_testBit_eq
   intro i
   simp only [Nat.testBit_xor]
   cases (a / 2).testBit i<;>cases (b / 2).testBit i<;>cases Nat.testBit 2197175160 i<;>rfl
 ·by_cases y:b % 2=1
  ·rw [if_pos (by omega),if_neg x,if_pos y]
   apply Nat.eq_of_testBit_eq
   intro i
   simp only [Nat.testBit_xor]
   cases (a / 2).testBit i<;>cases (b / 2).testBit i<;>cases Nat.testBit 2197175160 i<;>rfl
  ·rw [if_neg (by omega),if_neg x,if_neg y]
theorem amL:∀ (k a b:Nat),adA k (a ^^^ b)=adA k a ^^^ adA k b
 | 0,_,_=>rfl
 | k+1,a,b=>by
  show adA k (adF (a ^^^ b))=adA k (adF a) ^^^ adA k (adF b)
  rw [aq5,amL k]
theorem agA (q:Nat):adF (2*q)=q:=by
 unfold adF
 rw [if_neg (by omega)];omega
theorem ay4 (q:Nat):adA 4 (16*q)=q:=by
 show adF (adF (adF (adF (16*q))))=q
 rw [show 16*q=2*(2*(2*(2*q))) by omega,agA,agA,agA,agA]
theorem aAO (r:Nat):r=16*(r / 16) ^^^ r % 16:=by
 apply Nat.eq_of_testBit_eq
 intro i
 have h:=Nat.testBit_two_pow_mul_add (i:=4) (r / 16) (b:=r % 16) (by omega) i
 have e:2 ^ 4*(r / 16)+r % 16=r:=by omega
 rw [e] at h
 rw [h,Nat.testBit_xor,show 16*(r / 16)=2 ^ 4*(r / 16) from rfl,Nat.testBit_two_pow_mul]
 by_cases hi:i<4
 ·rw [if_pos hi]
  have:decide (i ≥ 4)=false:=decide_eq_false (by omega)
  rw [this]
  simp
 ·rw [if_neg hi]
  have:(r % 16).testBit i=false:=Nat.testBit_lt_two_pow (aEJ (show r % 16<2 ^ 4 by omega) (aE5 (by omega) (by omega)))
  have h4:decide (i ≥ 4)=true:=decide_eq_true (by omega)
  rw [this,h4]
  simp
theorem apE (r:Nat):adA 4 r=half r:=by
 have ht:∀ t,t<16->adA 4 t=tab t:=by decide
 conv=>lhs;rw [aAO r]
 rw [amL,ay4,ht _ (by omega)]
 rfl
theorem ai1:∀ (a b r:Nat),adA (a+b) r=adA b (adA a r)
 | 0,b,r=>by rw [Nat.zero_add];rfl
 | a+1,b,r=>by
  rw [show a+1+b=(a+b)+1 by omega]
  exact ai1 a b (adF r)
theorem auE (r:Nat) (x:UInt8):adA 8 (r ^^^ x.toNat)=akO r x:=by
 rw [show 8=4+4 from rfl,ai1,apE,apE];rfl
theorem ak1 (k r:Nat):adA (k+1) r=adF (adA k r):=by rw [ai1];rfl
theorem atL {r:Nat} (h:r<4294967296):adF r<4294967296:=by
 unfold adF
 split
 ·exact Nat.xor_lt_two_pow (n:=32) (by omega) (by omega)
 ·omega
end Go.Vk
namespace Go.Vk
open Go.RowKit Go.Proofs
open Tryz (prog)
theorem aiW (a b:Nat) (ha:a<4294967296) (hb:b<4294967296):bits .xor .i64 (a:Int) (b:Int)=((a ^^^ b:Nat):Int):=by
 have hx:a ^^^ b<2 ^ 32:=Nat.xor_lt_two_pow (by omega) (by omega)
 have e:∀ x:Nat,x<4294967296->(BitVec.ofInt 64 (x:Int)).toNat=x:=λ x h=>by rw [BitVec.ofInt_natCast,BitVec.toNat_ofNat];exact Nat.mod_eq_of_lt (by omega)
 show IntKind.i64.wrap ((BitVec.ofInt 64 (a:Int) ^^^ BitVec.ofInt 64 (b:Int)).toNat:Int)=_
 rw [BitVec.toNat_xor,e a ha,e b hb]
 exact aaO (by omega) (by omega)
theorem aqY {r:Nat} (h:r<4294967296):bits .xor .i64 (r:Int) 4294967295=((4294967295 - r:Nat):Int):=by
 have:=aiW r 4294967295 h (by omega)
 rw [show ((4294967295:Nat):Int)=4294967295 from rfl] at this
 rw [this]
 congr 1
 apply Nat.eq_of_testBit_eq
 intro i
 rw [Nat.testBit_xor,show (4294967295:Nat)=2 ^ 32 - 1 from rfl,Nat.testBit_two_pow_sub_one,show 2 ^ 32 - 1 - r=2 ^ 32 - (r+1) by omega,Nat.testBit_two_pow_sub_succ (by omega)]
 by_cases hi:i<32
 ·simp [hi]
 ·have:r.testBit i=false:=Nat.testBit_lt_two_pow (aEJ (show r<2 ^ 32 by omega) (aE5 (by omega) (by omega)))
  simp [hi,this]
theorem anJ {r:Nat} (h:r<4294967296):∀ k,adA k r<4294967296
 | 0=>h
 | k+1=>by rw [ak1];exact atL (anJ h k)
theorem aC2 (w:World) (g off c:Nat) (src:List UInt8) (hc:∀ j (h:j<src.length),w.cell? ⟨g,off+j,none⟩=some (B src[j])) (n:Nat) (hlen:n<=src.length) (hn:n<=1048576) :
  Calls prog 194 #[.slice (some ⟨g,off,none⟩) n c] w λ e w'=>e=U (I (crc (src.take n):Nat))/\w=w':=by
 replace hc:=hid hc
 go_enter Tryz.func194,Tryz.ntmps194
 go_wp2
 go_loop [3,4] (λ reg i=>∃ k:Nat,k<=n/\i=I k/\reg=I (afU (src.take k):Nat)) (λ _ i=>n - (intOf i).toNat)
 case atStart=>exact ⟨0,by omega,rfl,rfl⟩
 case round=>
  obtain ⟨k,hk,rfl,rfl⟩:=hrel
  by_cases hlt:k<n
  ·have a1:=hc.out k (by omega)
   have hsn:src.take (k+1)=src.take k++[src[k]]:=by
    rw [aE6 (by omega)]
   have hR:=amD (src.take k) src[k]
   rw [← hsn,← auE] at hR
   have hr:=ajN (src.take k)
   generalize afU (src.take k)=r at hR hr
   generalize hQ:afU (src.take (k+1))=r' at hR
   generalize src[k]=x at a1 hR
   unfold B at a1
   have a5:x.toNat<256:=x.toNat_lt
   have x1:=aiW r x.toNat hr (by omega)
   have l1:r ^^^ x.toNat<4294967296:=Nat.xor_lt_two_pow (n:=32) hr (by omega)
   generalize r ^^^ x.toNat=r1 at x1 l1 hR
   have a6:IntKind.i64.wrap (x.toNat:Int)=(x.toNat:Int):=aaO (by omega) (by omega)
   generalize x.toNat=xn at *
   clear hsn
   replace ⟨hR,hQ,l1,hr⟩:=yh4 hR hQ l1 hr
   go_wp2
   go_loop [3,5] (λ reg j=>∃ m:Nat,m<=8/\j=I m/\reg=I (adA m r1:Nat)) (λ _ j=>8 - (intOf j).toNat)
   case atStart=>exact ⟨0,by omega,rfl,rfl⟩
   case round=>
    obtain ⟨m,hm,rfl,rfl⟩:=hrel
    by_cases a7:m<8
    ·have hsn:=ak1 m r1
     have a3:=anJ l1.out m
     generalize adA m r1=q at hsn a3
     generalize a2:adA (m+1) r1=q' at hsn
     unfold adF at hsn
     have e2:(q:Int).tdiv 2=((q / 2:Nat):Int):=by have:=Int.tdiv_eq_ediv_of_nonneg (a:=(q:Int)) (b:=2) (by omega);omega
     have e0:=Int.tmod_eq_emod_of_nonneg (a:=(q:Int)) (b:=2) (by omega)
     by_cases ho:q % 2=1
     ·have e1:(q:Int).tmod 2=1:=by omega
      rw [if_pos ho] at hsn
      have hl:q / 2<4294967296:=by omega
      generalize q / 2=h at *
      have x2:=aiW h 2197175160 hl (by decide)
      rw [show ((2197175160:Nat):Int)=2197175160 from rfl] at x2
      generalize h ^^^ 2197175160=h2 at *
      have a0:=hsn.symm
      clear hsn e0
      replace ⟨a0,a2,ho⟩:=yh3 a0 a2 ho
      go_wp2
      go_round
      case rel=>exact ⟨m+1,by omega,by go_num,by rw [a2.out,← a0.out]⟩
      case measure=>simp [intOf];omega
     ·have e1:(q:Int).tmod 2=0:=by omega
      rw [if_neg ho] at hsn
      have hl:q / 2<4294967296:=by omega
      generalize q / 2=h at *
      have a0:=hsn.symm
      clear hsn e0
      replace ⟨a0,a2⟩:=yh2 a0 a2;clear ho
      go_wp2
      go_round
      case rel=>exact ⟨m+1,by omega,by go_num,by rw [a2.out,← a0.out]⟩
      case measure=>simp [intOf];omega
    ·obtain rfl:m=8:=by omega
     go_wp2
     go_round
     case rel=>exact ⟨k+1,by omega,by go_num,by rw [hQ.out,hR.out]⟩
     case measure=>simp [intOf];omega
  ·have a4:k=n:=by omega
   subst a4
   have hr:=ajN (src.take k)
   have hcrc:crc (src.take k)=4294967295 - afU (src.take k):=rfl
   generalize afU (src.take k)=r at hr hcrc ⊢
   have hx:=aqY hr
   replace hcrc:=hid hcrc
   go_wp2
   go_ret
   refine ⟨?_,rfl⟩
   rw [hcrc.out]
   rfl
end Go.Vk
namespace Go.Vk
def auD (bs:List UInt8) (at_:Nat):Int:=if 18014398509481984<fld bs (at_+1) 7 then -1 else (fld bs at_ 8:Nat)
def refN (bs:List UInt8):Nd:=⟨fld bs 0 1,fld bs 2 2,fld bs 4 4,auD bs 8,fld bs 16 4,(List.range 12).map λ i=>((fld bs (24+4*i) 4:Nat):Int)⟩
def AD2 (bs:List UInt8):Prop:=Ac4 (refN bs)/\encN (refN bs)=bs
theorem arN (bs:List UInt8):(refN bs).ptr.length=12:=by simp [refN]
theorem ahV (a b:List UInt8):abH (a++b)=abH a+2 ^ (8*a.length)*abH b:=by
 induction a with
 | nil=>simp [abH]
 | cons x a ih=>
  rw [List.cons_append,abH,abH,ih,List.length_cons,Nat.mul_add,show 8*(a.length+1)=8*a.length+8 by omega,Nat.pow_add,show (2:Nat) ^ 8=256 from rfl,Nat.mul_comm (2 ^ (8*a.length)) 256,Nat.mul_assoc]
  omega
theorem aDQ (bs:List UInt8) (at_:Nat) (h:at_+8<=bs.length):fld bs at_ 8=fld bs at_ 1+256*fld bs (at_+1) 7:=by
 unfold fld
 have e:(bs.drop at_).take 8=(bs.drop at_).take 1++(bs.drop (at_+1)).take 7:=by
  rw [← List.drop_drop,show 8=1+7 from rfl,List.take_add]
 rw [e,ahV]
 have:((bs.drop at_).take 1).length=1:=by rw [aEM,aET];omega
 rw [this]
theorem auQ (n:Nd) (hl:n.ptr.length=12) (h:Ac4 n):refN (encN n)=n:=by
 have hd:=an7 n hl h
 have hlen:=aeJ n hl
 have hk:fld (encN n) 0 1=fld (encN n) 0 2/\fld (encN n) 16 4=fld (encN n) 16 8/\fld (encN n) 9 7<=18014398509481984:=by
  rcases h with rfl|h
  ·have hz:∀ at_ n,fld (encN Nd.zero) at_ n=0:=λ at_ n=>by
    have e:encN Nd.zero=aaD 128:=rfl
    rw [e]
    unfold fld aaD
    rw [List.drop_replicate,List.take_replicate]
    generalize min n (128 - at_)=k
    induction k with
    | zero=>rfl
    | succ k ih=>rw [List.replicate_succ];show (0:UInt8).toNat+256*abH (List.replicate k 0)=0;rw [ih];rfl
   rw [hz,hz,hz,hz,hz]
   exact ⟨rfl,rfl,by decide⟩
  ·have hk:=h.pos
   have f0:((fld (encN n) 0 2:Nat):Int)=n.kind:=congrArg Nd.kind hd
   have f3:((fld (encN n) 8 8:Nat):Int)=n.size:=congrArg Nd.size hd
   have f4:((fld (encN n) 16 8:Nat):Int)=n.owned:=congrArg Nd.owned hd
   have b0:=h.k
   have b3:=h.s
   have b4:=h.o
   have g3:fld (encN n) 8 8=fld (encN n) 8 1+256*fld (encN n) 9 7:=aDQ (encN n) 8 (by omega)
   refine ⟨?_,?_,by omega⟩
   ·have e:fld (encN n) 0 2=fld (encN n) 0 1+256*fld (encN n) 1 1:=by
     unfold fld
     have e:((encN n).drop 0).take 2=((encN n).drop 0).take 1++((encN n).drop 1).take 1:=by
      rw [show (1:Nat)=0+1 from rfl,← List.drop_drop,show 2=1+1 from rfl,List.take_add]
     rw [e,ahV]
     have:(((encN n).drop 0).take 1).length=1:=by rw [aEM,aET];omega
     rw [this]
    omega
   ·have e:fld (encN n) 16 8=fld (encN n) 16 4+4294967296*fld (encN n) 20 4:=by
     unfold fld
     have e:((encN n).drop 16).take 8=((encN n).drop 16).take 4++((encN n).drop 20).take 4:=by
      rw [show (20:Nat)=16+4 from rfl,← List.drop_drop,show 8=4+4 from rfl,List.take_add]
     rw [e,ahV]
     have:(((encN n).drop 16).take 4).length=4:=by rw [aEM,aET];omega
     rw [this]
    omega
 have ht:auD (encN n) 8=((fld (encN n) 8 8:Nat):Int):=by unfold auD;rw [if_neg (by have:=hk.2.2;show ¬ _<fld (encN n) 9 7;omega)]
 unfold refN
 rw [hk.1,hk.2.1,ht]
 exact hd
theorem auR {bs:List UInt8}:AD2 bs↔AcM bs:=
 ⟨λ h=>akD.2 ⟨refN bs,arN bs,h.1,h.2⟩,λ h=>by
  obtain ⟨n,h1,h2,rfl⟩:=akD.1 h
  have:=auQ n h1 h2
  exact ⟨by rw [this];exact h2,by rw [this]⟩⟩
theorem aAX {bs:List UInt8} (h:AcM bs):refN bs=decN bs:=by
 obtain ⟨n,h1,h2,rfl⟩:=akD.1 h
 rw [auQ n h1 h2,an7 n h1 h2]
end Go.Vk
namespace Go.Vk
open Go.RowKit Go.Proofs
open Tryz (prog)
theorem aw6 (q m:Nat):(q:Int).tmod (m:Int)=((q % m:Nat):Int):=by
 have:=Int.tmod_eq_emod_of_nonneg (a:=(q:Int)) (b:=m) (by omega)
 rw [this];rfl
theorem axA (q m:Nat):(q:Int).tdiv (m:Int)=((q / m:Nat):Int):=by
 have:=Int.tdiv_eq_ediv_of_nonneg (a:=(q:Int)) (b:=m) (by omega)
 rw [this];rfl
theorem aC3 (w:World) (g cap at_:Nat) (bs:List UInt8) (hg:Blk w g (aaE bs)) (n v:Nat) (hn:n<=8) (hv:v<9223372036854775808) (hlen:at_+n<=bs.length) (hb:bs.length<=1048576) :
  Calls prog 192 #[.slice ↑g bs.length cap,I at_,I n,I v] w λ e w'=>e=U (.tuple #[])/\Blk w' g (aaE (lay bs at_ (aaB v n)))/\AaA (· = g) w w':=by
 have a3:=hg
 replace hv:=hid hv;clear a3
 go_enter Tryz.func192,Tryz.ntmps192
 go_wp2
 go_loopw [3,8] (λ q i wr=>∃ k:Nat,k<=n/\i=I k/\q=I (v / 2 ^ (8*k):Nat)/\Blk wr g (aaE (lay bs at_ (aaB v k)))/\AaA (· = g) w wr) (λ _ i _=>n - (intOf i).toNat)
 case atStart=>exact ⟨0,by omega,rfl,by simp,by simpa [aaB,lay] using hg,AaA.refl _ _⟩
 case round=>
  obtain ⟨k,hk,rfl,rfl,hg1,hk1⟩:=hrel
  clear hg
  have a2:(lay bs at_ (aaB v k)).length=bs.length:=ab6 (by rw [aaC];omega)
  by_cases hlt:k<n
  ·have cg:=hg1.cell (at_+k)
   have cgf:=hg1.frz
   rw [← Array.getElem?_toList,aEZ,aEG (by omega),Option.map_some] at cg
   generalize (lay bs at_ (aaB v k))[at_+k]=old at cg
   have hx:=abU v k
   have a0:=hg1.setCell (at_+k) (B (aa9 v k))
   rw [agW,← aiB v k (by omega)] at a0
   have hk2:=hk1.setCell (p:=⟨g,at_+k,none⟩) (.inl rfl) (B (aa9 v k))
   have a1:v / 2 ^ (8*(k+1))=v / 2 ^ (8*k) / 256:=by rw [Nat.div_div_eq_div_mul,show 8*(k+1)=8*k+8 by omega,Nat.pow_add]
   have a4:v / 2 ^ (8*k)<=v:=Nat.div_le_self _ _
   generalize v / 2 ^ (8*k)=q at hx a1 a4
   unfold B at cg a0 hk2
   generalize (aa9 v k).toNat=xn at hx a0 hk2
   have e1:=aw6 q 256
   have e2:=axA q 256
   rw [← hx] at e1
   rw [show ((256:Nat):Int)=256 from rfl] at e1 e2
   have a7:xn<256:=by omega
   have e3:IntKind.u8.wrap (xn:Int)=(xn:Int):=by rw [IntKind.wrap_u8'];omega
   have a5:(q / 256:Nat)<9223372036854775808:=by have:=hv.out;omega
   generalize q / 256=q2 at e2 a1 a5
   replace ⟨hg1,a2,a0,hk2,hk1,a1⟩:=yh6 hg1 a2 a0 hk2 hk1 a1;clear hx
   have a8:IntKind.i64.wrap ((at_:Int)+(k:Int))=(at_:Int)+(k:Int):=aaO (by omega) (by omega)
   have a9:(0:Int)<=(at_:Int)+(k:Int):=by omega
   have aa:(at_:Int)+(k:Int)<(bs.length:Int):=by omega
   have hp6:((at_:Int)+(k:Int)).toNat=at_+k:=by omega
   go_wp2
   go_roundw
   case rel=>exact ⟨k+1,by omega,by go_num,by rw [a1.out],a0.out,hk2.out⟩
   case measure=>simp [intOf];omega
  ·have a6:k=n:=by omega
   subst a6
   replace ⟨hg1,hk1⟩:=yh2 hg1 hk1;clear a2
   go_wp2
   go_end0
   exact ⟨rfl,hg1.out,hk1.out⟩
theorem ayT {bs:List UInt8} {a m:Nat} (h:a<bs.length):fld bs a (m+1)=bs[a].toNat+256*fld bs (a+1) m:=by
 unfold fld
 rw [aEX h,List.take_succ_cons]
 rfl
theorem aDR (bs:List UInt8) (a m:Nat):fld bs a m<256 ^ m:=by
 unfold fld
 have h:=ag8 ((bs.drop a).take m)
 have h1:((bs.drop a).take m).length<=m:=List.length_take_le _ _
 have h2:(2:Nat) ^ (8*((bs.drop a).take m).length)<=2 ^ (8*m):=aE5 (by decide) (by omega)
 rw [show (256:Nat)=2 ^ 8 from rfl,← Nat.pow_mul]
 omega
theorem ayS (bs:List UInt8) (a:Nat):fld bs a 0=0:=by unfold fld;rfl
def akB (bs:List UInt8) (at_ n:Nat):Int:=if n=8/\18014398509481984<fld bs (at_+1) 7 then -1 else (fld bs at_ n:Nat)
theorem aAZ (bs:List UInt8) (at_:Nat):akB bs at_ 8=auD bs at_:=by
 unfold akB auD
 by_cases h:18014398509481984<fld bs (at_+1) 7
 ·rw [if_pos ⟨rfl,h⟩,if_pos h]
 ·rw [if_neg (λ x=>h x.2),if_neg h]
theorem alS {bs:List UInt8} {at_ n:Nat} (h:n≠8):akB bs at_ n=(fld bs at_ n:Nat):=if_neg (λ x=>h x.1)
theorem aAY (w:World) (g off cap at_:Nat) (bs:List UInt8) (hc:∀ j (h:j<bs.length),w.cell? ⟨g,off+j,none⟩=some (B bs[j])) (n:Nat) (hn:n<=8) (hlen:at_+n<=bs.length) (hb:bs.length<=1048576) :
  Calls prog 202 #[.slice (some ⟨g,off,none⟩) bs.length cap,I at_,I n] w λ e w'=>e=U (I (akB bs at_ n))/\w=w':=by
 have a4:∀ a m,m<=8->fld bs a m<256 ^ m:=λ a m _=>aDR bs a m
 replace ⟨hc,a4⟩:=yh2 hc a4
 go_enter Tryz.func202,Tryz.ntmps202
 go_wp2
 go_loop [7,8] (λ v i=>∃ k:Nat,k<=n/\i=I ((k:Int) - 1)/\v=I (fld bs (at_+k) (n - k):Nat)/\(k=0->akB bs at_ n=(fld bs at_ n:Nat))) (λ _ i=>(intOf i+1).toNat)
 case atStart=>exact ⟨n,by omega,by go_num,by rw [Nat.sub_self,ayS];rfl,λ h=>if_neg (λ x=>by omega)⟩
 case round=>
  obtain ⟨k,hk,rfl,rfl,a5⟩:=hrel
  by_cases hz:k=0
  ·subst hz
   have hq:((0:Nat):Int) - 1=-1:=by omega
   rw [hq]
   have hQ:=a5 rfl
   rw [Nat.add_zero,Nat.sub_zero]
   generalize fld bs at_ n=F at *
   replace hQ:=hid hQ;clear a5
   go_wp2
   go_ret
   refine ⟨?_,rfl⟩
   rw [hQ.out]
   rfl
  ·obtain ⟨m,rfl⟩:∃ m,k=m+1:=⟨k - 1,by omega⟩
   have a6:((m+1:Nat):Int) - 1=(m:Nat):=by omega
   rw [a6]
   have a9:(0:Int)<=(m:Nat):=by omega
   have a0:=ayT (bs:=bs) (a:=at_+m) (m:=n - (m+1)) (by omega)
   rw [show n - (m+1)+1=n - m by omega,show at_+m+1=at_+(m+1) by omega] at a0
   have hlt:=a4.out (at_+(m+1)) (n - (m+1)) (by omega)
   have a1:=hc.out (at_+m) (by omega)
   have a2:18014398509481984<fld bs (at_+(m+1)) (n - (m+1))->akB bs at_ n=-1:=λ x=>by
    have a7:n=8/\m=0:=by
     by_cases h:n - (m+1)<=6
     ·have:256 ^ (n - (m+1))<=256 ^ 6:=aE5 (by decide) h
      have:(256:Nat) ^ 6=281474976710656:=by decide
      omega
     ·omega
    obtain ⟨rfl,rfl⟩:=a7
    exact if_pos ⟨rfl,x⟩
   generalize hF:fld bs (at_+(m+1)) (n - (m+1))=F at *
   generalize hx:bs[at_+m]=x at *
   unfold B at a1
   have aa:x.toNat<256:=x.toNat_lt
   generalize x.toNat=xn at *
   by_cases a3:18014398509481984<F
   ·have a8:(18014398509481984:Int)<(F:Nat):=by omega
    have hQ:=a2 a3
    clear a0 hlt a1 a2 a6
    replace ⟨hQ,hF,a3,hx⟩:=yh4 hQ hF a3 hx
    go_wp2
    go_ret
    refine ⟨?_,rfl⟩
    rw [hQ.out]
    rfl
   ·have a8:¬ (18014398509481984:Int)<(F:Nat):=by omega
    have ab:(F:Int)<=18014398509481984:=by omega
    have hk1:m=0->akB bs at_ n=(fld bs at_ n:Nat):=λ e=>if_neg (λ x=>by
     obtain ⟨rfl,y⟩:=x
     subst e
     exact a3 (hF ▸ y))
    have ac:IntKind.i64.wrap ((at_:Int)+(m:Int))=(at_:Int)+(m:Int):=aaO (by omega) (by omega)
    have ad:(0:Int)<=(at_:Int)+(m:Int):=by omega
    have ae:(at_:Int)+(m:Int)<(bs.length:Int):=by omega
    have hp6:((at_:Int)+(m:Int)).toNat=at_+m:=by omega
    clear hlt a2 a6 a5
    replace ⟨hk1,a0⟩:=yh2 hk1 a0;clear hF a3 hx
    go_wp2
    go_round
    case rel=>exact ⟨m,by omega,by go_num,by rw [a0.out];go_num,hk1.out⟩
    case measure=>simp [intOf]
theorem am4 (w:World) {n:Nd} (hn:n.ptr.length=12) (i:Nat) (hi:i<12):Calls prog 193 #[ndV n,I i] w λ e w'=>e=U (I (n.ptr[i]'(by omega)))/\AaA NoF w w':=by
 have a3:=aeL w n
 have a2:Blk (w.alloc (ndO n)) w.heap.size (ndO n):=Blk.new w _
 have hk:=(AaA.refl NoF w).alloc (ndO n)
 obtain ⟨x0,x1,x2,x3,x4,x15,x16,xd⟩:=abF hn
 have y15:=(a2.cell 15).trans x15
 have y16:=(a2.cell 16).trans x16
 have yi:∀ (h:i<10),(w.alloc (ndO n)).cell? ⟨w.heap.size,5+i,none⟩=some (I (n.ptr[i]'(by omega))):=λ h=>by
  refine (a2.cell (5+i)).trans ?_
  have e:((ndC n).toArray.extract 5 (5+10))[i]? = some (I (n.ptr[i]'(by omega))):=by
   rw [xd]
   simp only [List.getElem?_toArray,aEZ]
   rw [List.getElem?_take_of_lt h,aEG (by omega)]
   rfl
  rw [Array.getElem?_extract] at e
  split at e
  ·exact e
  ·cases e
 clear x0 x1 x2 x3 x4 x15 x16 xd
 generalize a0:n.ptr[10]=p10 at y15
 generalize hp11:n.ptr[11]=p11 at y16
 generalize a1:n.ptr[i]'(by omega)=pi at *
 generalize a4:w.alloc (ndO n)=wA at *
 replace ⟨a3,hk,a0,hp11,a1⟩:=yh5 a3 hk a0 hp11 a1;clear a2 a4
 go_enter Tryz.func193,Tryz.ntmps193
 iterate 3 go_step
 refine aaY rfl 39 (.tmp 0) rfl _ _ (by exact a3.out) ?_
 by_cases a5:i=10
 ·subst a5
  have e:pi=p10:=by rw [← a1.out,← a0.out]
  subst e
  go_wp2_with fail
  go_ret
  exact ⟨rfl,hk.out⟩
 ·by_cases a6:i=11
  ·subst a6
   have e:pi=p11:=by rw [← a1.out,← hp11.out]
   subst e
   go_wp2_with fail
   go_ret
   exact ⟨rfl,hk.out⟩
  ·have h:=yi (by omega)
   have b1:((i:Int) == 10)=false:=by rw [aE2];simp;omega
   have b2:((i:Int) == 11)=false:=by rw [aE2];simp;omega
   have h3:(i:Int)<10:=by omega
   clear yi
   go_wp2_with fail
   go_ret
   exact ⟨by rw [← a1.out];rfl,hk.out⟩
end Go.Vk
