/- Part of the proof: Md St2 St3 Lw1. -/
import Derived.Test.YtjeelghnmkefcaaGreatQ10
set_option linter.unusedVariables false
set_option maxHeartbeats 16000000
set_option maxRecDepth 100000
namespace Go.Vk
open Go.RowKit
structure DM.Wf (D:DM):Prop where
 len:D.dur.length=512*D.n
 pos:1<=D.n
 max:D.n<=2048
 pend:∀ k,∀ b∈D.pend k,b.length=512
theorem AaI.wf {w:World} {d:Nat} {D:DM} {F:List Nat} (h:AaI w d D F):D.Wf:=by
 obtain ⟨dur,m,ps,clock,h1,rfl,h3⟩:=h
 refine ⟨h1.hlen,h1.hpos,h1.hmax,λ k b hb=>?_⟩
 rw [h1.hpend] at hb
 unfold alU at hb
 cases hf:ps.find? (·.key == k) with
 | none=>rw [hf] at hb;cases hb
 | some p=>
  rw [hf] at hb
  simp only [Option.map_some,Option.getD_some,List.mem_map] at hb
  obtain ⟨s,hs,rfl⟩:=hb
  exact ((h1.hp p (aEN hf)).2.2 s hs).1
theorem DM.Wf.home_length {D:DM} (h:D.Wf) {k:Nat} (hk:k<D.n):(D.home k).length=512:=by
 unfold DM.home
 rw [aEM,aET,h.len];omega
theorem DM.Wf.now_length {D:DM} (h:D.Wf) {k:Nat} (hk:k<D.n):(D.now k).length=512:=by
 unfold DM.now
 cases hp:(D.pend k).getLast? with
 | none=>exact h.home_length hk
 | some b=>exact h.pend k b (List.mem_of_getLast? hp)
theorem DM.Wf.flushed_n {D:DM} (h:D.Wf):D.flushed.n=D.n:=by
 unfold DM.flushed
 rw [ap9]
 have hl:=aeX (n:=D.n) (f:=D.now) (λ k hk=>h.now_length hk)
 show (secs D.n D.now).length / 512=D.n
 rw [hl];omega
structure AcF (D D':DM) (c:Nat):Prop where
 wf:D'.Wf
 n:D'.n=D.n
 writes:D'.writes<=D.writes+c
theorem AcF.refl {D:DM} (h:D.Wf) (c:Nat):AcF D D c:=⟨h,rfl,Nat.le_add_right _ _⟩
theorem AcF.trans {A B C:DM} {a b c:Nat} (h:AcF A B a) (k:AcF B C b) (hc:a+b<=c):AcF A C c:=⟨k.wf,k.n.trans h.n,by have:=h.writes;have:=k.writes;omega⟩
theorem AcF.mono {A B:DM} {a b:Nat} (h:AcF A B a) (a0:a<=b):AcF A B b:=⟨h.wf,h.n,by have:=h.writes;omega⟩
theorem DM.Wf.spent {D:DM} (h:D.Wf):D.spent.Wf:=by
 unfold DM.spent
 split
 ·exact ⟨h.len,h.pos,h.max,h.pend⟩
 ·exact h
theorem DM.Wf.wrote {D:DM} (h:D.Wf) (k:Nat) {bs:List UInt8} (hb:bs.length=512):AcF D (D.wrote k bs).spent 1:=by
 refine ⟨DM.Wf.spent ⟨h.len,h.pos,h.max,λ j b hj=>?_⟩,wr_n _ _ _,by rw [alI];exact aEK _⟩
 unfold DM.wrote at hj
 dsimp only at hj
 split at hj
 ·rcases List.mem_append.1 hj with e|e
  ·exact h.pend k b e
  ·rw [List.mem_singleton.1 e];exact hb
 ·exact h.pend j b hj
theorem DM.Wf.flushed {D:DM} (h:D.Wf):AcF D D.flushed 0:=by
 refine ⟨?_,h.flushed_n,by rw [acB];exact aEK _⟩
 have hl:=aeX (n:=D.n) (f:=D.now) (λ k hk=>h.now_length hk)
 unfold DM.flushed
 refine DM.Wf.spent ⟨?_,?_,?_,λ k b hb=>by cases hb⟩
 ·show (secs D.n D.now).length=512*((secs D.n D.now).length / 512)
  rw [hl];omega
 ·show 1<=(secs D.n D.now).length / 512
  rw [hl];have:=h.pos;omega
 ·show (secs D.n D.now).length / 512<=2048
  rw [hl];have:=h.max;omega
theorem DM.Wf.readed {D:DM} (h:D.Wf):AcF D D.readed 0:=⟨⟨h.len,h.pos,h.max,h.pend⟩,rfl,aEK _⟩
theorem DM.Wf.took {D:DM} (h:D.Wf):AcF D D.took 0:=⟨⟨h.len,h.pos,h.max,h.pend⟩,rfl,aEK _⟩
theorem DM.Wf.wr {D:DM} (h:D.Wf) (k:Nat) {bs:List UInt8} (hb:bs.length=512):AcF D (D.wr k bs).2 1:=by
 unfold DM.wr
 split
 ·exact AcF.refl h 1
 ·exact h.wrote k hb
theorem DM.Wf.fl {D:DM} (h:D.Wf):AcF D D.fl.2 0:=by
 unfold DM.fl
 split
 ·exact AcF.refl h 0
 ·exact h.flushed
theorem DM.Wf.zeroRun (c:Nat):∀ {D:DM} (_:D.Wf) (a:Nat),AcF D (D.zeroRun a c).2 c:=by
 induction c with
 | zero=>intro D h a;exact AcF.refl h 0
 | succ c ih=>
  intro D h a
  cases hb:D.burnt with
  | true=>rw [ahG _ _ _ hb];exact AcF.refl h _
  | false=>
   rw [afZ _ _ _ hb]
   have h1:=h.wrote a (aaF 512)
   exact h1.trans (ih h1.wf (a+1)) (by omega)
theorem DM.Wf.anchorM {D:DM} (h:D.Wf) (f e t:Nat):AcF D (ab0 D f e t).2 1:=by
 unfold Go.Vk.ab0
 split
 ·exact AcF.refl h 1
 ·split
  ·exact (h.readed.trans (c:=0) h.readed.wf.readed (by omega)).mono (by omega)
  ·have h1:=h.readed.trans (c:=0) h.readed.wf.readed (by omega)
   have h2:=h1.trans (c:=1) (h1.wf.wrote (f+ac6 (D.now f) (D.now (f+1))) (agZ (D.now f) (D.now (f+1)) (e*4294967296+t))) (by omega)
   exact h2.trans h2.wf.fl (by omega)
theorem acW {D:DM} {x:Nat × DM} {g:DM->Nat × DM} {a b c:Nat} (h:AcF D x.2 a) (k:x.1=0->AcF x.2 (g x.2).2 b) (hc:a+b<=c):AcF D (acS x g).2 c:=by
 unfold acS
 split
 ·rename_i e
  exact h.trans (k e) hc
 ·exact h.mono (by omega)
theorem DM.Wf.walFormatM {D:DM} (h:D.Wf) (f n:Nat):AcF D (aeB D f n).2 (n+3):=by
 unfold Go.Vk.aeB
 split
 ·exact AcF.refl h _
 ·have h1:=h.took.trans (c:=n+2) (DM.Wf.zeroRun (n+2) h.took.wf f) (by omega)
  have h2:=acW (c:=n+2) h1 (g:=DM.fl) (b:=0) (λ _=>h1.wf.fl) (by omega)
  exact acW h2 (b:=1) (λ _=>h2.wf.anchorM f 1 0) (by omega)
def ad2:List (DM->Nat × DM)->DM->Nat × DM
 | [],D=>(0,D)
 | f :: fs,D=>acS (f D) (ad2 fs)
theorem ag6 {f:DM->Nat × DM} {fs:List (DM->Nat × DM)} {D:DM} (h:(f D).1=0):ad2 (f :: fs) D=ad2 fs (f D).2:=by
 show acS (f D) (ad2 fs)=_
 unfold acS
 rw [if_pos h]
theorem aeV {f:DM->Nat × DM} {fs:List (DM->Nat × DM)} {D:DM} (h:(f D).1≠0):ad2 (f :: fs) D=f D:=by
 show acS (f D) (ad2 fs)=_
 unfold acS
 rw [if_neg h]
def fmtW:DM->Nat × DM:=λ D=>D.wr 0 (aaD 512)
def fmtZ:DM->Nat × DM:=λ D=>D.zeroRun 1 (D.n - 1)
def fmtL (l:Nat):DM->Nat × DM:=λ D=>aeB D 1 l
def fmtS (s l n:Nat):DM->Nat × DM:=λ D=>D.wr 0 (ac0 s l n)
def ad5 (s l n:Nat):List (DM->Nat × DM):=[fmtW,DM.fl,fmtZ,DM.fl,fmtL l,fmtS s l n,DM.fl]
end Go.Vk
namespace Go.Vk
open Go.RowKit Go.Proofs
open Tryz (prog)
theorem aeI (s l n:Nat):(ac0 s l n).length=512:=by
 rw [ad8]
 unfold adZ
 rw [ab6 (by rw [aaC,abK];decide),abK]
section
variable {w:World} {d:Nat} {D:DM} {F:List Nat}
def AgC (w:World) (d:Nat) (F:List Nat) (x:Nat × DM) (e:Ending) (w':World):Prop:=e=U (I (x.1:Nat))/\AeN w d F x.2 w'
theorem aDP (h:AaI w d D F) (hn:1<=D.n) (hw:D.writes<1099511627776) (b2 b7 z:Nat) (T:TypeId) (src:List UInt8) (hl:src.length=512)
  (h2:Blk w b2 (.cells #[↑d] 25 (0,0))) (h7:Blk w b7 (.cells #[.slice ↑z 512 512] 40 (0,0))) (hz:Blk w z (aa2 T src)) :
  Calls prog 161 #[↑b2,↑b7] w (AgC w d F (D.wr 0 src)):=by
 have q2:=h2.cell 0
 have q7:=h7.cell 0
 simp at q2 q7
 have hW:=arA h 0 hn hw z 0 512 T src hz (by rw [hl];decide)
 rw [aER,aEO (by rw [hl];decide)] at hW
 unfold AgC
 replace hW:=hid hW;clear h h2 h7 hz
 go_enter Tryz.func161,Tryz.ntmps161
 go_wp2_with (go_at_call 162;refine hW.out.mono ?_;rintro e w2 ⟨rfl,hp⟩;replace hp:=hid hp)
 go_ret
 exact ⟨rfl,hp.out⟩
theorem aDM (h:AaI w d D F) (hn:1<=D.n) (hw:D.writes<1099511627776) (b2 b7 z:Nat) (T:TypeId) (src:List UInt8) (hl:src.length=512)
  (h2:Blk w b2 (.cells #[↑d] 25 (0,0))) (h7:Blk w b7 (.cells #[.slice ↑z 512 512] 40 (0,0))) (hz:Blk w z (aa2 T src)) :
  Calls prog 167 #[↑b2,↑b7] w (AgC w d F (D.wr 0 src)):=by
 have q2:=h2.cell 0
 have q7:=h7.cell 0
 simp at q2 q7
 have hW:=arA h 0 hn hw z 0 512 T src hz (by rw [hl];decide)
 rw [aER,aEO (by rw [hl];decide)] at hW
 unfold AgC
 replace hW:=hid hW;clear h h2 h7 hz
 go_enter Tryz.func167,Tryz.ntmps167
 go_wp2_with (go_at_call 162;refine hW.out.mono ?_;rintro e w2 ⟨rfl,hp⟩;replace hp:=hid hp)
 go_ret
 exact ⟨rfl,hp.out⟩
theorem aDO (h:AaI w d D F) (hn:1<=D.n) (a0:D.n<=2048) (hw:D.writes<1099511620000) (b2:Nat)
  (h2:Blk w b2 (.cells #[↑d] 25 (0,0))) :
  Calls prog 163 #[↑b2] w (AgC w d F (D.zeroRun 1 (D.n - 1))):=by
 have q2:=h2.cell 0
 simp at q2
 have hW:=aw4 h 1 hn a0 hw
 rw [show ((1:Nat):Int)=1 from rfl] at hW
 unfold AgC
 replace hW:=hid hW;clear h h2
 go_enter Tryz.func163,Tryz.ntmps163
 go_wp2_with (go_at_call 164;refine hW.out.mono ?_;rintro e w2 ⟨rfl,hp⟩;replace hp:=hid hp)
 go_ret
 exact ⟨rfl,hp.out⟩
theorem aDN (h:AaI w d D F) (a0:D.n<=2048) (hw:D.writes<1099511620000) (b2 b3 s l n:Nat) (h1:18<=l) (a1:l<=256) (a2:1+2+l<=D.n)
  (h2:Blk w b2 (.cells #[↑d] 25 (0,0))) (h3:Blk w b3 (acC s l n)) :
  Calls prog 165 #[↑b2,↑b3] w (AgC w d F (aeB D 1 l)):=by
 have q2:=h2.cell 0
 have q3:=h3.cell 1
 simp at q2 q3
 have hW:=ap4 h 1 l h1 a1 a2 a0 hw
 rw [show ((1:Nat):Int)=1 from rfl] at hW
 unfold AgC
 replace hW:=hid hW;clear h h2 h3
 go_enter Tryz.func165,Tryz.ntmps165
 go_wp2_with (go_at_call 166;refine hW.out.mono ?_;rintro e w2 ⟨rfl,hp⟩;replace hp:=hid hp)
 go_ret
 exact ⟨rfl,hp.out⟩
end
def agH (d b2 b3 b5 b7:Nat):List Value:=
 [.func (.func 161) #[] #[↑b2,↑b7],.func (.func 143) #[↑d] #[],
  .func (.func 163) #[] #[↑b2],.func (.func 143) #[↑d] #[],
  .func (.func 165) #[] #[↑b2,↑b3],
  .func (.func 167) #[] #[↑b2,↑b5],.func (.func 143) #[↑d] #[]]
structure Ak4 (W:World) (d b2 b3 b5 b7 zb g sb s l n:Nat):Prop where
 h2:Blk W b2 (.cells #[↑d] 25 (0,0))
 h3:Blk W b3 (acC s l n)
 h5:Blk W b5 (.cells #[.slice ↑g 512 512] 40 (0,0))
 h7:Blk W b7 (.cells #[.slice ↑zb 512 512] 40 (0,0))
 hz:Blk W zb (aaE (aaD 512))
 hg:Blk W g (aaE (ac0 s l n))
 hs:Blk W sb (.cells (agH d b2 b3 b5 b7).toArray 73 (0,0))
def ac8 (b2 b3 b5 b7 zb g sb:Nat):List Nat:=[b2,b3,b5,b7,zb,g,sb]
theorem Ak4.keeps {W W':World} {d b2 b3 b5 b7 zb g sb s l n:Nat} {G:Nat->Prop} (h:Ak4 W d b2 b3 b5 b7 zb g sb s l n) (k:AaA G W W') (hG:∀ b∈ac8 b2 b3 b5 b7 zb g sb,¬ G b):Ak4 W' d b2 b3 b5 b7 zb g sb s l n:=
 ⟨k.blk h.h2 (hG _ (by simp [ac8])),k.blk h.h3 (hG _ (by simp [ac8])),k.blk h.h5 (hG _ (by simp [ac8])),k.blk h.h7 (hG _ (by simp [ac8])),k.blk h.hz (hG _ (by simp [ac8])),k.blk h.hg (hG _ (by simp [ac8])),k.blk h.hs (hG _ (by simp [ac8]))⟩
theorem Ak4.lt {W:World} {d b2 b3 b5 b7 zb g sb s l n:Nat} (h:Ak4 W d b2 b3 b5 b7 zb g sb s l n):∀ b∈ac8 b2 b3 b5 b7 zb g sb,b<W.heap.size:=by
 intro b hb
 simp only [ac8,List.mem_cons,List.not_mem_nil,or_false] at hb
 rcases hb with rfl|rfl|rfl|rfl|rfl|rfl|rfl
 all_goals first|exact h.h2.lt|exact h.h3.lt|exact h.h5.lt|exact h.h7.lt|exact h.hz.lt|exact h.hg.lt|exact h.hs.lt
section
variable {w:World} {d:Nat} {D:DM} {F:List Nat}
theorem avU (h:AaI w d D F) (hb:D.burnt=false) (s l n:Nat) (hp:AbY s l n) (hs:s=D.n) (hw:D.writes<1099511500000) :
  Calls prog 81 #[↑d,.agg #[I s,I l,I n]] w λ e w'=>
   e=U (I ((ad2 (ad5 s l n) D.took).1:Nat))/\AeN w d F (ad2 (ad5 s l n) D.took).2 w':=by
 have aC:∀ (fn:Fn) (first cap:Array Value) (w:World),(Instr.makeFunc fn first cap).run prog w=.ok (.func fn first cap) w:=λ _ _ _ _=>rfl
 have aD:=al2
 have hE:=λ W=>amC W s l n hp
 have hlt:=h.lt
 have an:=h.wf
 have ao:∀ W,AaA NoF w W->Calls prog 76 #[↑d] W λ e w'=>e=U (.bool D.burnt)/\W=w':=λ W k=>agI (h.keeps k (λ _ _ f=>f))
 rw [hb] at ao
 have aj:=ao ((w.alloc (.cells #[↑d] 25 (0,0))).alloc (acC s l n)) (((AaA.refl _ w).alloc _).alloc _)
 unfold acC at aj
 replace ⟨h,hE,hlt,an,aj,hs⟩:=yh6 h hE hlt an aj hs;clear ao
 go_enter Tryz.func81,Tryz.ntmps81
 go_upto_region 6 with (first
  | (go_at_call 76;refine aj.out.mono ?_;rintro e w2 ⟨rfl,rfl⟩)
  | (go_at_call 159;refine (hE.out _).mono ?_;rintro e w3 ⟨g,hg,rfl,hG,k3⟩;replace ⟨hg,hG,k3⟩:=yh3 hg hG k3))
 have aE:∀ W b o,Blk W b o->Blk (W.alloc (.cells #[.slice ↑g 512 512] 40 (0,0))) b o:=λ W b o h=>h.alloc _
 have kA:AaA NoF w ((w.alloc (.cells #[↑d] 25 (0,0))).alloc (acC s l n)):=((AaA.refl _ w).alloc _).alloc _
 have e2:=(Blk.new w (.cells #[↑d] 25 (0,0))).alloc (acC s l n)
 have e3:=Blk.new (w.alloc (.cells #[↑d] 25 (0,0))) (acC s l n)
 rw [aEI] at e3
 have k3':AaA NoF ((w.alloc (.cells #[↑d] 25 (0,0))).alloc (acC s l n)) w3:=k3.out
 have f2:=k3'.blk e2 (λ f=>f)
 have f3:=k3'.blk e3 (λ f=>f)
 have fk:=kA.step k3'
 have hg':w.heap.size+1+1<=g:=by have:=hg.out;simpa using this
 clear k3 kA e2 e3 k3' hg
 have f5:=Blk.new w3 (.cells #[.slice ↑g 512 512] 40 (0,0))
 refine adW (λ W=>Blk W w.heap.size (.cells #[↑d] 25 (0,0))/\Blk W (w.heap.size+1) (acC s l n)/\Blk W w3.heap.size (.cells #[.slice ↑g 512 512] 40 (0,0))/\Blk W g (aaE (ac0 s l n))/\AaA NoF w W) ⟨f2.alloc _,f3.alloc _,f5,hG.out.alloc _,fk.alloc _⟩ ?_
 have au:w.heap.size<=w3.heap.size:=fk.size
 clear f2 f3 fk f5 hG aE
 rintro w4 ⟨a2,a3,a5,ag,ak⟩
 generalize w3.heap.size=b5 at a5 au ⊢
 clear w3
 have al:=h.out.keeps ak (λ _ _ f=>f)
 have hS:=λ m=>agM (al.drewN m)
 rw [← hs.out] at hS
 have q2:=a2.cell 0
 have q3:=a3.cell 0
 simp at q2 q3
 replace ⟨a2,a3,a5,ag,ak,al,hS⟩:=yh7 a2 a3 a5 ag ak al hS
 go_quiet (first|(go_at_call 152;exact (hS.out _).mono (λ e w' h=>⟨h.1,_,h.2.symm⟩)))
 have hT:=at9 (al.out.drewN nq)
 have q2':(w4.drewN nq).cell? ↑w.heap.size=some ↑d:=q2
 replace hT:=hid hT
 go_upto_region 10 with (go_at_call 160;refine hT.out.mono ?_;rintro e w5 ⟨rfl,am,k5⟩;replace ⟨am,k5⟩:=yh2 am k5)
 have ah:∀ i,w.heap.size<=i->i∉F:=λ i hi hm=>by have:=hlt.out i hm;omega
 have kk:AaA (· ∈ F) w w5:=((ak.out.mono (G:=(· ∈ F)) (λ _ _ f=>f.elim)).drewN nq).step k5.out
 have kd:∀ b o,Blk w4 b o->b∉F->Blk ((w5.alloc (aaE (aaD 512))).alloc (.cells #[.slice ↑w5.heap.size 512 512] 40 (0,0))) b o:=λ b o h hb=>((k5.out.blk (h.drewN nq) hb).alloc _).alloc _
 have av:=(Blk.new w5 (aaE (aaD 512))).alloc (.cells #[.slice ↑w5.heap.size 512 512] 40 (0,0))
 have ap:=Blk.new (w5.alloc (aaE (aaD 512))) (.cells #[.slice ↑w5.heap.size 512 512] 40 (0,0))
 rw [aEI] at ap
 have aw:DAt w d F D.took F ((w5.alloc (aaE (aaD 512))).alloc (.cells #[.slice ↑w5.heap.size 512 512] 40 (0,0))):=⟨am.out.keeps (((AaA.refl NoF w5).alloc _).alloc _) (λ _ _ f=>f),λ _ hk=>.inl hk,(kk.alloc _).alloc _⟩
 have h6:=And.intro (kd _ _ a2.out (ah _ (aEK _))) (And.intro (kd _ _ a3.out (ah _ (by omega))) (And.intro (kd _ _ a5.out (ah _ au)) (And.intro (kd _ _ ag.out (ah _ (by omega))) (And.intro av (And.intro ap aw)))))
 have aF:w.heap.size<=w5.heap.size:=kk.size
 clear kk kd av ap aw a2 a3 a5 ag ak al hS q2 q3 q2' hT am k5 hE aj
 refine adW (λ W=>Blk W w.heap.size (.cells #[↑d] 25 (0,0))/\Blk W (w.heap.size+1) (acC s l n)/\Blk W b5 (.cells #[.slice ↑g 512 512] 40 (0,0))/\Blk W g (aaE (ac0 s l n))/\Blk W w5.heap.size (aaE (aaD 512))/\Blk W (w5.heap.size+1) (.cells #[.slice ↑w5.heap.size 512 512] 40 (0,0))/\DAt w d F D.took F W) h6 ?_
 clear h6
 rintro w6 ⟨a2,a3,a5,ag,az,a7,aA⟩
 have q2:=a2.cell 0
 simp at q2
 replace ⟨a2,a3,a5,ag,az,a7,aA,ah⟩:=yh8 a2 a3 a5 ag az a7 aA ah
 go_upto_region 11 with fail
 have hE:Ak4 (w6.alloc (.cells (agH d w.heap.size (w.heap.size+1) b5 (w5.heap.size+1)).toArray 73 (0,0))) d w.heap.size (w.heap.size+1) b5 (w5.heap.size+1) w5.heap.size g w6.heap.size s l n:=
  ⟨a2.out.alloc _,a3.out.alloc _,a5.out.alloc _,a7.out.alloc _,az.out.alloc _,ag.out.alloc _,Blk.new _ _⟩
 have ax:DAt w d F D.took F (w6.alloc (.cells (agH d w.heap.size (w.heap.size+1) b5 (w5.heap.size+1)).toArray 73 (0,0))):=⟨aA.out.rep.keeps ((AaA.refl NoF w6).alloc _) (λ _ _ f=>f),aA.out.sub,aA.out.keeps.alloc _⟩
 have aO:w.heap.size<=w6.heap.size:=aA.out.keeps.size
 have h7:=And.intro hE ax
 clear hE ax a2 a3 a5 ag az a7 aA q2
 refine adW (λ W=>Ak4 W d w.heap.size (w.heap.size+1) b5 (w5.heap.size+1) w5.heap.size g w6.heap.size s l n/\DAt w d F D.took F W) h7 ?_
 clear h7
 have hnb:∀ b∈ac8 w.heap.size (w.heap.size+1) b5 (w5.heap.size+1) w5.heap.size g w6.heap.size,b∉F:=by
  intro b hb
  refine ah.out b ?_
  simp only [ac8,List.mem_cons,List.not_mem_nil,or_false] at hb
  rcases hb with rfl|rfl|rfl|rfl|rfl|rfl|rfl<;>omega
 generalize w5.heap.size+1=b7 at hnb ⊢
 generalize w5.heap.size=zb at hnb ⊢
 generalize w6.heap.size=sb at hnb ⊢
 clear w4
 rintro w7 ⟨hE,hA⟩
 have ae:AcF D D.took 0:=an.out.took
 obtain ⟨x,hx⟩:∃ x,ad2 (ad5 s l n) D.took=x:=⟨_,rfl⟩
 have hX:∀ W c D',c=x.1->D'=x.2->AeN w d F D' W ->
   (Ending.returned (I (c:Nat))=U (I ((ad2 (ad5 s l n) D.took).1:Nat))/\AeN w d F (ad2 (ad5 s l n) D.took).2 W):=by
  rintro W c D' rfl rfl h
  rw [hx]
  exact ⟨rfl,h⟩
 obtain ⟨D1,ay⟩:∃ D1,D.took=D1:=⟨_,rfl⟩
 rw [ay] at hA ae hx
 have aG:18<=l:=by unfold AbY at hp;omega
 have aH:l<=256:=by unfold AbY at hp;omega
 have hl3':3+l<=s:=by unfold AbY at hp;omega
 clear aC aD
 replace ⟨hE,hA,hX,hx,ae,hnb⟩:=yh6 hE hA hX hx ae hnb;clear ay
 go_wp2
 go_loopw [43] (λ i wr=>∃ (k:Nat) (Dk:DM) (Fk:List Nat),k<=7/\i=I k/\ad2 ((ad5 s l n).drop k) Dk=x/\AcF D1 Dk (k*5000)/\DAt w d F Dk Fk wr/\Ak4 wr d w.heap.size (w.heap.size+1) b5 b7 zb g sb s l n/\∀ b∈ac8 w.heap.size (w.heap.size+1) b5 b7 zb g sb,b∉Fk) (λ i _=>7 - (intOf i).toNat)
 case atStart=>exact ⟨0,D1,F,by omega,rfl,hx.out,AcF.refl ae.out.wf _,hA.out,hE.out,hnb.out⟩
 case round=>
  obtain ⟨k,Dk,Fk,hk,rfl,a1,ad,ab,a8,hnb⟩:=hrel
  clear hE hA
  have af:=ad.wf
  have aP:Dk.n=s:=by rw [ad.n,ae.out.n,hs.out]
  have aq:=af.pos
  have aB:=af.max
  have aI:1+2+l<=Dk.n:=by omega
  have aQ:Dk.writes<1099511600000:=by have:=ad.writes;have:=ae.out.writes;omega
  have aJ:∀ w0,(callFunc 161 #[↑w.heap.size,↑b7]).run prog w0=.ok (.enter 161 #[↑w.heap.size,↑b7]) w0:=λ w0=>by kernel_rfl
  have aK:∀ w0,(callFunc 163 #[↑w.heap.size]).run prog w0=.ok (.enter 163 #[↑w.heap.size]) w0:=λ w0=>by kernel_rfl
  have aL:∀ w0,(callFunc 165 #[↑w.heap.size,↑(w.heap.size+1)]).run prog w0=.ok (.enter 165 #[↑w.heap.size,↑(w.heap.size+1)]) w0:=λ w0=>by kernel_rfl
  have aM:∀ w0,(callFunc 167 #[↑w.heap.size,↑b5]).run prog w0=.ok (.enter 167 #[↑w.heap.size,↑b5]) w0:=λ w0=>by kernel_rfl
  have aN:∀ w0,(callFunc 143 #[↑d]).run prog w0=.ok (.enter 143 #[↑d]) w0:=λ w0=>by kernel_rfl
  by_cases h7:k<7
  ·have h7':k=0∨k=1∨k=2∨k=3∨k=4∨k=5∨k=6:=by omega
   clear h7 hk
   rcases h7' with rfl|rfl|rfl|rfl|rfl|rfl|rfl
   ·have hst:AcF Dk (fmtW Dk).2 5000:=(af.wr 0 (aaF 512)).mono (by omega)
    have a0:ad2 (fmtW :: [DM.fl,fmtZ,DM.fl,(fmtL l),(fmtS s l n),DM.fl]) Dk=x:=a1
    have hC:Calls prog 161 #[↑w.heap.size,↑b7] wr (λ e w'=>e=U (I ((fmtW Dk).1:Nat))/\AeN wr d Fk (fmtW Dk).2 w'):=aDP ab.rep aq (by omega) _ _ _ _ _ (aaF 512) a8.h2 a8.h7 a8.hz
    have a9:=@ag6 fmtW [DM.fl,fmtZ,DM.fl,(fmtL l),(fmtS s l n),DM.fl] Dk
    have aa:=@aeV fmtW [DM.fl,fmtZ,DM.fl,(fmtL l),(fmtS s l n),DM.fl] Dk
    rw [a0] at a9 aa
    generalize hy:fmtW Dk=y at hC a9 aa hst
    have hv:=a8.hs.cell 0
    simp [agH] at hv
    by_cases a6:y.1=0
    ·have a4:=a9 a6
     rw [a6] at hC
     replace ⟨ab,a8,hC,a4,hst,a1,a0,aa⟩:=yh8 ab a8 hC a4 hst a1 a0 aa;replace ⟨a9,ad,hnb,a6,hy⟩:=yh5 a9 ad hnb a6 hy
     go_wp2_with (go_at_call 161;refine hC.out.mono ?_;rintro e w8 ⟨rfl,hp8⟩;replace hp8:=hid hp8)
     obtain ⟨F8,ac⟩:=DAt.of hp8.out
     refine ⟨⟨1,y.2,F8,by omega,by go_num,a4.out.symm,ad.out.trans hst.out (by omega),ab.out.trans ac,a8.out.keeps ac.keeps hnb.out,λ b hb=>ac.out_of (hnb.out b hb) (a8.out.lt b hb)⟩,?_⟩
     simp [intOf]
    ·have a4:=aa a6
     have ai:((y.1:Int) != 0)=true:=by simp;exact a6
     replace ⟨ab,a8,hC,a4,hst,a1,a0,aa⟩:=yh8 ab a8 hC a4 hst a1 a0 aa;replace ⟨a9,ad,hnb,a6,hy⟩:=yh5 a9 ad hnb a6 hy
     go_wp2_with (go_at_call 161;refine hC.out.mono ?_;rintro e w8 ⟨rfl,hp8⟩;replace hp8:=hid hp8)
     go_ret
     obtain ⟨F8,ac⟩:=DAt.of hp8.out
     exact hX.out _ _ _ (by rw [a4.out]) (by rw [a4.out]) (ab.out.trans ac).post
   ·have hst:AcF Dk (DM.fl Dk).2 5000:=af.fl.mono (by omega)
    have a0:ad2 (DM.fl :: [fmtZ,DM.fl,(fmtL l),(fmtS s l n),DM.fl]) Dk=x:=a1
    have hC:Calls prog 143 #[↑d] wr (λ e w'=>e=U (I ((DM.fl Dk).1:Nat))/\AeN wr d Fk (DM.fl Dk).2 w'):=an5 ab.rep
    have a9:=@ag6 DM.fl [fmtZ,DM.fl,(fmtL l),(fmtS s l n),DM.fl] Dk
    have aa:=@aeV DM.fl [fmtZ,DM.fl,(fmtL l),(fmtS s l n),DM.fl] Dk
    rw [a0] at a9 aa
    generalize hy:DM.fl Dk=y at hC a9 aa hst
    have hv:=a8.hs.cell 1
    simp [agH] at hv
    by_cases a6:y.1=0
    ·have a4:=a9 a6
     rw [a6] at hC
     replace ⟨ab,a8,hC,a4,hst,a1,a0,aa⟩:=yh8 ab a8 hC a4 hst a1 a0 aa;replace ⟨a9,ad,hnb,a6,hy⟩:=yh5 a9 ad hnb a6 hy
     go_wp2_with (go_at_call 143;refine hC.out.mono ?_;rintro e w8 ⟨rfl,hp8⟩;replace hp8:=hid hp8)
     obtain ⟨F8,ac⟩:=DAt.of hp8.out
     refine ⟨⟨2,y.2,F8,by omega,by go_num,a4.out.symm,ad.out.trans hst.out (by omega),ab.out.trans ac,a8.out.keeps ac.keeps hnb.out,λ b hb=>ac.out_of (hnb.out b hb) (a8.out.lt b hb)⟩,?_⟩
     simp [intOf]
    ·have a4:=aa a6
     have ai:((y.1:Int) != 0)=true:=by simp;exact a6
     replace ⟨ab,a8,hC,a4,hst,a1,a0,aa⟩:=yh8 ab a8 hC a4 hst a1 a0 aa;replace ⟨a9,ad,hnb,a6,hy⟩:=yh5 a9 ad hnb a6 hy
     go_wp2_with (go_at_call 143;refine hC.out.mono ?_;rintro e w8 ⟨rfl,hp8⟩;replace hp8:=hid hp8)
     go_ret
     obtain ⟨F8,ac⟩:=DAt.of hp8.out
     exact hX.out _ _ _ (by rw [a4.out]) (by rw [a4.out]) (ab.out.trans ac).post
   ·have hst:AcF Dk (fmtZ Dk).2 5000:=(DM.Wf.zeroRun _ af 1).mono (by have:=af.max;omega)
    have a0:ad2 (fmtZ :: [DM.fl,(fmtL l),(fmtS s l n),DM.fl]) Dk=x:=a1
    have hC:Calls prog 163 #[↑w.heap.size] wr (λ e w'=>e=U (I ((fmtZ Dk).1:Nat))/\AeN wr d Fk (fmtZ Dk).2 w'):=aDO ab.rep aq aB (by omega) _ a8.h2
    have a9:=@ag6 fmtZ [DM.fl,(fmtL l),(fmtS s l n),DM.fl] Dk
    have aa:=@aeV fmtZ [DM.fl,(fmtL l),(fmtS s l n),DM.fl] Dk
    rw [a0] at a9 aa
    generalize hy:fmtZ Dk=y at hC a9 aa hst
    have hv:=a8.hs.cell 2
    simp [agH] at hv
    by_cases a6:y.1=0
    ·have a4:=a9 a6
     rw [a6] at hC
     replace ⟨ab,a8,hC,a4,hst,a1,a0,aa⟩:=yh8 ab a8 hC a4 hst a1 a0 aa;replace ⟨a9,ad,hnb,a6,hy⟩:=yh5 a9 ad hnb a6 hy
     go_wp2_with (go_at_call 163;refine hC.out.mono ?_;rintro e w8 ⟨rfl,hp8⟩;replace hp8:=hid hp8)
     obtain ⟨F8,ac⟩:=DAt.of hp8.out
     refine ⟨⟨3,y.2,F8,by omega,by go_num,a4.out.symm,ad.out.trans hst.out (by omega),ab.out.trans ac,a8.out.keeps ac.keeps hnb.out,λ b hb=>ac.out_of (hnb.out b hb) (a8.out.lt b hb)⟩,?_⟩
     simp [intOf]
    ·have a4:=aa a6
     have ai:((y.1:Int) != 0)=true:=by simp;exact a6
     replace ⟨ab,a8,hC,a4,hst,a1,a0,aa⟩:=yh8 ab a8 hC a4 hst a1 a0 aa;replace ⟨a9,ad,hnb,a6,hy⟩:=yh5 a9 ad hnb a6 hy
     go_wp2_with (go_at_call 163;refine hC.out.mono ?_;rintro e w8 ⟨rfl,hp8⟩;replace hp8:=hid hp8)
     go_ret
     obtain ⟨F8,ac⟩:=DAt.of hp8.out
     exact hX.out _ _ _ (by rw [a4.out]) (by rw [a4.out]) (ab.out.trans ac).post
   ·have hst:AcF Dk (DM.fl Dk).2 5000:=af.fl.mono (by omega)
    have a0:ad2 (DM.fl :: [(fmtL l),(fmtS s l n),DM.fl]) Dk=x:=a1
    have hC:Calls prog 143 #[↑d] wr (λ e w'=>e=U (I ((DM.fl Dk).1:Nat))/\AeN wr d Fk (DM.fl Dk).2 w'):=an5 ab.rep
    have a9:=@ag6 DM.fl [(fmtL l),(fmtS s l n),DM.fl] Dk
    have aa:=@aeV DM.fl [(fmtL l),(fmtS s l n),DM.fl] Dk
    rw [a0] at a9 aa
    generalize hy:DM.fl Dk=y at hC a9 aa hst
    have hv:=a8.hs.cell 3
    simp [agH] at hv
    by_cases a6:y.1=0
    ·have a4:=a9 a6
     rw [a6] at hC
     replace ⟨ab,a8,hC,a4,hst,a1,a0,aa⟩:=yh8 ab a8 hC a4 hst a1 a0 aa;replace ⟨a9,ad,hnb,a6,hy⟩:=yh5 a9 ad hnb a6 hy
     go_wp2_with (go_at_call 143;refine hC.out.mono ?_;rintro e w8 ⟨rfl,hp8⟩;replace hp8:=hid hp8)
     obtain ⟨F8,ac⟩:=DAt.of hp8.out
     refine ⟨⟨4,y.2,F8,by omega,by go_num,a4.out.symm,ad.out.trans hst.out (by omega),ab.out.trans ac,a8.out.keeps ac.keeps hnb.out,λ b hb=>ac.out_of (hnb.out b hb) (a8.out.lt b hb)⟩,?_⟩
     simp [intOf]
    ·have a4:=aa a6
     have ai:((y.1:Int) != 0)=true:=by simp;exact a6
     replace ⟨ab,a8,hC,a4,hst,a1,a0,aa⟩:=yh8 ab a8 hC a4 hst a1 a0 aa;replace ⟨a9,ad,hnb,a6,hy⟩:=yh5 a9 ad hnb a6 hy
     go_wp2_with (go_at_call 143;refine hC.out.mono ?_;rintro e w8 ⟨rfl,hp8⟩;replace hp8:=hid hp8)
     go_ret
     obtain ⟨F8,ac⟩:=DAt.of hp8.out
     exact hX.out _ _ _ (by rw [a4.out]) (by rw [a4.out]) (ab.out.trans ac).post
   ·have hst:AcF Dk ((fmtL l) Dk).2 5000:=(af.walFormatM 1 l).mono (by omega)
    have a0:ad2 ((fmtL l) :: [(fmtS s l n),DM.fl]) Dk=x:=a1
    have hC:Calls prog 165 #[↑w.heap.size,↑(w.heap.size+1)] wr (λ e w'=>e=U (I (((fmtL l) Dk).1:Nat))/\AeN wr d Fk ((fmtL l) Dk).2 w'):=aDN ab.rep aB (by omega) _ _ s l n aG aH aI a8.h2 a8.h3
    have a9:=@ag6 (fmtL l) [(fmtS s l n),DM.fl] Dk
    have aa:=@aeV (fmtL l) [(fmtS s l n),DM.fl] Dk
    rw [a0] at a9 aa
    generalize hy:fmtL l Dk=y at hC a9 aa hst
    have hv:=a8.hs.cell 4
    simp [agH] at hv
    by_cases a6:y.1=0
    ·have a4:=a9 a6
     rw [a6] at hC
     replace ⟨ab,a8,hC,a4,hst,a1,a0,aa⟩:=yh8 ab a8 hC a4 hst a1 a0 aa;replace ⟨a9,ad,hnb,a6,hy⟩:=yh5 a9 ad hnb a6 hy
     go_wp2_with (go_at_call 165;refine hC.out.mono ?_;rintro e w8 ⟨rfl,hp8⟩;replace hp8:=hid hp8)
     obtain ⟨F8,ac⟩:=DAt.of hp8.out
     refine ⟨⟨5,y.2,F8,by omega,by go_num,a4.out.symm,ad.out.trans hst.out (by omega),ab.out.trans ac,a8.out.keeps ac.keeps hnb.out,λ b hb=>ac.out_of (hnb.out b hb) (a8.out.lt b hb)⟩,?_⟩
     simp [intOf]
    ·have a4:=aa a6
     have ai:((y.1:Int) != 0)=true:=by simp;exact a6
     replace ⟨ab,a8,hC,a4,hst,a1,a0,aa⟩:=yh8 ab a8 hC a4 hst a1 a0 aa;replace ⟨a9,ad,hnb,a6,hy⟩:=yh5 a9 ad hnb a6 hy
     go_wp2_with (go_at_call 165;refine hC.out.mono ?_;rintro e w8 ⟨rfl,hp8⟩;replace hp8:=hid hp8)
     go_ret
     obtain ⟨F8,ac⟩:=DAt.of hp8.out
     exact hX.out _ _ _ (by rw [a4.out]) (by rw [a4.out]) (ab.out.trans ac).post
   ·have hst:AcF Dk ((fmtS s l n) Dk).2 5000:=(af.wr 0 (aeI s l n)).mono (by omega)
    have a0:ad2 ((fmtS s l n) :: [DM.fl]) Dk=x:=a1
    have hC:Calls prog 167 #[↑w.heap.size,↑b5] wr (λ e w'=>e=U (I (((fmtS s l n) Dk).1:Nat))/\AeN wr d Fk ((fmtS s l n) Dk).2 w'):=aDM ab.rep aq (by omega) _ _ _ _ _ (aeI s l n) a8.h2 a8.h5 a8.hg
    have a9:=@ag6 (fmtS s l n) [DM.fl] Dk
    have aa:=@aeV (fmtS s l n) [DM.fl] Dk
    rw [a0] at a9 aa
    generalize hy:fmtS s l n Dk=y at hC a9 aa hst
    have hv:=a8.hs.cell 5
    simp [agH] at hv
    by_cases a6:y.1=0
    ·have a4:=a9 a6
     rw [a6] at hC
     replace ⟨ab,a8,hC,a4,hst,a1,a0,aa⟩:=yh8 ab a8 hC a4 hst a1 a0 aa;replace ⟨a9,ad,hnb,a6,hy⟩:=yh5 a9 ad hnb a6 hy
     go_wp2_with (go_at_call 167;refine hC.out.mono ?_;rintro e w8 ⟨rfl,hp8⟩;replace hp8:=hid hp8)
     obtain ⟨F8,ac⟩:=DAt.of hp8.out
     refine ⟨⟨6,y.2,F8,by omega,by go_num,a4.out.symm,ad.out.trans hst.out (by omega),ab.out.trans ac,a8.out.keeps ac.keeps hnb.out,λ b hb=>ac.out_of (hnb.out b hb) (a8.out.lt b hb)⟩,?_⟩
     simp [intOf]
    ·have a4:=aa a6
     have ai:((y.1:Int) != 0)=true:=by simp;exact a6
     replace ⟨ab,a8,hC,a4,hst,a1,a0,aa⟩:=yh8 ab a8 hC a4 hst a1 a0 aa;replace ⟨a9,ad,hnb,a6,hy⟩:=yh5 a9 ad hnb a6 hy
     go_wp2_with (go_at_call 167;refine hC.out.mono ?_;rintro e w8 ⟨rfl,hp8⟩;replace hp8:=hid hp8)
     go_ret
     obtain ⟨F8,ac⟩:=DAt.of hp8.out
     exact hX.out _ _ _ (by rw [a4.out]) (by rw [a4.out]) (ab.out.trans ac).post
   ·have hst:AcF Dk (DM.fl Dk).2 5000:=af.fl.mono (by omega)
    have a0:ad2 (DM.fl :: []) Dk=x:=a1
    have hC:Calls prog 143 #[↑d] wr (λ e w'=>e=U (I ((DM.fl Dk).1:Nat))/\AeN wr d Fk (DM.fl Dk).2 w'):=an5 ab.rep
    have a9:=@ag6 DM.fl [] Dk
    have aa:=@aeV DM.fl [] Dk
    rw [a0] at a9 aa
    generalize hy:DM.fl Dk=y at hC a9 aa hst
    have hv:=a8.hs.cell 6
    simp [agH] at hv
    by_cases a6:y.1=0
    ·have a4:=a9 a6
     rw [a6] at hC
     replace ⟨ab,a8,hC,a4,hst,a1,a0,aa⟩:=yh8 ab a8 hC a4 hst a1 a0 aa;replace ⟨a9,ad,hnb,a6,hy⟩:=yh5 a9 ad hnb a6 hy
     go_wp2_with (go_at_call 143;refine hC.out.mono ?_;rintro e w8 ⟨rfl,hp8⟩;replace hp8:=hid hp8)
     obtain ⟨F8,ac⟩:=DAt.of hp8.out
     refine ⟨⟨7,y.2,F8,by omega,by go_num,a4.out.symm,ad.out.trans hst.out (by omega),ab.out.trans ac,a8.out.keeps ac.keeps hnb.out,λ b hb=>ac.out_of (hnb.out b hb) (a8.out.lt b hb)⟩,?_⟩
     simp [intOf]
    ·have a4:=aa a6
     have ai:((y.1:Int) != 0)=true:=by simp;exact a6
     replace ⟨ab,a8,hC,a4,a1,ad,hnb⟩:=yh7 ab a8 hC a4 a1 ad hnb;clear hst a0 aa a9 a6 hy
     go_wp2_with (go_at_call 143;refine hC.out.mono ?_;rintro e w8 ⟨rfl,hp8⟩;replace hp8:=hid hp8)
     go_ret
     obtain ⟨F8,ac⟩:=DAt.of hp8.out
     exact hX.out _ _ _ (by rw [a4.out]) (by rw [a4.out]) (ab.out.trans ac).post
  ·obtain rfl:k=7:=by omega
   have ar:x=(0,Dk):=a1.symm
   have hXX:=hX.out wr 0 Dk (by rw [ar]) (by rw [ar]) ab.post
   replace hXX:=hid hXX;clear ab a8 a1 ad hnb ar
   go_wp2
   go_ret
   exact hXX.out
end
end Go.Vk
namespace Go.Vk
open Go.RowKit
theorem apO {cur src:List UInt8} {off:Nat} (h:off<=cur.length) (k:Nat):(lay cur off src).drop (off+src.length+k)=cur.drop (off+src.length+k):=by
 unfold lay
 have l1:(cur.take off).length=off:=by rw [aEM];omega
 rw [← List.drop_drop,← List.drop_drop,List.drop_left' l1,List.drop_left,List.drop_drop]
theorem ad9 {cur src:List UInt8} {off:Nat} (h:off<=cur.length):(lay cur off src).drop off=src++cur.drop (off+src.length):=by
 unfold lay
 exact List.drop_left' (by rw [aEM];omega)
theorem af1 {cur src:List UInt8} {off k:Nat} (h:off<=cur.length) (hk:k<=off):(lay cur off src).take k=cur.take k:=by
 unfold lay
 have l1:(cur.take off).length=off:=by rw [aEM];omega
 rw [List.take_append_of_le_length (by omega),List.take_take,Nat.min_eq_left hk]
theorem apG (s:List UInt8) {i k:Nat} (h:i<k):(s.take k).getD i 0=s.getD i 0:=by
 rw [aEL,aEL,List.getElem?_take,if_pos h]
theorem ar2 {cur src:List UInt8} {off i:Nat} (h:off<=cur.length) (hi:i<off):(lay cur off src).getD i 0=cur.getD i 0:=by
 rw [← apG _ hi,af1 h (aEK _),apG _ hi]
theorem acZ (v n:Nat) (h:v<2 ^ (8*n)):abH (aaB v n)=v:=by
 have key:∀ n,abH (aaB v n)=v % 2 ^ (8*n):=by
  intro n
  induction n with
  | zero=>simp [aaB,abH,Nat.mod_one]
  | succ n ih=>
   rw [af7,anB,ih,aaC,abU,Nat.mul_succ,Nat.pow_add,Nat.mod_mul]
 rw [key,Nat.mod_eq_of_lt h]
theorem au7 (t:UInt8) (body:List UInt8) (ht:t.toNat<3) (hb:body.length<=504):ahQ (layB t body)=some body:=by
 have a0:(((((aaD 512).set 0 t).set 511 t).set 1 (UInt8.ofNat body.length)).set 2 (UInt8.ofNat (body.length / 256))).length=512:=by simp only [aEV,aaF]
 have hZ:∀ i,i<3->(layB t body).getD i 0=(((((aaD 512).set 0 t).set 511 t).set 1 (UInt8.ofNat body.length)).set 2 (UInt8.ofNat (body.length / 256))).getD i 0:=by
  intro i hi
  unfold layB
  rw [ar2 (by rw [afC];decide) hi]
  unfold aeO
  rw [ar2 (by rw [a0];decide) (by omega)]
 have h0:(layB t body).getD 0 0=t:=by
  rw [hZ 0 (by decide),aEL,aE1 (by decide),aE1 (by decide),aE1 (by decide),List.getElem?_set_self (by rw [aaF];decide)]
  rfl
 have h1:(layB t body).getD 1 0=UInt8.ofNat body.length:=by
  rw [hZ 1 (by decide),aEL,aE1 (by decide),List.getElem?_set_self (by simp only [aEV,aaF];decide)]
  rfl
 have h2:(layB t body).getD 2 0=UInt8.ofNat (body.length / 256):=by
  rw [hZ 2 (by decide),aEL,List.getElem?_set_self (by simp only [aEV,aaF];decide)]
  rfl
 have hl:ai0 (layB t body)=body.length:=by
  unfold ai0
  rw [h1,h2,UInt8.toNat_ofNat',UInt8.toNat_ofNat']
  omega
 have hd:((layB t body).drop 7).take body.length=body:=by
  have e1:(layB t body).drop 7=(aeO t body).drop 7:=by
   unfold layB
   have:=apO (cur:=aeO t body) (src:=aaB (crc (((aeO t body).drop 1).take 2++((aeO t body).drop 7).take 504)) 4) (off:=3) (by rw [afC];decide) 0
   rw [aaC] at this
   exact this
  rw [e1]
  unfold aeO
  rw [ad9 (by rw [a0];decide),aEO (l:=body) hb]
  exact List.take_left
 unfold ahQ
 rw [hl,hd,h0,if_neg]
 rintro (e|e|e)
 ·omega
 ·omega
 ·exact e rfl
theorem abO (s:List UInt8) (a b:Nat):(s.drop a).take b=(s.take (a+b)).drop a:=by rw [List.drop_take,Nat.add_sub_cancel_left]
theorem aeS {bs:List UInt8} (h:bs.length=512) {k:Nat} (hk:k<=508):(adZ bs).take k=bs.take k:=by
 unfold adZ
 rw [h]
 exact af1 (by omega) hk
theorem apL {s l n:Nat} (h:AbY s l n):Ai2 (ac0 s l n):=by
 have hb:s<=2048/\l<=256/\n<=1024:=by unfold AbY at h;omega
 have l0:(lay (aaD 512) 0 ag7).length=512:=abK s l n 0
 have l1:(lay (lay (aaD 512) 0 ag7) 8 (aaB s 4)).length=512:=abK s l n 1
 have l2:(lay (lay (lay (aaD 512) 0 ag7) 8 (aaB s 4)) 12 (aaB l 4)).length=512:=abK s l n 2
 have l3:(encK s l n 3).length=512:=abK s l n 3
 have e3:encK s l n 3=lay (lay (lay (lay (aaD 512) 0 ag7) 8 (aaB s 4)) 12 (aaB l 4)) 16 (aaB n 4):=rfl
 have hs:supS (ac0 s l n)=s:=by
  unfold supS
  rw [ad8,abO,aeS l3 (by decide),e3,af1 (by rw [l2];decide) (by decide),af1 (by rw [l1];decide) (by decide),← abO,ad9 (by rw [l0];decide),aE0 (aaC s 4),acZ _ _ (by omega)]
 have hl:supL (ac0 s l n)=l:=by
  unfold supL
  rw [ad8,abO,aeS l3 (by decide),e3,af1 (by rw [l2];decide) (by decide),← abO,ad9 (by rw [l1];decide),aE0 (aaC l 4),acZ _ _ (by omega)]
 have hn:supN (ac0 s l n)=n:=by
  unfold supN
  rw [ad8,abO,aeS l3 (by decide),e3,← abO,ad9 (by rw [l2];decide),aE0 (aaC n 4),acZ _ _ (by omega)]
 unfold Ai2
 rw [hs,hl,hn]
 exact ⟨hb.1,hb.2.1,hb.2.2,h,rfl⟩
theorem aAG {s l n:Nat} (h:AbY s l n):supS (ac0 s l n)=s/\supL (ac0 s l n)=l/\supN (ac0 s l n)=n:=by
 have hb:s<=2048/\l<=256/\n<=1024:=by unfold AbY at h;omega
 have l0:(lay (aaD 512) 0 ag7).length=512:=abK s l n 0
 have l1:(lay (lay (aaD 512) 0 ag7) 8 (aaB s 4)).length=512:=abK s l n 1
 have l2:(lay (lay (lay (aaD 512) 0 ag7) 8 (aaB s 4)) 12 (aaB l 4)).length=512:=abK s l n 2
 have l3:(encK s l n 3).length=512:=abK s l n 3
 have e3:encK s l n 3=lay (lay (lay (lay (aaD 512) 0 ag7) 8 (aaB s 4)) 12 (aaB l 4)) 16 (aaB n 4):=rfl
 refine ⟨?_,?_,?_⟩
 ·unfold supS
  rw [ad8,abO,aeS l3 (by decide),e3,af1 (by rw [l2];decide) (by decide),af1 (by rw [l1];decide) (by decide),← abO,ad9 (by rw [l0];decide),aE0 (aaC s 4),acZ _ _ (by omega)]
 ·unfold supL
  rw [ad8,abO,aeS l3 (by decide),e3,af1 (by rw [l2];decide) (by decide),← abO,ad9 (by rw [l1];decide),aE0 (aaC l 4),acZ _ _ (by omega)]
 ·unfold supN
  rw [ad8,abO,aeS l3 (by decide),e3,← abO,ad9 (by rw [l2];decide),aE0 (aaC n 4),acZ _ _ (by omega)]
theorem am8:ahQ (aaD 512)=none:=by kernel_rfl
theorem adH:aaJ (aaD 512)=0:=by unfold aaJ adG;rw [am8]
theorem ag3:abS (aaD 512)=AwZ.none:=by unfold abS ab1;rw [am8]
theorem afE (t:UInt8) (no:Nat) (ht:t.toNat<3) (h1:1<=no) (h2:no<9223372036854775808):adG (layB t (aaB no 8))=some (no,[]):=by
 have hl:=aaC no 8
 unfold adG
 rw [au7 t _ ht (by rw [hl];decide)]
 dsimp only
 rw [aEO (by rw [hl];decide),acZ _ _ (by omega),List.drop_of_length_le (by rw [hl];decide),if_neg (by omega)]
end Go.Vk
