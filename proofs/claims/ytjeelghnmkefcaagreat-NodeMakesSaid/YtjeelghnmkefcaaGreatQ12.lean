/- Part of the proof: Lw2 St4 St5 St6. -/
import Derived.Test.YtjeelghnmkefcaaGreatQ11
set_option linter.unusedVariables false
set_option maxHeartbeats 16000000
set_option maxRecDepth 100000
namespace Go.Vk
open Go.RowKit
structure Is (D:DM) (N:Nat) (life:Int) (g:Nat->List UInt8):Prop where
 wf:D.Wf
 calm:D.fused=false
 n:D.n=N
 lf:D.life=life
 now:∀ j,j<N->D.now j=g j
theorem Is.burnt {D:DM} {N:Nat} {life:Int} {g:Nat->List UInt8} (h:Is D N life g):D.burnt=false:=by unfold DM.burnt;rw [h.calm];rfl
theorem Is.congr {D:DM} {N:Nat} {life:Int} {g g':Nat->List UInt8} (h:Is D N life g) (e:∀ j,j<N->g j=g' j):Is D N life g':=⟨h.wf,h.calm,h.n,h.lf,λ j hj=>(h.now j hj).trans (e j hj)⟩
theorem afG {D:DM} (h:D.fused=false):D.spent=D:=by unfold DM.spent;rw [h];rfl
theorem avB (D:DM) (k j:Nat) (bs:List UInt8):(D.wrote k bs).now j=if j=k then bs else D.now j:=by
 unfold DM.now DM.wrote
 dsimp only
 split
 ·rw [List.getLast?_append];rfl
 ·rfl
theorem Is.wrote {D:DM} {N:Nat} {life:Int} {g:Nat->List UInt8} (h:Is D N life g) (k:Nat) {bs:List UInt8} (hb:bs.length=512):Is (D.wrote k bs).spent N life (λ j=>if j=k then bs else g j):=by
 have hc:(D.wrote k bs).fused=false:=h.calm
 refine ⟨(h.wf.wrote k hb).wf,?_,(h.wf.wrote k hb).n.trans h.n,?_,λ j hj=>?_⟩
 ·rw [afG hc];exact hc
 ·rw [afG hc];exact h.lf
 ·rw [afG hc,avB,h.now j hj]
theorem Is.wr {D:DM} {N:Nat} {life:Int} {g:Nat->List UInt8} (h:Is D N life g) (k:Nat) {bs:List UInt8} (hb:bs.length=512):∃ D',D.wr k bs=(0,D')/\Is D' N life (λ j=>if j=k then bs else g j):=by
 refine ⟨_,?_,h.wrote k hb⟩
 unfold DM.wr
 rw [h.burnt];rfl
theorem Is.flushed {D:DM} {N:Nat} {life:Int} {g:Nat->List UInt8} (h:Is D N life g):Is D.flushed N life g:=by
 have hl:=λ k hk=>h.wf.now_length (k:=k) hk
 refine ⟨h.wf.flushed.wf,?_,h.wf.flushed_n.trans h.n,?_,λ j hj=>?_⟩
 ·unfold DM.flushed;rw [afG (by exact h.calm)];exact h.calm
 ·unfold DM.flushed;rw [afG (by exact h.calm)];exact h.lf
 ·unfold DM.flushed
  rw [afG (by exact h.calm)]
  show ((secs D.n D.now).drop (512*j)).take 512=g j
  rw [av3 hl (by rw [h.n];exact hj),h.now j hj]
theorem Is.fl {D:DM} {N:Nat} {life:Int} {g:Nat->List UInt8} (h:Is D N life g):∃ D',D.fl=(0,D')/\Is D' N life g:=by
 refine ⟨_,?_,h.flushed⟩
 unfold DM.fl
 rw [h.burnt];rfl
theorem Is.readed {D:DM} {N:Nat} {life:Int} {g:Nat->List UInt8} (h:Is D N life g):Is D.readed N life g:=⟨h.wf.readed.wf,h.calm,h.n,h.lf,h.now⟩
theorem Is.readedN {D:DM} {N:Nat} {life:Int} {g:Nat->List UInt8} (h:Is D N life g) (k:Nat):Is (D.readedN k) N life g:=by
 induction k with
 | zero=>exact h
 | succ k ih=>exact ih.readed
theorem Is.took {D:DM} {N:Nat} {life:Int} {g:Nat->List UInt8} (h:Is D N life g):Is D.took N (wrap64 (life+1)) g:=⟨h.wf.took.wf,h.calm,h.n,by show wrap64 (D.life+1)=_;rw [h.lf],h.now⟩
theorem Is.zeroRun {N:Nat} {life:Int} (c:Nat):∀ {D:DM} {g:Nat->List UInt8} (_:Is D N life g) (a:Nat),∃ D',D.zeroRun a c=(0,D')/\Is D' N life (λ j=>if a<=j/\j<a+c then aaD 512 else g j):=by
 induction c with
 | zero=>intro D g h a;exact ⟨D,rfl,h.congr λ j _=>by rw [if_neg (by omega)]⟩
 | succ c ih=>
  intro D g h a
  rw [afZ _ _ _ h.burnt]
  obtain ⟨D',h1,h2⟩:=ih (h.wrote a (aaF 512)) (a+1)
  refine ⟨D',h1,h2.congr λ j _=>?_⟩
  by_cases e:j=a
  ·subst e;rw [if_neg (by omega),if_pos rfl,if_pos (by omega)]
  ·by_cases e2:a+1<=j/\j<a+1+c
   ·rw [if_pos e2,if_pos (by omega)]
   ·rw [if_neg e2,if_neg e,if_neg (by omega)]
theorem Is.anchorM {D:DM} {N:Nat} {life:Int} {g:Nat->List UInt8} (h:Is D N life g) (f e t:Nat) (hf:f+1<N) (hs:¬ e*4294967296+t<=max (aaJ (g f)) (aaJ (g (f+1)))) :
  ∃ D',Go.Vk.ab0 D f e t=(0,D')/\Is D' N life (λ j=>if j=f+ac6 (g f) (g (f+1)) then afB (g f) (g (f+1)) (e*4294967296+t) else g j):=by
 unfold Go.Vk.ab0
 rw [h.burnt,if_neg (by decide),h.now f (by omega),h.now (f+1) hf,if_neg hs]
 exact (h.readed.readed.wrote _ (agZ _ _ _)).fl
theorem aeH {x:Nat × DM} {D:DM} {f:DM->Nat × DM} (h:x=(0,D)):acS x f=f D:=by rw [h];rfl
def abW:List UInt8:=layB 1 (aaB 4294967296 8)
theorem alO:ac6 (aaD 512) (aaD 512)=0/\afB (aaD 512) (aaD 512) 4294967296=abW:=by
 have hs:acR (aaJ (aaD 512)) (aaJ (aaD 512))=-1:=by rw [adH];rfl
 have ho:ah7 (aaD 512) (aaD 512)=aaD 512:=by unfold ah7;rw [hs,if_neg (by decide)]
 refine ⟨by unfold ac6;rw [hs,if_neg (by decide)],?_⟩
 unfold afB abW
 rw [ho]
 have e1:(aaD 512).getD 0 0=0:=by rw [aEL];unfold aaD;rw [List.getElem?_replicate];rfl
 have e2:(aaD 512).getD 511 0=0:=by rw [aEL];unfold aaD;rw [List.getElem?_replicate];rfl
 rw [e1,e2]
 rfl
theorem Is.walFormat {D:DM} {N:Nat} {life:Int} {g:Nat->List UInt8} (h:Is D N life g) (f n:Nat) (hf:f+2+n<=N) :
  ∃ D',aeB D f n=(0,D')/\Is D' N (wrap64 (life+1)) (λ j=>if j=f then abW else if f<=j/\j<f+(n+2) then aaD 512 else g j):=by
 unfold aeB
 rw [h.burnt,if_neg (by decide)]
 obtain ⟨D1,e1,h1⟩:=Is.zeroRun (n+2) h.took f
 rw [e1]
 obtain ⟨D2,e2,h2⟩:=h1.fl
 rw [aeH rfl,e2,aeH rfl]
 have z1:(if f<=f/\f<f+(n+2) then aaD 512 else g f)=aaD 512:=if_pos (by omega)
 have z2:(if f<=f+1/\f+1<f+(n+2) then aaD 512 else g (f+1))=aaD 512:=if_pos (by omega)
 obtain ⟨D3,e3,h3⟩:=h2.anchorM f 1 0 (by omega) (by rw [z1,z2,adH];decide)
 refine ⟨D3,e3,h3.congr λ j _=>?_⟩
 rw [z1,z2,alO.1,Nat.add_zero]
 by_cases e:j=f
 ·rw [if_pos e,if_pos e];exact alO.2
 ·rw [if_neg e,if_neg e]
def fmtG (s l n:Nat) (j:Nat):List UInt8:=if j=0 then ac0 s l n else if j=1 then abW else aaD 512
theorem Is.format {D:DM} {N:Nat} {life:Int} {g:Nat->List UInt8} (h:Is D N life g) (s l n:Nat) (hp:AbY s l n) (hs:s=N) :
  ∃ D',ad2 (ad5 s l n) D=(0,D')/\Is D' N (wrap64 (life+1)) (fmtG s l n):=by
 have hl:3+l<=N:=by unfold AbY at hp;omega
 unfold ad5
 obtain ⟨D1,e1,h1⟩:=h.wr 0 (aaF 512)
 obtain ⟨D2,e2,h2⟩:=h1.fl
 obtain ⟨D3,e3,h3⟩:=Is.zeroRun (D2.n - 1) h2 1
 obtain ⟨D4,e4,h4⟩:=h3.fl
 obtain ⟨D5,e5,h5⟩:=h4.walFormat 1 l (by omega)
 obtain ⟨D6,e6,h6⟩:=h5.wr 0 (aeI s l n)
 obtain ⟨D7,e7,h7⟩:=h6.fl
 have hr:ad2 [fmtW,DM.fl,fmtZ,DM.fl,fmtL l,fmtS s l n,DM.fl] D=(0,D7):=by
  show acS (fmtW D) _=_
  rw [aeH (show fmtW D=(0,D1) from e1)]
  show acS (DM.fl D1) _=_
  rw [aeH e2]
  show acS (fmtZ D2) _=_
  rw [aeH (show fmtZ D2=(0,D3) from e3)]
  show acS (DM.fl D3) _=_
  rw [aeH e4]
  show acS (fmtL l D4) _=_
  rw [aeH (show fmtL l D4=(0,D5) from e5)]
  show acS (fmtS s l n D5) _=_
  rw [aeH (show fmtS s l n D5=(0,D6) from e6)]
  show acS (DM.fl D6) _=_
  rw [aeH e7];rfl
 refine ⟨D7,hr,h7.congr λ j hj=>?_⟩
 have a1:=h2.n
 have a0:j=0∨1<=j/\j<1+(D2.n - 1):=by omega
 unfold fmtG
 by_cases j0:j=0
 ·simp only [j0,if_true]
 ·have j3:1<=j/\j<1+(D2.n - 1):=a0.resolve_left j0
  by_cases j1:j=1
  ·simp only [j1,if_true]
  ·simp only [j0,j1,j3,if_false,if_true,and_self,ite_self]
theorem atG:AsB abW (aaD 512) 1 0:=by
 have ha:adG abW=some (4294967296,[]):=afE 1 4294967296 (by decide) (by decide) (by decide)
 have hn:aaJ abW=4294967296:=by unfold aaJ;rw [ha]
 have hd:aaP abW=[]:=by unfold aaP;rw [ha]
 refine ⟨?_,by decide,by decide,by decide,?_⟩
 ·rw [hn,adH];rfl
 ·rw [hn,adH,if_pos (by unfold acR;rw [if_neg (by omega),if_neg (by omega)])];exact hd
end Go.Vk
namespace Go.Vk
open Go.RowKit Go.Proofs
open Tryz (prog)
structure OEnt where
 key:Nat
 born:Nat
 blk:Nat
 cap:Nat
 data:List UInt8
def OEnt.val (e:OEnt):Value:=.slice ↑e.blk 512 e.cap
def OEnt.ent (e:OEnt):Ent:=(e.key,e.val,e.born)
structure OEnt.ok (w:World) (e:OEnt):Prop where
 len:e.data.length=512
 blk:Blk w e.blk (aaE (e.data++aaD (e.cap - 512)))
 cap:512<=e.cap
structure AcH (w:World) (m:Nat) (es:List OEnt) (clock:Nat):Prop where
 hm:Blk w m (mapO (es.map OEnt.ent) clock)
 ok:∀ e∈es,e.ok w
 keys:(es.map (·.key)).Nodup
 borns:(es.map (·.born)).Nodup
 clk:∀ e∈es,e.born<clock
def aaH (m:Nat) (es:List OEnt):List Nat:=m :: es.map (·.blk)
def ovOf (es:List OEnt) (k:Nat):Option (List UInt8):=(es.find? (·.key == k)).map (·.data)
theorem AcH.keep {w w':World} {m:Nat} {es:List OEnt} {clock:Nat} (h:AcH w m es clock) (hk:∀ k∈aaH m es,w'.heap[k]? = w.heap[k]?):AcH w' m es clock:=by
 refine ⟨?_,λ e he=>⟨(h.ok e he).len,?_,(h.ok e he).cap⟩,h.keys,h.borns,h.clk⟩
 ·have:=h.hm;unfold Blk at *;rw [hk m (by simp [aaH])];exact this
 ·have:=(h.ok e he).blk;unfold Blk at *;rw [hk e.blk (by simp [aaH];exact .inr ⟨e,he,rfl⟩)];exact this
theorem AcH.lt {w:World} {m:Nat} {es:List OEnt} {clock:Nat} (h:AcH w m es clock):∀ k∈aaH m es,k<w.heap.size:=by
 intro k hk
 simp only [aaH,List.mem_cons,List.mem_map] at hk
 rcases hk with rfl|⟨e,he,rfl⟩
 ·exact h.hm.lt
 ·exact (h.ok e he).blk.lt
theorem AcH.keeps {w w':World} {m:Nat} {es:List OEnt} {clock:Nat} {G:Nat->Prop} (h:AcH w m es clock) (k:AaA G w w') (hG:∀ i∈aaH m es,¬ G i):AcH w' m es clock:=
 h.keep λ i hi=>k.block i (h.lt i hi) (hG i hi)
theorem AcH.new (w:World):AcH (w.alloc (mapO [] 0)) w.heap.size [] 0:=⟨Blk.new w _,(λ e he=>by cases he),List.nodup_nil,List.nodup_nil,(λ e he=>by cases he)⟩
def acQ (d l m s lg n:Nat) (life:Int) (op:Bool):Obj:=
 .cells #[↑d,↑l,I lg,I (3+lg:Nat),I (s - (3+lg):Nat),I n,I (2+n / 4:Nat),I life,.map (some m),.bool op] 137 (0,0)
theorem asZ (p q:Addr) (w:World) :
  CallsD prog 148 #[.pointer (some p),.pointer (some q)] .returning w λ e u' w'=>e=U (.tuple #[])/\u'=.returning/\w'=w:=by
 have a0:(binOp BinOp.eql 20 .nilIface .nilIface).run prog w=.ok ↑true w:=by kernel_rfl
 refine callsD_of_wpS Tryz.func148 rfl λ c₀ cs hu=>?_
 apply wpS_seq
 apply wpS_region
 simp [wpOpsS,go_sem,recoverD,hu,Tryz.ntmps148,Exit.thenS]
 refine wpS_of_wp ?_
 go_wp2
 cases c₀
 simp_all [bodyPostS,results,Tryz.results148]
theorem awC (w:World):Calls prog 150 #[I 0] w λ e w'=>e=U (.tuple #[])/\w=w':=by
 go_enter Tryz.func150,Tryz.ntmps150
 go_wp2
 go_end0
 exact ⟨rfl,rfl⟩
theorem ahW (W:World) (b i:Nat) (v:Value):AaA (· = b) W (W.setCell ⟨b,i,none⟩ v):=(AaA.refl (· = b) W).setCell (p:=⟨b,i,none⟩) (.inl rfl) v
def ae8 (s lg n:Nat):List Value:=[I lg,I (3+lg:Nat),I (s - (3+lg):Nat),I n,I (2+n / 4:Nat)]
theorem as7 {s lg n:Nat} (h:AbY s lg n):akG s lg n=.agg (ae8 s lg n).toArray:=by
 unfold akG ae8
 have h1:(3+(lg:Int))=((3+lg:Nat):Int):=by omega
 have h2:((s:Int) - ((3+lg:Nat):Int))=((s - (3+lg):Nat):Int):=by unfold AbY at h;omega
 have h3:(2+(n:Int) / 4)=((2+n / 4:Nat):Int):=by omega
 rw [h1,h2,h3]
def afS (D:DM) (lg:Nat):DM:=(D.readed.took.readed.readed.readedN lg).flushed
structure Aw1 (D:DM) (s lg n ep tl:Nat):Prop where
 calm:D.burnt=false
 sup:Ai2 (D.now 0)
 hs:supS (D.now 0)=s
 hl:supL (D.now 0)=lg
 hn:supN (D.now 0)=n
 sz:s=D.n
 pair:AsB (D.now 1) (D.now 2) ep tl
 top:topK (λ j=>D.now (3+j)) ep lg<1073741824
 row:AlF ⟨1,lg,0,ep,0,tl,0,false⟩ (λ j=>D.now (3+j))
 wr:D.writes<1099511620000
def AlH (w:World) (d:Nat) (F:List Nat) (D':DM) (s lg n:Nat) (life:Int) (T:Nat) (e:Ending) (w':World):Prop:=
 ∃ sb l m F',e=U (.tuple #[.pointer (some ⟨sb,0,none⟩),I 0])/\Blk w' sb (acQ d l m s lg n life false)/\Blk w' l (logO d ⟨1,lg,life,T+1,T,0,0,true⟩)/\Blk w' m (mapO [] 0) /\
  DAt w d F D' F' w'/\w.heap.size<=sb/\w.heap.size<=l/\w.heap.size<=m/\(sb :: l :: m :: F').Nodup
section
variable {w:World} {d:Nat} {D:DM} {F:List Nat}
theorem axM (h:AaI w d D F) (s lg n ep tl:Nat) (hf:Aw1 D s lg n ep tl) (hst:(ab0 (afS D lg) 1 (topK (λ j=>D.now (3+j)) ep lg+1) 0).1=0) :
  Calls prog 75 #[↑d] w
   (AlH w d F (ab0 (afS D lg) 1 (topK (λ j=>D.now (3+j)) ep lg+1) 0).2 s lg n (wrap64 (D.life+1)) (topK (λ j=>D.now (3+j)) ep lg)):=by
 have b3:∀ (fn:Fn) (first cap:Array Value) (w:World),(Instr.makeFunc fn first cap).run prog w=.ok (.func fn first cap) w:=λ _ _ _ _=>rfl
 have b4:∀ w0,(callFunc 148 #[↑w.heap.size,↑(w.heap.size+1)]).run prog w0=.ok (.enter 148 #[↑w.heap.size,↑(w.heap.size+1)]) w0:=λ w0=>by kernel_rfl
 have hlt:=h.lt
 have af:=h.wf
 have hP:AbY s lg n:=by have:=hf.sup.2.2.2.1;rwa [hf.hs,hf.hl,hf.hn] at this
 have aB:AaI ((w.alloc (.cells #[.pointer none] 26 (0,0))).alloc (.cells #[I 0] 63 (0,0))) d D F:=h.keeps (((AaA.refl NoF w).alloc _).alloc _) (λ _ _ f=>f)
 have aq:=agI aB
 rw [hf.calm] at aq
 have ar:=akA aB hf.calm 0 (by decide) (by have:=af.pos;omega)
 rw [show (0:Int).toNat=0 from rfl] at ar
 have hDm:=awC
 replace ⟨h,hlt,af,hP,aq,ar,hf,hst⟩:=yh8 h hlt af hP aq ar hf hst;replace hDm:=hid hDm;clear aB
 go_enter_defers Tryz.func75,Tryz.ntmps75
 go_upto_region 6 with (first
  | (go_at_call 76;refine aq.out.mono ?_;rintro e w2 ⟨rfl,rfl⟩)
  | (go_at_call 149;refine ar.out.mono ?_;rintro e w3 ⟨b5,rfl,au,ab,av,k3⟩;have r3:=k3.blk ((Blk.new (w.alloc (.cells #[.pointer none] 26 (0,0))) (.cells #[I 0] 63 (0,0)))) (λ hm=>by have:=hlt.out _ hm;simp at this;omega);have q3:=r3.cell 0;have z3:=r3.frz;simp at q3 z3;replace ⟨au,ab,av,k3,r3⟩:=yh5 au ab av k3 r3)
  | (go_at_call 150;refine (hDm.out _).mono ?_;rintro e w4 ⟨rfl,rfl⟩))
 have r2:=k3.out.blk ((Blk.new w (.cells #[.pointer none] 26 (0,0))).alloc (.cells #[I 0] 63 (0,0))) (λ hm=>by have:=hlt.out _ hm;omega)
 have hb5':w.heap.size+1+1<=b5:=by have:=au.out;simpa using this
 have kk:AaA (· ∈ F) w w3:=(((AaA.refl (· ∈ F) w).alloc _).alloc _).step k3.out
 have aC:w.heap.size∉F:=λ hm=>by have:=hlt.out _ hm;omega
 have ag:w.heap.size+1∉F:=λ hm=>by have:=hlt.out _ hm;omega
 have ah:∀ i,w.heap.size<=i->i∉F:=λ i hi hm=>by have:=hlt.out _ hm;omega
 have aQ:w.heap.size<=w.heap.size:=aEK _
 have r3':Blk w3 (w.heap.size+1) (.cells #[I 0] 63 (0,0)):=by have:=r3.out;rwa [aEI] at this
 have kset:∀ W,AaA (· = w.heap.size+1) W (W.setCell ⟨w.heap.size+1,0,none⟩ (I 0)):=λ W=>ahW W _ _ _
 have h6:=And.intro ((kset w3).blk r2 (by omega)) (And.intro (r3'.setCell 0 (I 0)) (And.intro ((kset w3).blk ab.out (by omega)) (And.intro (av.out.keeps (kset w3) (λ i hi e=>ag (e ▸ hi))) (kk.fresh (kset w3) (λ i hi=>by omega)))))
 refine adW (λ W=>Blk W w.heap.size (.cells #[.pointer none] 26 (0,0))/\Blk W (w.heap.size+1) (.cells #[I 0] 63 (0,0))/\Blk W b5 (aaE (D.now 0))/\AaI W d D.readed F/\AaA (· ∈ F) w W) h6 ?_
 clear h6 r2 r3 r3' kk q3 z3 ab av k3 au kset
 have aK:=af.out.now_length af.out.pos
 rintro w5 ⟨r2,r3,ab,aw,k5⟩
 have ai:=aAF w5 b5 (D.now 0) aK ab hf.out.sup
 rw [hf.out.hs,hf.out.hl,hf.out.hn] at ai
 have aj:=r3.lt
 generalize hq2:w.heap.size=b2 at *
 replace ⟨r2,r3,aw,k5,ai,aC,ag,ah⟩:=yh8 r2 r3 aw k5 ai aC ag ah;replace hq2:=hid hq2;clear ab aK
 go_upto_region 8 with (first
  | (go_at_call 151;refine ai.out.mono ?_;rintro e w6 ⟨rfl,k6⟩;have r36:=(k6.blk r3.out (λ f=>f)).alloc (acC s lg n);have q3:=r36.cell 0;have z3:=r36.frz;unfold acC at q3 z3;simp at q3 z3;replace ⟨k6,r36⟩:=yh2 k6 r36)
  | (go_at_call 150;refine (hDm.out _).mono ?_;rintro e w4 ⟨rfl,rfl⟩))
 have k6':AaA (· = b2+1) w5 ((w6.alloc (acC s lg n)).setCell ⟨b2+1,0,none⟩ (I 0)):=((k6.out.mono (G:=(· = b2+1)) (λ _ _ f=>f.elim)).alloc _).setCell (p:=⟨b2+1,0,none⟩) (.inl rfl) _
 have aR:b2+1<w6.heap.size:=aEJ aj k6.out.size
 have s6:=(ahW (w6.alloc (acC s lg n)) (b2+1) 0 (I 0)).blk (Blk.new w6 (acC s lg n)) (by omega)
 have h8:=And.intro (k6'.blk r2.out (by omega)) (And.intro (r36.out.setCell 0 (I 0)) (And.intro s6 (And.intro (aw.out.keeps k6' (λ i hi e=>ag.out (e ▸ hi))) (k5.out.fresh k6' (λ i hi=>by rw [hq2.out];omega)))))
 refine adW (λ W=>Blk W b2 (.cells #[.pointer none] 26 (0,0))/\Blk W (b2+1) (.cells #[I 0] 63 (0,0))/\Blk W w6.heap.size (acC s lg n)/\AaI W d D.readed F/\AaA (· ∈ F) w W) h8 ?_
 clear h8 k6' s6 r2 r3 aw k5 ai r36 k6 q3 z3
 rintro w7 ⟨r2,r3,r6,hD7,k7⟩
 have ac:=r6.lt
 generalize w6.heap.size=b6 at aR r6 ac ⊢
 clear w6
 have q6:=r6.cell 0
 have q61:=r6.cell 1
 have q62:=r6.cell 2
 simp at q6 q61 q62
 have hS:=λ m=>agM (hD7.drewN m)
 have aL:D.readed.n=s:=hf.out.sz.symm
 rw [aL] at hS
 replace ⟨r2,r3,r6,hD7,k7,hS⟩:=yh6 r2 r3 r6 hD7 k7 hS;clear aL
 go_quiet (first|(go_at_call 152;exact (hS.out _).mono (λ e w' h=>⟨h.1,_,h.2.symm⟩)))
 have hPl:=au1 (w7.drewN nq) s lg n hP.out
 rw [as7 hP.out] at hPl
 unfold ae8 at hPl
 have aS:3+lg<=s:=by have:=hP.out;unfold AbY at this;omega
 generalize aD:3+lg=v1 at hPl
 generalize aE:s - v1=v2 at hPl
 generalize hv3:2+n / 4=v3 at hPl
 replace ⟨hPl,aD,aE,hv3⟩:=yh4 hPl aD aE hv3;clear aS
 have q6n:(w7.drewN nq).cell? ↑b6=some (I s):=q6
 have q61n:(w7.drewN nq).cell? ⟨b6,1,none⟩=some (I lg):=q61
 have q62n:(w7.drewN nq).cell? ⟨b6,2,none⟩=some (I n):=q62
 go_upto_region 12 with (first
  | (go_at_call 153;refine hPl.out.mono ?_;rintro e w8 ⟨rfl,k8⟩;have r38:=(k8.blk (r3.out.drewN nq) (λ f=>f)).alloc (.cells #[I lg,I v1,I v2,I n,I v3] 53 (0,0));have q3:=r38.cell 0;have z3:=r38.frz;simp at q3 z3;replace ⟨k8,r38⟩:=yh2 k8 r38)
  | (go_at_call 150;refine (hDm.out _).mono ?_;rintro e w4 ⟨rfl,rfl⟩))
 have k8':AaA (· = b2+1) w7 ((w8.alloc (.cells #[I lg,I v1,I v2,I n,I v3] 53 (0,0))).setCell ⟨b2+1,0,none⟩ (I 0)):=(((((AaA.refl (· = b2+1) w7).drewN nq).step (k8.out.mono (G:=(· = b2+1)) (λ _ _ f=>f.elim)))).alloc _).setCell (p:=⟨b2+1,0,none⟩) (.inl rfl) _
 have aT:b6<w8.heap.size:=aEJ ac k8.out.size
 have s8:=(ahW (w8.alloc (.cells #[I lg,I v1,I v2,I n,I v3] 53 (0,0))) (b2+1) 0 (I 0)).blk (Blk.new w8 (.cells #[I lg,I v1,I v2,I n,I v3] 53 (0,0))) (by omega)
 have ak:=And.intro (k8'.blk r2.out (by omega)) (And.intro (r38.out.setCell 0 (I 0)) (And.intro (k8'.blk r6.out (by omega)) (And.intro s8 (And.intro (hD7.out.keeps k8' (λ i hi e=>ag.out (e ▸ hi))) (k7.out.fresh k8' (λ i hi=>by rw [hq2.out];omega))))))
 refine adW (λ W=>Blk W b2 (.cells #[.pointer none] 26 (0,0))/\Blk W (b2+1) (.cells #[I 0] 63 (0,0))/\Blk W b6 (acC s lg n)/\Blk W w8.heap.size (.cells #[I lg,I v1,I v2,I n,I v3] 53 (0,0))/\AaI W d D.readed F/\AaA (· ∈ F) w W) ak ?_
 clear ak k8' s8 r2 r3 r6 hD7 k7 hS r38 k8 q3 z3 q6 q61 q62 q6n q61n q62n hPl ac
 clear w7
 rintro w9 ⟨r2,r3,r6,r7,al,k9⟩
 have ad:=r7.lt
 generalize w8.heap.size=b7 at aT r7 ad ⊢
 clear w8
 have q61:=r6.cell 1
 simp at q61
 have ax:18<=lg/\lg<=256:=by have:=hP.out;unfold AbY at this;omega
 have hsz:1+2+lg<=D.n/\D.n<=2048:=by have:=hP.out;unfold AbY at this;have:=hf.out.sz;omega
 have hW:Calls prog 154 #[↑d,I 1,I lg] w9 (AfW w9 d F (afS D lg) ⟨1,lg,wrap64 (D.life+1),ep,topK (λ j=>D.now (3+j)) ep lg,tl,tl,false⟩ (λ _ v=>v=.slice none 0 0)):=
  asH al hf.out.calm 1 lg ax.1 ax.2 hsz.1 hsz.2 ep tl hf.out.pair (by have:=hf.out.top;show topK (λ j=>D.now (3+j)) ep lg≠1073741824;omega) tl (λ _ v=>v=.slice none 0 0) (λ _ _ _ h _=>h)
   (λ W l g bs lo hl hR aU aV=>(asO hl g lo _ bs hR aU aV (by show 1<=lg;omega) ax.2 (hf.out.pair.tl2) hf.out.row).mono (λ e w' h=>⟨_,h.1,rfl,h.2.1,h.2.2⟩))
 generalize hT:topK (λ j=>D.now (3+j)) ep lg=T at hW hst ⊢
 unfold AfW at hW
 replace ⟨r2,r3,r7,al,k9,hW,hsz,hT⟩:=yh8 r2 r3 r7 al k9 hW hsz hT;clear r6 ax
 go_upto_region 14 with (first
  | (go_at_call 154;refine hW.out.mono ?_;rintro e w10 ⟨l,v,F10,rfl,a4,a6,rfl,a0,a2⟩;have r310:=a0.blk r3.out (ah.out _ (by omega));have q3:=r310.cell 0;have z3:=r310.frz;simp at q3 z3;replace ⟨a4,a6,a0,a2,r310⟩:=yh5 a4 a6 a0 a2 r310)
  | (go_at_call 150;refine (hDm.out _).mono ?_;rintro e w4 ⟨rfl,rfl⟩))
 have aW:b2+1<l:=by have:=a4.out;omega
 have ks:=ahW w10 (b2+1) 0 (I 0)
 have am:DAt w d F (afS D lg) F10 (w10.setCell ⟨b2+1,0,none⟩ (I 0)):=by
  have hA:=DAt.trans (⟨al.out,λ _ hk=>.inl hk,k9.out⟩:DAt w d F D.readed F w9) a0.out
  exact hA.step ks (λ i hi e=>by
   rcases a0.out.sub i hi with a|a
   ·exact ag.out (e ▸ a)
   ·omega) (λ i hi e=>by have:=hq2.out;omega)
 have e7:=a0.out.blk r7.out (ah.out _ (by omega))
 have e2:=a0.out.blk r2.out aC.out
 have aM:=And.intro (ks.blk e2 (by omega)) (And.intro (r310.out.setCell 0 (I 0)) (And.intro (ks.blk e7 (by omega)) (And.intro (ks.blk a6.out (by omega)) am)))
 refine adW (λ W=>Blk W b2 (.cells #[.pointer none] 26 (0,0))/\Blk W (b2+1) (.cells #[I 0] 63 (0,0))/\Blk W b7 (.cells #[I lg,I v1,I v2,I n,I v3] 53 (0,0))/\Blk W l (logO d ⟨1,lg,wrap64 (D.life+1),ep,T,tl,tl,false⟩)/\DAt w d F (afS D lg) F10 W) aM ?_
 have aX:b7<l:=by have:=a4.out;omega
 have a7:∀ i,b2<=i->i<w9.heap.size->i∉F10:=λ i hi h9 hm=>by
  rcases a0.out.sub i hm with a|a
  ·exact ah.out i hi a
  ·omega
 have a5:=a7 b2 (aEK _) (by omega)
 have a8:=a7 (b2+1) (by omega) (by omega)
 have aF:=a7 b7 (by omega) ad
 clear aM ks am e7 e2 r2 r3 r7 al k9 hW q61 q3 z3 a6 a0 r310 a4 ad a7
 clear w10 w9
 rintro w11 ⟨r2,r3,r7,hl,hA⟩
 have aN:=hA.rep
 have ay:(afS D lg).life=wrap64 (D.life+1):=by
  unfold afS DM.flushed DM.spent
  split<;>exact ao0 _ _
 have an:∀ W,AaA NoF w11 W->Calls prog 141 #[↑d] W λ e w'=>e=U (I (wrap64 (D.life+1)))/\W=w':=λ W k=>by
  have:=avL (aN.keeps k (λ _ _ f=>f))
  rwa [ay] at this
 have kd1:AaA NoF w11 w11.drew:=(AaA.refl _ _).drew
 have kd2:AaA NoF w11 (w11.alloc (mapO [] 0)).drew:=((AaA.refl _ _).alloc _).drew
 have kd3:AaA NoF w11 (w11.drew.alloc (mapO [] 0)):=((AaA.refl _ _).drew).alloc _
 have aY:∀ w,(Instr.makeMap 135 none).run prog w=.ok (.map (some w.heap.size)) (w.alloc (mapO [] 0)):=λ w=>run_makeMap _ w
 have q2:=r2.cell 0
 have z2:=r2.frz
 simp at q2
 have aG:b2<w11.heap.size:=r2.lt
 have q7:∀ W,AaA NoF w11 W->Blk W b7 (.cells #[I lg,I v1,I v2,I n,I v3] 53 (0,0)):=λ W k=>k.blk r7 (λ f=>f)
 have p70:=r7.cell 0
 have p71:=r7.cell 1
 have p72:=r7.cell 2
 have p73:=r7.cell 3
 have p74:=r7.cell 4
 simp at p70 p71 p72 p73 p74
 have a1:b7≠b2:=by omega
 generalize az:wrap64 (D.life+1)=life at hl an ⊢
 replace ⟨r2,r3,hl,hA,ay,an,kd1,kd2⟩:=yh8 r2 r3 hl hA ay an kd1 kd2;replace ⟨kd3,a5,a8,az⟩:=yh4 kd3 a5 a8 az;clear r7 aN q7 aF
 go_region_held3 (λ W=>W.cell? ↑b7=some (I lg)/\W.cell? ⟨b7,1,none⟩=some (I v1)/\W.cell? ⟨b7,2,none⟩=some (I v2)/\W.cell? ⟨b7,3,none⟩=some (I n)/\W.cell? ⟨b7,4,none⟩=some (I v3)) (first|exact ⟨aaU (aaU (abB p70 a1 _) _) _,aaU (aaU (abB p71 a1 _) _) _,aaU (aaU (abB p72 a1 _) _) _,aaU (aaU (abB p73 a1 _) _) _,aaU (aaU (abB p74 a1 _) _) _⟩|go_keep) (first
  | (go_at_call 141;refine (an.out _ (by first|exact kd1.out|exact kd2.out|exact kd3.out)).mono ?_;rintro e w12 ⟨rfl,rfl⟩))
 all_goals
  have kS:AaA (· = b2) w11 (((w11.setCell ↑b2 ↑(w11.heap.size+1)).alloc (mapO [] 0)).alloc (.cells #[↑d,↑l,I lg,I v1,I v2,I n,I v3,I life,.map (some w11.heap.size),↑false] 137 (0,0))).drew:=
   (((ahW w11 b2 0 ↑(w11.heap.size+1)).alloc _).alloc _).drew
  have g2:Blk (((w11.setCell ↑b2 ↑(w11.heap.size+1)).alloc (mapO [] 0)).alloc (.cells #[↑d,↑l,I lg,I v1,I v2,I n,I v3,I life,.map (some w11.heap.size),↑false] 137 (0,0))).drew b2 (.cells #[↑(w11.heap.size+1)] 26 (0,0)):=
   (((r2.out.setCell 0 ↑(w11.heap.size+1)).alloc _).alloc _).drew
  have gm:=(Blk.new (w11.setCell ↑b2 ↑(w11.heap.size+1)) (mapO [] 0)).alloc (.cells #[↑d,↑l,I lg,I v1,I v2,I n,I v3,I life,.map (some w11.heap.size),↑false] 137 (0,0))
  have gs:=Blk.new ((w11.setCell ↑b2 ↑(w11.heap.size+1)).alloc (mapO [] 0)) (.cells #[↑d,↑l,I lg,I v1,I v2,I n,I v3,I life,.map (some w11.heap.size),↑false] 137 (0,0))
  rw [aEI,aES] at gs
  rw [aES] at gm
  have ao:=hA.out.step kS (λ i hi e=>a5.out (e ▸ hi)) (λ i hi e=>by have:=hq2.out;omega)
  have aO:w.heap.size<=w11.heap.size:=hA.out.keeps.size
  have ak:=And.intro g2 (And.intro (kS.blk r3.out (by omega)) (And.intro gs.drew (And.intro gm.drew (And.intro (kS.blk hl.out (by omega)) ao))))
  refine ahC (λ W=>Blk W b2 (.cells #[↑(w11.heap.size+1)] 26 (0,0))/\Blk W (b2+1) (.cells #[I 0] 63 (0,0))/\Blk W (w11.heap.size+1) (.cells #[↑d,↑l,I lg,I v1,I v2,I n,I v3,I life,.map (some w11.heap.size),↑false] 137 (0,0))/\Blk W w11.heap.size (mapO [] 0)/\Blk W l (logO d ⟨1,lg,life,ep,T,tl,tl,false⟩)/\DAt w d F (afS D lg) F10 W) ak ?_
  have aZ:=hl.out.lt
  have aH:w11.heap.size∉F10:=λ hm=>by have:=hA.out.rep.lt _ hm;omega
  have aI:w11.heap.size+1∉F10:=λ hm=>by have:=hA.out.rep.lt _ hm;omega
  clear kS g2 gm gs ao ak r2 r3 hl hA an kd1 kd2 kd3 q2 z2 p70 p71 p72 p73 p74 aY
  rename_i hHeld
  clear hHeld
  rintro w13 ⟨r2,r3,rs,rm,hl,hA⟩
  generalize w11.heap.size=m at r2 rs rm aH aI aZ aG aO
  clear w11
  have aA:(afS D lg).burnt=false:=by
   cases aA:(afS D lg).burnt with
   | false=>rfl
   | true=>
    have:=hst.out
    unfold ab0 at this
    rw [aA,if_pos rfl] at this
    cases this
  have aJ:(afS D lg).n=D.n:=hA.rep.wf.pos |> λ _=>by
   have e1:AcF D.readed.took.readed.readed (D.readed.took.readed.readed.readedN lg) 0:=⟨by
    have:=af.out.readed.wf.took.wf.readed.wf.readed.wf
    exact ⟨by rw [afQ];exact (by
     have hd:∀ k,(D.readed.took.readed.readed.readedN k).dur=D.readed.took.readed.readed.dur:=λ k=>by
      induction k with
      | zero=>rfl
      | succ k ih=>exact ih
     rw [hd];exact this.len),by rw [afQ];exact this.pos,by rw [afQ];exact this.max,by
     have hd:∀ k,(D.readed.took.readed.readed.readedN k).pend=D.readed.took.readed.readed.pend:=λ k=>by
      induction k with
      | zero=>rfl
      | succ k ih=>exact ih
     rw [hd];exact this.pend⟩,afQ _ _,by rw [ad0];exact aEK _⟩
   unfold afS
   rw [e1.wf.flushed_n,e1.n];rfl
  have aP:(afS D lg).writes<1099511627776:=by
   unfold afS
   rw [acB,ad0]
   have:=hf.out.wr
   show D.writes<_
   omega
  have b0:T<1073741824:=by rw [← hT.out];exact hf.out.top
  have hSt:=aAM hl hA.rep a2.out aA (by show (afS D lg).life=life;rw [ay.out,az.out]) rfl (by show 1+1<_;rw [aJ];have:=hsz.out.1;omega) (by rw [aJ];exact hsz.out.2) aP (by show T+1<_;omega)
  unfold AhF at hSt
  dsimp only at hSt
  have hst':=hst.out
  rw [hst',if_pos rfl] at hSt
  replace ⟨hSt,r2,r3,rs,rm,hl,hA⟩:=yh7 hSt r2 r3 rs rm hl hA;clear aA aJ aP b0
  go_wp2
  go_loopw [62] (λ i wr=>i=I 0/\wr=w13) (λ _ _=>0)
  case atStart=>exact ⟨rfl,rfl⟩
  case round=>
   obtain ⟨rfl,rfl⟩:=hrel
   go_upto_region 25 with (first
    | (go_at_call 157;refine hSt.out.mono ?_;rintro e w14 ⟨rfl,F14,a9,aa,ae,k14⟩;replace ⟨a9,aa,ae,k14⟩:=yh4 a9 aa ae k14)
    | (go_at_call 150;refine (hDm.out _).mono ?_;rintro e w4 ⟨rfl,rfl⟩))
   have kn:∀ b o,Blk wr b o->b∉F10->b≠l->Blk w14 b o:=λ b o h h1 h2=>k14.out.blk h (λ e=>e.elim h1 h2)
   have g2:=kn _ _ r2.out a5.out (by omega)
   have g3:=kn _ _ r3.out a8.out (by omega)
   have gs:=kn _ _ rs.out aI (by omega)
   have gm:=kn _ _ rm.out aH (by omega)
   have ap:DAt w d F (ab0 (afS D lg) 1 (T+1) 0).2 F14 w14:=⟨a9.out,λ k hk=>by
    rcases aa.out k hk with a|a
    ·exact hA.out.sub k a
    ·exact .inr (aE4 hA.out.keeps.size a),hA.out.keeps.trans k14.out (λ i hi e=>by
     rcases e with e|e
     ·rcases hA.out.sub i e with a|a
      ·exact a
      ·omega
     ·have:=hq2.out;omega)⟩
   have a3:∀ b,b<wr.heap.size->b∉F10->b∉F14:=λ b h1 h2 hm=>by
    rcases aa.out b hm with a|a
    ·exact h2 a
    ·omega
   have n2:=a3 b2 r2.out.lt a5.out
   have n3:=a3 (b2+1) r3.out.lt a8.out
   have ns:=a3 (m+1) rs.out.lt aI
   have nm:=a3 m rm.out.lt aH
   have nl:=a3 l hl.out.lt a2.out
   have kS2:AaA (λ k=>k=b2∨k=b2+1) w14 ((w14.setCell ↑b2 (.pointer (some ⟨m+1,0,none⟩))).setCell ⟨b2+1,0,none⟩ (I 0)):=((AaA.refl _ w14).setCell (p:=⟨b2,0,none⟩) (.inl (.inl rfl)) _).setCell (p:=⟨b2+1,0,none⟩) (.inl (.inr rfl)) _
   have f2:Blk ((w14.setCell ↑b2 (.pointer (some ⟨m+1,0,none⟩))).setCell ⟨b2+1,0,none⟩ (I 0)) b2 (.cells #[.pointer (some ⟨m+1,0,none⟩)] 26 (0,0)):=(g2.setCell 0 (.pointer (some ⟨m+1,0,none⟩))).setCell_ne (p:=⟨b2+1,0,none⟩) (by show b2≠b2+1;omega) _
   have f3:Blk ((w14.setCell ↑b2 (.pointer (some ⟨m+1,0,none⟩))).setCell ⟨b2+1,0,none⟩ (I 0)) (b2+1) (.cells #[I 0] 63 (0,0)):=(g3.setCell_ne (p:=⟨b2,0,none⟩) (by show b2+1≠b2;omega) _).setCell 0 _
   have hX:AlH w d F (ab0 (afS D lg) 1 (T+1) 0).2 s lg n life T (U (.tuple #[.pointer (some ⟨m+1,0,none⟩),I 0])) ((w14.setCell ↑b2 (.pointer (some ⟨m+1,0,none⟩))).setCell ⟨b2+1,0,none⟩ (I 0)):=by
    refine ⟨m+1,l,m,F14,rfl,?_,kS2.blk ae.out (by omega),kS2.blk gm (by omega),ap.step kS2 (λ i hi e=>e.elim (λ e=>n2 (e ▸ hi)) (λ e=>n3 (e ▸ hi))) (λ i hi e=>by have:=hq2.out;omega),by omega,by have:=hq2.out;omega,aO,?_⟩
    ·have:=kS2.blk gs (by omega)
     unfold acQ
     rw [aD.out,aE.out,hv3.out]
     exact this
    ·simp only [List.nodup_cons,List.mem_cons,not_or]
     have b1:F14.Nodup:=by
      obtain ⟨dur,mm,ps,clock,h1,rfl,h3⟩:=a9.out
      exact h3
     exact ⟨⟨by omega,by omega,ns⟩,⟨by omega,nl⟩,nm,b1⟩
   have c2:=g2.cell 0
   have c3:=g3.cell 0
   have z2:=g2.frz
   have z3:=g3.frz
   simp at c2 c3
   have d2:=f2.cell 0
   have d3:=f3.cell 0
   simp at d2 d3
   replace hX:=hid hX;clear g2 g3 gs gm ap a3 n2 n3 ns nm nl kS2 f2 f3
   go_wp2
   refine leaves_cons (f:=148) (args:=#[↑b2,.pointer (some ⟨b2+1,0,none⟩)]) (by simp) (by simp [go_sem]) ?_
   refine (asZ ⟨b2,0,none⟩ ⟨b2+1,0,none⟩ _).mono ?_
   rintro e u' w'' ⟨rfl,rfl,rfl⟩
   simp [Leaves,settle,results,Tryz.results75,go_sem,d2,d3]
   rw [hT.out,az.out]
   exact hX.out
end
theorem awH (w:World) (T:TypeId) (g off n c:Nat) (src:List UInt8) (hg:Blk w g (aa2 T src)) (hlen:off+n<=src.length) (hn:1<=n) (a8:n<=1048576) :
  Calls prog 170 #[.slice (some ⟨g,off,none⟩) n c] w λ e w'=>∃ b k,w.heap.size<=b/\e=U (.slice (some ⟨b,0,none⟩) n (n+k))/\Blk w' b (aaE ((src.drop off).take n++aaD k))/\AaA NoF w w':=by
 have a6:∀ w,(binOp BinOp.eql 40 (.slice (some ⟨g,off,none⟩) n c) (.slice none 0 0)).run prog w=.ok ↑false w:=λ w=>by kernel_rfl
 obtain ⟨i5,a1,a2,hs5,a3⟩:=info_parts ak7
 replace ⟨hg,a1,a2,hs5,a3⟩:=yh5 hg a1 a2 hs5 a3
 go_enter Tryz.func170,Tryz.ntmps170
 go_upto_region 3 with fail
 go_step
 refine aaR rfl _ _ (by go_simp;exact ⟨rfl,rfl⟩) ?_
 simp only [wz]
 refine aaR rfl _ _ (by go_simp;exact ⟨rfl,rfl⟩) ?_
 simp only [wz]
 refine wpList_plain rfl λ K hK=>?_
 refine amW (.tmp 5) (.tmp 6) 40 rfl 5 i5 afL rfl a1.out a2.out hs5.out a3.out 5 T w.heap.size 0 0 0 g off n c rfl rfl [] src (Blk.new w _) (hg.out.alloc _) (aEK _) hlen (by omega) (by omega) (by omega) ?_
 intro cap k w2 a0 a4 k2 a7
 refine hK _ _ ?_
 rw [Nat.zero_add] at a0
 simp only [List.drop_nil,List.take_nil,List.nil_append,aEI] at a4
 have hk2:AaA NoF w w2:=((AaA.refl NoF w).alloc _).step k2
 have a5:w.heap.size<=w.heap.size+1:=Nat.le_succ _
 simp only [Act.put,List.setIfInBounds_toArray,List.set_cons_zero,List.set_cons_succ,aEI,Nat.zero_add]
 subst a0
 replace ⟨a4,hk2,a5⟩:=yh3 a4 hk2 a5
 clear k2 a7 a6 a1 a2 hs5 a3 hg
 go_wp2
 go_ret
 exact ⟨w.heap.size+1,k,a5.out,rfl,a4.out,hk2.out⟩
end Go.Vk
