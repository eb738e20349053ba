/- Part of the proof: Dw5 Dw6 Cw1 Cw3. -/
import Derived.Test.YtjeelghnmkefcaaGreatQ02
import Derived.Test.YtjeelghnmkefcaaGreatQ03
import Derived.Maps.RangeWalk
import Derived.Deep.CutRange
import Derived.Deep.RegionHeld3
import Derived.Deep.RegionWith
set_option linter.unusedVariables false
set_option maxHeartbeats 16000000
set_option maxRecDepth 100000
namespace Go.Vk
open Go.RowKit Go.Proofs
open Tryz (prog)
section
variable {w:World} {d:Nat} {D:DM} {dur m:Nat} {ps:List PEnt} {clock:Nat}
theorem axN (h:Aa7 w d D dur m ps clock) (hF:(aaQ d dur m ps).Nodup):Calls prog 147 #[↑d] w λ e w'=>
  e=U (.tuple #[])/\Aa7 w' d D.settled dur m [] clock/\AaA (λ i=>i=d∨i=m) w w'/\w'.heap.size=w.heap.size:=by
 have c1:=h.c1
 have fz:=h.fz
 have a3:=λ ty=>ajB amY h.hm ty
 have a2:d∉dur :: m :: ps.flatMap PEnt.foot:=(List.nodup_cons.1 hF).1
 have a0:m≠d:=λ e=>a2 (by simp [e])
 have a4:dur≠d:=λ e=>a2 (by simp [e])
 have a5:dur≠m:=λ e=>(List.nodup_cons.1 (List.nodup_cons.1 hF).2).1 (by simp [e])
 have a6:=ae2 h.c1 (Ne.symm a0) (mapO [] clock)
 have a7:=ae2 h.c9 (Ne.symm a0) (mapO [] clock)
 have a1:=h.hd.setBlk_ne (Ne.symm a0) (mapO [] clock)
 have a8:=a1.frz
 replace ⟨h,a1⟩:=yh2 h a1;clear hF
 go_enter Tryz.func147,Tryz.ntmps147
 go_wp2
 go_end0
 have hk:AaA (λ i=>i=d∨i=m) w ((w.setBlk m (mapO [] clock)).setCell ⟨d,9,none⟩ (I 0)):=
  ((abM w m (mapO [] clock)).mono (λ _ _ e=>.inr e)).setCell (.inl (.inl rfl)) _
 refine ⟨rfl,⟨?_,?_,?_,?_,?_,?_,?_,?_,h.out.hlen,h.out.hmax,h.out.hpos,?_,?_,h.out.hleft⟩,hk,?_⟩
 ·exact a1.out.setCell 9 _
 ·exact hk.blk h.out.hdur (λ e=>by omega)
 ·exact (h.out.hm.setBlk (mapO [] clock)).setCell_ne a0 _
 all_goals first|(intro p hp;cases hp;done)|rfl|(simp;done)|(simp [World.setBlk];done)
structure AoH (w:World) (d:Nat) (D:DM) (dur m:Nat) (ps:List PEnt) (clock r:Nat) (wr:World) (seen:Array Nat):Prop where
 hD:Aa7 wr d (D.mid ps seen) dur m ps clock
 hr:Blk wr r (agE m clock seen)
 hk:AaA (· = dur) w wr
theorem akL {F:List Nat} (h:AaI w d D F) (hb:D.burnt=true):Calls prog 143 #[↑d] w λ e w'=>e=U (I 3)/\w=w':=by
 replace h:=hid h
 go_enter Tryz.func143,Tryz.ntmps143
 go_wp2_with (go_at_call 76;refine (agI h.out).mono ?_;rintro e w' ⟨rfl,rfl⟩)
 go_ret
 exact ⟨rfl,rfl⟩
theorem ajK {F:List Nat} (h:AaI w d D F) (hb:D.burnt=false):Calls prog 143 #[↑d] w λ e w'=>
  e=U (I 0)/\AeN w d F D.flushed w':=by
 have a6:=agI h
 obtain ⟨dur,m,ps,clock,h1,rfl,h3⟩:=h
 have c1:=h1.c1
 have ai:=ahN amY h1.hm
 replace ⟨h1,h3,a6⟩:=yh3 h1 h3 a6
 go_enter Tryz.func143,Tryz.ntmps143
 go_wp2_with (go_at_call 76;refine a6.out.mono ?_;rintro e w' ⟨rfl,rfl⟩)
 try go_frame
 have hlt:=h1.out.lt
 have a2:AoH w d D dur m ps clock w.heap.size (w.alloc (agE m clock #[])) #[]:=
  ⟨by rw [h1.out.mid_start];exact h1.out.alloc hlt _,Blk.new _ _,(AaA.refl _ _).alloc _⟩
 have a3:∀ i∈aaQ d dur m ps,i≠w.heap.size:=λ i hi e=>by have:=hlt i hi;omega
 generalize hr:w.heap.size=r at *
 replace ⟨a3,hr⟩:=yh2 a3 hr;clear hlt
 go_loopw [3] (λ _ wr=>∃ seen,AoH w d D dur m ps clock r wr seen) (λ _ wr=>adT (ps.map PEnt.ent) r wr)
 case atStart=>exact ⟨_,a2⟩
 case round=>
  obtain ⟨seen,hL⟩:=hrel
  clear a2
  go_wp2_with (at_next;refine ae3 rfl (.tmp 10) rfl r m clock (ps.map PEnt.ent) seen rfl hL.hr hL.hD.hm (λ x hx=>by obtain ⟨p,hp,rfl⟩:=List.mem_map.1 hx;exact h1.out.hc p hp) ?_ ?_)
  ·intro a0
   have hS:=axN hL.hD h3.out
   replace ⟨a0,hL,hS⟩:=yh3 a0 hL hS
   go_wp2_with fail
   refine hS.out.mono ?_
   rintro e w5 ⟨rfl,h5,k5,s5⟩
   have c7:=h5.c7
   have fz:=h5.fz
   replace ⟨h5,k5⟩:=yh2 h5 k5
   go_wp2_with fail
   have hN:(aaQ d dur m []).Nodup:=by
    have:=h3.out
    simp only [aaQ,List.nodup_cons,List.mem_cons,not_or,List.flatMap_nil] at this ⊢
    exact ⟨⟨this.1.1,this.1.2.1,by simp⟩,⟨this.2.1.1,by simp⟩,by simp,by simp⟩
   have h6:=h5.out.set hN (D':={ (D.mid ps seen).settled with flushes:=wrap64 ((D.mid ps seen).settled.flushes+1) }) 7 (I (wrap64 ((D.mid ps seen).settled.flushes+1))) (h5.out.hd.setCell 7 _) rfl rfl (aEK _) h5.out.hleft
   have e6:({ (D.mid ps seen).settled with flushes:=wrap64 ((D.mid ps seen).settled.flushes+1) }:DM).spent=D.flushed:=by
    have:=h1.out.mid_end seen a0.out
    simp only [DM.flushed,DM.settled,DM.mid,this]
   refine (auG ⟨dur,m,[],clock,h6,rfl,hN⟩ (λ hf=>?_)).mono ?_
   ·have hb':(D.fused && (D.left == 0))=false:=hb
    have hf':D.fused=true:=hf
    have hl:=h1.out.hleft
    show 0<D.left
    rw [hf'] at hb'
    simp at hb'
    omega
   rintro e w8 ⟨rfl,h8,k8⟩
   rw [e6] at h8
   replace ⟨h8,k8⟩:=yh2 h8 k8;clear h6
   go_wp2
   go_ret
   refine ⟨rfl,aaQ d dur m [],h8.out,?_,λ i hi=>.inl ?_⟩
   ·have a7:∀ i,i∈aaQ d dur m []->i∈aaQ d dur m ps:=λ i e=>by
     simp only [aaQ,List.mem_cons,List.flatMap_nil,List.not_mem_nil,or_false] at e
     simp only [aaQ,List.mem_cons]
     rcases e with e|e|e
     ·exact .inl e
     ·exact .inr (.inl e)
     ·exact .inr (.inr (.inl e))
    have kA:=hL.out.hk.mono (G:=(· ∈ aaQ d dur m ps)) (λ i _ e=>by subst e;simp [aaQ])
    have kB:=k5.out.mono (G:=(· ∈ aaQ d dur m ps)) (λ i _ e=>by rcases e with rfl|rfl<;>simp [aaQ])
    have kC:=(AaA.refl (· ∈ aaQ d dur m ps) w5).setCell (p:=⟨d,7,none⟩) (.inl (by simp [aaQ])) (I (wrap64 ((D.mid ps seen).settled.flushes+1)))
    have kD:=k8.out.mono (G:=(· ∈ aaQ d dur m ps)) (λ i _ e=>a7 i e)
    exact ((kA.step kB).step kC).step kD
   ·simp only [aaQ,List.mem_cons,List.flatMap_nil,List.not_mem_nil,or_false] at hi
    simp only [aaQ,List.mem_cons]
    rcases hi with e|e|e
    ·exact .inl e
    ·exact .inr (.inl e)
    ·exact .inr (.inr (.inl e))
  ·rintro a v b hx w' hr' a4 hs'
   obtain ⟨p,hp,a8⟩:=List.mem_map.1 (acE hx).1
   have ha:p.key=a:=congrArg (·.1) a8
   have hv:p.val=v:=congrArg (·.2.1) a8
   have ad:p.born=b:=congrArg (·.2.2) a8
   subst ha hv ad
   have h':Aa7 w' d (D.mid ps seen) dur m ps clock:=hL.hD.keep λ i hi=>a4.block i (hL.hD.lt i hi) (a3.out i hi)
   have ab:=agO (P:=prog) (x:=p.ent) hr' h'.hm (acE hx).1 (by simpa [Function.comp_def,PEnt.ent] using h1.out.hb)
   have ac:(p.key:Int)<(D.mid ps seen).n:=by rw [h1.out.mid_n];exact_mod_cast h1.out.hn p hp
   have a1:=h1.out.now_key hp (ae9 D ps seen)
   replace ab:(Instr.entry ↑r).run prog w'=.ok (.tuple #[I p.key,p.val]) w':=ab
   replace ⟨hL,hx,h',hr',a4,a1⟩:=yh6 hL hx h' hr' a4 a1;clear hs'
   go_wp2_with fail
   refine (azS h'.out p.key (by omega) ac).mono ?_
   rintro e w6 ⟨rfl,rfl⟩
   go_wp2_with fail
   refine (aC8 h'.out p.key (by omega) ac).mono ?_
   rintro e w6 ⟨g,off,c,src,rfl,rfl,hg,hlen,ae,af⟩
   dsimp only
   go_step
   have ag:(D.mid ps seen).dur.length=D.dur.length:=h1.out.mid_length seen
   have aj:=h1.out.hlen
   have ak:=h1.out.hn p hp
   refine akW rfl (.tmp 17) (.tmp 20) 40 40 rfl 5 afL amP _ _ _ _ _ _ _ _ rfl rfl _ _ h'.out.hdur hg (by rw [ag];omega) hlen ?_
   intro w7 a9 hk7 al
   have e7:lay (D.mid ps seen).dur (512*p.key) ((src.drop off).take (Nat.min 512 512))=ae9 D ps (seen.push p.born):=by
    rw [show Nat.min 512 512=512 from rfl,ae,Int.toNat_natCast]
    show lay (ae9 D ps seen) _ ((D.mid ps seen).now p.key)=_
    rw [show (D.mid ps seen).now p.key=D.now p.key from a1.out,h1.out.mid_step hp]
   rw [e7] at a9
   have h7:Aa7 w7 d (D.mid ps (seen.push p.born)) dur m ps clock:=by
    have:=h'.out.turn_dur h3.out hk7 a9 (by rw [h1.out.mid_length];exact (h1.out.mid_length seen).symm)
    exact this
   have a5:Blk w7 r (agE m clock (seen.push p.born)):=hk7.blk hr'.out (λ e=>a3.out dur (by simp [aaQ]) e.symm)
   have aa:AaA (· = dur) w w7:=by
    have ah:AaA (· = dur) w w':=hL.out.hk.trans a4.out (λ i hi e=>by subst e;have:=hr.out;omega)
    exact ah.trans hk7 (λ _ _ e=>e)
   replace ⟨h7,a5,aa⟩:=yh3 h7 a5 aa;clear a9 hk7 e7
   go_wp2
   go_roundw
   case rel=>
    have hfin:∃ seen,AoH w d D dur m ps clock r w7 seen:=⟨_,h7.out,a5.out,aa.out⟩
    first|exact hfin|((repeat apply Exists.intro);exact ⟨hfin,rfl⟩)
   case measure=>rw [ac3 a5.out,ac3 hL.out.hr];exact agP hx.out
end
def DM.new (n:Nat):DM:={ dur:=aaD (512*n),pend:=λ _=>[],fused:=false,left:=0,life:=1,reads:=0,writes:=0,flushes:=0,refused:=0,pending:=0 }
theorem aBF {w:World} {n:Nat} (h1:1<=n) (h2:n<=2048) :
  AaI (((w.alloc (aaE (aaD (512*n)))).alloc (mapO [] 0)).alloc (agV w.heap.size (512*n) (w.heap.size+1) (DM.new n))) (w.heap.size+2) (DM.new n) [w.heap.size+2,w.heap.size,w.heap.size+1]:=by
 have hl:(DM.new n).dur.length=512*n:=aaF _
 have hn:(DM.new n).n=n:=by simp only [DM.n,hl];omega
 have b0:=((Blk.new w (aaE (aaD (512*n)))).alloc (mapO [] 0)).alloc (agV w.heap.size (512*n) (w.heap.size+1) (DM.new n))
 have b1:=(Blk.new (w.alloc (aaE (aaD (512*n)))) (mapO [] 0)).alloc (agV w.heap.size (512*n) (w.heap.size+1) (DM.new n))
 have b2:=Blk.new ((w.alloc (aaE (aaD (512*n)))).alloc (mapO [] 0)) (agV w.heap.size (512*n) (w.heap.size+1) (DM.new n))
 simp only [aEI] at b1 b2
 refine ⟨w.heap.size,w.heap.size+1,[],0,⟨?_,b0,b1,?_,?_,?_,?_,?_,?_,?_,?_,?_,?_,?_⟩,rfl,?_⟩
 ·rw [hl];exact b2
 ·intro p hp;cases hp
 ·exact List.nodup_nil
 ·exact List.nodup_nil
 ·intro p hp;cases hp
 ·intro p hp;cases hp
 ·rw [hl,hn]
 ·rw [hn];exact h2
 ·rw [hn];exact h1
 ·rfl
 ·intro p hp;cases hp
 ·exact ⟨Int.le_refl _,by show (0:Int)<=_;omega⟩
 ·simp
theorem aDC (n:Nat) (h1:1<=n) (h2:n<=2048) (w:World):Calls prog 80 #[I n] w λ e w'=>∃ d F,e=U (.tuple #[.pointer (some ⟨d,0,none⟩),I 0]) /\
  AaI w' d (DM.new n) F/\AaA NoF w w'/\∀ k∈F,w.heap.size<=k:=by
 have a0:∀ w,(Instr.makeSlice 40 (I ((n:Int)*512)) (I ((n:Int)*512))).run prog w=.ok (.slice ↑w.heap.size (512*n) (512*n)) (w.alloc (aaE (aaD (512*n)))):=λ w=>by
  have:=mkB (512*n) (by omega) w
  rwa [show ((512*n:Nat):Int)=(n:Int)*512 by omega] at this
 have a1:∀ w,(Instr.makeMap 180 none).run prog w=.ok (.map (some w.heap.size)) (w.alloc (mapO [] 0)):=λ w=>run_makeMap _ w
 go_enter Tryz.func80,Tryz.ntmps80
 go_wp2
 go_ret2
 exact ⟨_,_,rfl,aBF h1 h2,(((AaA.refl _ _).alloc _).alloc _).alloc _,by simp⟩
def al9:List Nat:=[0,274646895,549293790,820201905,1098587580,1361435347,1640403810,1905808397,2197175160,2460548119,2722870694,2987750089,3280807620,3553878443,3811616794,4084100981]
def tab (i:Nat):Nat:=al9.getD i 0
def half (r:Nat):Nat:=(r / 16) ^^^ tab (r % 16)
def akO (r:Nat) (x:UInt8):Nat:=half (half (r ^^^ x.toNat))
def afU (bs:List UInt8):Nat:=bs.foldl akO 4294967295
def crc (bs:List UInt8):Nat:=4294967295 - afU bs
theorem azG (i:Nat):tab i<4294967296:=by
 have h:∀ x∈al9,x<4294967296:=by decide
 unfold tab
 rw [aEL]
 cases e:al9[i]? with
 | none=>simp
 | some v=>exact h v (List.mem_of_getElem? e)
theorem aqZ {r:Nat} (h:r<4294967296):half r<4294967296:=Nat.xor_lt_two_pow (n:=32) (by omega) (azG _)
theorem atH {r:Nat} (h:r<4294967296) (x:UInt8):akO r x<4294967296:=
 aqZ (aqZ (Nat.xor_lt_two_pow (n:=32) h (by have:=x.toNat_lt;omega)))
theorem ajN (bs:List UInt8):afU bs<4294967296:=by
 have:∀ (bs:List UInt8) (r:Nat),r<4294967296->bs.foldl akO r<4294967296:=by
  intro bs
  induction bs with
  | nil=>intro r h;exact h
  | cons x bs ih=>intro r h;exact ih _ (atH h x)
 exact this bs _ (by omega)
theorem amD (bs:List UInt8) (x:UInt8):afU (bs++[x])=akO (afU bs) x:=by simp [afU]
theorem aDZ {r:Nat} (h:r<4294967296):bits .and .u32 (r:Int) 15=((r % 16:Nat):Int):=by
 have:=u32_and_nat r 15 h (by omega)
 rw [show ((15:Nat):Int)=15 from rfl] at this
 rw [this,show (15:Nat)=2 ^ 4 - 1 from rfl,Nat.and_two_pow_sub_one_eq_mod]
theorem az0 {r:Nat} (h:r<4294967296):bits .xor .u32 IntKind.u32.max (r:Int)=((4294967295 - r:Nat):Int):=by
 have:=u32_xor_nat 4294967295 r (by omega) h
 rw [show IntKind.u32.max=((4294967295:Nat):Int) from rfl,this]
 congr 1
 apply Nat.eq_of_testBit_eq
 intro i
 rw [Nat.testBit_xor,show (4294967295:Nat)=2 ^ 32 - 1 from rfl,Nat.testBit_two_pow_sub_one,show 2 ^ 32 - 1 - r=2 ^ 32 - (r+1) by omega,Nat.testBit_two_pow_sub_succ (by omega)]
 by_cases hi:i<32
 ·simp [hi]
 ·have:r.testBit i=false:=Nat.testBit_lt_two_pow (aEJ h (show 2 ^ 32<=2 ^ i from aE5 (by omega) (by omega)))
  simp [hi,this]
theorem aq9 {r:Nat} (h:r<4294967296):bits .xor .u32 ((r:Int) / 16) (tab (r % 16):Nat)=(half r:Nat):=by
 have:=u32_xor_nat (r / 16) (tab (r % 16)) (by omega) (azG _)
 rw [Int.natCast_ediv] at this
 exact this
def ahB:List Value:=al9.map λ x=>.int .u32 (x:Nat)
theorem al8:∀ v∈ahB,v.oneCell'=true:=by
 intro v hv
 obtain ⟨x,_,rfl⟩:=List.mem_map.1 hv
 rfl
theorem tabV (i:Nat) (hi:i<16):ahB[i]? = some (.int .u32 ((tab i:Nat):Int)):=by
 have h:i<al9.length:=hi
 unfold ahB tab
 rw [aEZ,aEG h,aEL,aEG h]
 rfl
theorem apW (a:Act) (w:World):(Instr.build 279 ((#[(0,.const (.int .u32 0)),(1,.const (.int .u32 274646895)),(2,.const (.int .u32 549293790)),(3,.const (.int .u32 820201905)),(4,.const (.int .u32 1098587580)),(5,.const (.int .u32 1361435347)),(6,.const (.int .u32 1640403810)),(7,.const (.int .u32 1905808397)),(8,.const (.int .u32 2197175160)),(9,.const (.int .u32 2460548119)),(10,.const (.int .u32 2722870694)),(11,.const (.int .u32 2987750089)),(12,.const (.int .u32 3280807620)),(13,.const (.int .u32 3553878443)),(14,.const (.int .u32 3811616794)),(15,.const (.int .u32 4084100981))]:Array (Nat × Operand)).map λ (i,x)=>(i,a.eval x))).run prog w=.ok (.agg ahB.toArray) w:=by
 kernel_rfl
theorem aCK:prog.underlying 279=some (.array 16 259):=by kernel_rfl
theorem aqB:(prog.info? 279).map (·.size)=some 16:=by kernel_rfl
theorem ayN (w:World):Calls prog 251 #[] w λ e w'=>e=U (.agg ahB.toArray)/\AaA NoF w w':=by
 go_enter Tryz.func251,Tryz.ntmps251
 go_upto_region 1 with fail
 go_step
 refine abT rfl _ _ rfl _ _ (apW _ _) ?_
 refine aaL rfl 279 (.tmp 0) (.tmp 1) rfl _ 0 279 (List.replicate 16 (.int .u32 0)) ahB rfl rfl (Blk.new _ _) (aEK _) aqB al8 ?_
 intro w2 hb hk hs
 rw [aa4 (by decide)] at hb
 have hk2:AaA NoF w w2:=⟨hk.os,hk.tape,hk.output,by rw [hs];simp,λ i hi _=>by
  rw [hk.block i (by simp;omega) (by omega)];exact ((AaA.refl NoF w).alloc _).block i hi (λ f=>f)⟩
 clear hk hs
 replace ⟨hb,hk2⟩:=yh2 hb hk2
 go_wp2
 exact bodyPost_ret (v:=.agg ahB.toArray) (afO rfl _ _ w.heap.size 279 ahB _ rfl hb.out aCK rfl aqB) rfl ⟨rfl,hk2.out⟩
theorem ay9 (w:World):(Instr.alloc 279 true (.tuple #[])).run prog w=.ok ↑w.heap.size (w.alloc (.cells (List.replicate 16 (.int .u32 0)).toArray 279 (0,0))):=by kernel_rfl
theorem aCU (w:World) (g off c:Nat) (src:List UInt8) (hg:Blk w g (aaE src)) (n:Nat) (hlen:off+n<=src.length) (hn:n<=1048576) :
  Calls prog 229 #[.slice (some ⟨g,off,none⟩) n c] w λ e w'=>e=U (I (crc ((src.drop off).take n):Nat))/\AaA NoF w w':=by
 have a3:=ayN w
 replace ⟨a3,hg⟩:=yh2 a3 hg
 go_enter Tryz.func229,Tryz.ntmps229
 go_wp2_with fail
 refine a3.out.mono ?_
 rintro e w' ⟨rfl,hk⟩
 dsimp only
 go_step
 refine aa0 rfl _ rfl _ _ (ay9 _) ?_
 refine aaL rfl 279 (.tmp 3) (.tmp 7) rfl _ 0 279 (List.replicate 16 (.int .u32 0)) ahB rfl rfl (Blk.new _ _) (aEK _) aqB al8 ?_
 intro w2 hb hk2 hs
 rw [aa4 (by decide)] at hb
 have a4:Blk w2 g (aaE src):=by
  have:=hg.out.lt
  have:=hk.size
  exact hk2.blk ((hk.blk hg.out (λ f=>f)).alloc _) (by omega)
 have a5:AaA NoF w w2:=⟨hk2.os.trans hk.os,hk2.tape.trans hk.tape,hk2.output.trans hk.output,by rw [hs];simp;have:=hk.size;omega,λ i hi _=>by
  have:=hk.size
  rw [hk2.block i (by simp;omega) (by omega)];exact (hk.alloc _).block i hi (λ f=>f)⟩
 have ht:∀ i,i<16->w2.cell? ⟨w'.heap.size,i,none⟩=some (.int .u32 ((tab i:Nat):Int)):=by
  intro i hi;rw [hb.cell];simpa using tabV i hi
 clear hk hk2 hs hb a3 hg
 generalize w'.heap.size=tb at ht ⊢
 clear w'
 replace ⟨a4,a5⟩:=yh2 a4 a5
 go_wp2
 go_loop [4,6,10] (λ reg _ i=>∃ k:Nat,k<=n/\i=I k/\reg=.int .u32 (afU ((src.drop off).take k):Nat)) (λ _ _ i=>n - (intOf i).toNat)
 case atStart=>exact ⟨0,by omega,rfl,rfl⟩
 case round=>
  obtain ⟨k,hk,rfl,rfl⟩:=hrel
  by_cases hlt:k<n
  ·have a0:=adU a4.out (off+k) (by omega)
   have hsn:(src.drop off).take (k+1)=(src.drop off).take k++[src[off+k]]:=by
    rw [aE6 (by rw [aET];omega)];simp
   have hR:=amD ((src.drop off).take k) src[off+k]
   rw [← hsn] at hR
   have hr:=ajN ((src.drop off).take k)
   generalize afU ((src.drop off).take k)=r at hR hr
   generalize hQ:afU ((src.drop off).take (k+1))=r' at hR
   generalize src[off+k]=x at a0 hR
   unfold B at a0
   have a7:x.toNat<256:=x.toNat_lt
   have x1:=u32_xor_nat r x.toNat hr (by omega)
   have l1:r ^^^ x.toNat<4294967296:=Nat.xor_lt_two_pow (n:=32) hr (by omega)
   unfold akO at hR
   generalize r ^^^ x.toNat=r1 at x1 l1 hR
   have a1:=aDZ l1
   have t1:=ht (r1 % 16) (by omega)
   have x2:=aq9 l1
   have b1:r1 % 16<16:=by omega
   have l2:=aqZ l1
   generalize half r1=r2 at x2 l2 hR
   generalize tab (r1 % 16)=v1 at t1 x2
   generalize r1 % 16=q1 at a1 t1 b1
   have a2:=aDZ l2
   have t2:=ht (r2 % 16) (by omega)
   have x3:=aq9 l2
   have b2:r2 % 16<16:=by omega
   rw [hR] at hQ
   clear hR
   generalize half r2=r3 at x3 hQ
   generalize tab (r2 % 16)=v2 at t2 x3
   generalize r2 % 16=q2 at a2 t2 b2
   clear ht hsn
   replace ⟨hr,hQ⟩:=yh2 hr hQ;clear l1 l2
   go_wp2
   go_round
   case rel=>exact ⟨k+1,by omega,by go_num,by rw [hQ.out]⟩
   case measure=>simp [intOf];omega
  ·have a6:k=n:=by omega
   subst a6
   clear ht
   have hr:=ajN ((src.drop off).take k)
   have hcrc:crc ((src.drop off).take k)=4294967295 - afU ((src.drop off).take k):=rfl
   generalize afU ((src.drop off).take k)=r at hr hcrc ⊢
   have hx:=az0 hr
   replace hcrc:=hid hcrc
   go_wp2
   go_ret
   refine ⟨?_,a5.out⟩
   rw [hcrc.out]
   show Ending.returned (I (wrap64 ((4294967295 - r:Nat):Int)))=_
   rw [show wrap64 ((4294967295 - r:Nat):Int)=((4294967295 - r:Nat):Int) by unfold wrap64;omega]
def aa9 (v i:Nat):UInt8:=UInt8.ofNat (v / 2 ^ (8*i))
def aaB (v n:Nat):List UInt8:=(List.range n).map (aa9 v)
theorem aaC (v n:Nat):(aaB v n).length=n:=by simp [aaB]
theorem af7 (v n:Nat):aaB v (n+1)=aaB v n++[aa9 v n]:=by simp [aaB,List.range_succ]
theorem abU (v i:Nat):(aa9 v i).toNat=v / 2 ^ (8*i) % 256:=by simp [aa9]
theorem agW (bs:List UInt8) (i:Nat) (x:UInt8):Obj.cells ((bs.map B).toArray.setIfInBounds i (B x)) 5 (0,0)=aaE (bs.set i x):=by
 simp [aaE,List.map_set]
theorem aiB {bs:List UInt8} {at_:Nat} (v k:Nat) (h:at_+(k+1)<=bs.length):lay bs at_ (aaB v (k+1))=(lay bs at_ (aaB v k)).set (at_+k) (aa9 v k):=by
 simp only [lay,af7,aaC,aEH,List.length_singleton]
 have l1:(bs.take at_).length=at_:=by simp;omega
 rw [List.set_append_right _ _ (by omega),l1,Nat.add_sub_cancel_left,List.set_append_right _ _ (by rw [aaC];omega),aaC,Nat.sub_self,
  aEQ,aEX (i:=at_+k) (by omega)]
 rfl
theorem aaO {n:Int} (h1 : -9223372036854775808<=n) (h2:n<=9223372036854775807):IntKind.i64.wrap n=n:=by
 rw [IntKind.wrap_i64];omega
def adM (g len cap at_:Nat):Obj:=.cells #[.slice ↑g len cap,I at_] 219 (0,0)
theorem alJ (w:World) (wb g cap at_:Nat) (bs:List UInt8) (hw:Blk w wb (adM g bs.length cap at_)) (hg:Blk w g (aaE bs)) (a2:wb≠g) (n v:Nat) (hn:n<=8) (hv:v<9223372036854775808)
  (hlen:at_+n<=bs.length) (hb:bs.length<=1048576) :
  Calls prog 182 #[↑wb,I n,I v] w λ e w'=>e=U (.tuple #[]) /\
   Blk w' wb (adM g bs.length cap (at_+n))/\Blk w' g (aaE (lay bs at_ (aaB v n)))/\AaA (λ k=>k=wb∨k=g) w w'/\w'.heap.size=w.heap.size:=by
 have a6:=hw
 have a7:=hg
 clear a6 a7 hv
 go_enter Tryz.func182,Tryz.ntmps182
 go_wp2
 go_loopw [6,8] (λ _ i wr=>∃ k:Nat,k<=n/\i=I k/\Blk wr wb (adM g bs.length cap at_)/\Blk wr g (aaE (lay bs at_ (aaB v k)))/\AaA (λ k=>k=wb∨k=g) w wr/\wr.heap.size=w.heap.size) (λ _ i _=>n - (intOf i).toNat)
 case atStart=>exact ⟨0,by omega,rfl,hw,by simpa [aaB,lay] using hg,AaA.refl _ _,rfl⟩
 case round=>
  obtain ⟨k,hk,rfl,a0,hg1,hk1,a3⟩:=hrel
  clear hw hg
  have a5:(lay bs at_ (aaB v k)).length=bs.length:=ab6 (by rw [aaC];omega)
  have c0:=a0.cell 0
  have c1:=a0.cell 1
  have cf:=a0.frz
  simp at c0 c1
  replace ⟨a0,hk1,a3⟩:=yh3 a0 hk1 a3
  by_cases hlt:k<n
  ·have cg:=hg1.cell (at_+k)
   have cgf:=hg1.frz
   rw [← Array.getElem?_toList,aEZ,aEG (by omega),Option.map_some] at cg
   generalize (lay bs at_ (aaB v k))[at_+k]=old at cg
   unfold B at cg
   replace ⟨hg1,a5⟩:=yh2 hg1 a5
   have a9:(0:Int)<=8*(k:Int):=by omega
   have aa:(8:Int)*(k:Int)<=64:=by omega
   have ab:IntKind.i64.wrap (8*(k:Int))=8*(k:Int):=aaO (by omega) (by omega)
   have ac:IntKind.i64.wrap ((at_:Int)+(k:Int))=(at_:Int)+(k:Int):=aaO (by omega) (by omega)
   have ad:(0:Int)<=(at_:Int)+(k:Int):=by omega
   have ae:(at_:Int)+(k:Int)<(bs.length:Int):=by omega
   have hp6:((at_:Int)+(k:Int)).toNat=at_+k:=by omega
   go_wp2
   go_region_held3 (λ W=>W.cell? ↑wb=some (.slice ↑g bs.length cap)/\W.cell? ⟨wb,1,none⟩=some (I at_)) (first|exact ⟨c0,c1⟩|exact ⟨abB c0 a2 _,abB c1 a2 _⟩) (skip)
   have hB:Value.int IntKind.u8 (IntKind.u8.wrap ((v:Int) / 2 ^ (8*(k:Int)).toNat))=B (aa9 v k):=by
    rw [show (8*(k:Int)).toNat=8*k by omega]
    unfold B
    rw [abU]
    congr 1
   rw [hB]
   have hw2:=(a0.out.setCell_ne (p:=⟨g,at_+k,none⟩) a2 (B (aa9 v k))).drew
   have a1:=(hg1.out.setCell (at_+k) (B (aa9 v k))).drew
   rw [agW,← aiB v k (by omega)] at a1
   have hk2:=(hk1.out.setCell (p:=⟨g,at_+k,none⟩) (.inl (.inr rfl)) (B (aa9 v k))).drew
   have a4:(wr.setCell ⟨g,at_+k,none⟩ (B (aa9 v k))).drew.heap.size=w.heap.size:=by rw [← a3.out];exact aES _ _ _
   generalize (wr.setCell ⟨g,at_+k,none⟩ (B (aa9 v k))).drew=w2 at hw2 a1 hk2 a4 ⊢
   replace ⟨hw2,a1,hk2,a4⟩:=yh4 hw2 a1 hk2 a4
   go_wp2
   go_roundw
   case rel=>exact ⟨k+1,by omega,by go_num,hw2.out,a1.out,hk2.out,a4.out⟩
   case measure=>simp [intOf];omega
  ·have a8:k=n:=by omega
   subst a8
   replace hg1:=hid hg1;clear a5
   go_wp2
   go_end0
   have hw2:=a0.out.setCell 1 (I ((at_:Int)+(k:Int)))
   have e1:Obj.cells (#[Value.slice ↑g bs.length cap,I at_].setIfInBounds 1 (I ((at_:Int)+(k:Int)))) 219 (0,0)=adM g bs.length cap (at_+k):=by
    simp [adM]
   rw [e1] at hw2
   exact ⟨rfl,hw2,hg1.out.setCell_ne (λ e=>a2 e.symm) _,hk1.out.setCell (.inl (.inl rfl)) _,by rw [aES];exact a3.out⟩
def adZ (bs:List UInt8):List UInt8:=lay bs (bs.length - 4) (aaB (crc (bs.take (bs.length - 4))) 4)
theorem awF (bs:List UInt8):crc bs<4294967296:=by unfold crc;omega
theorem arK (w:World) (wb g cap at_:Nat) (bs:List UInt8) (hw:Blk w wb (adM g bs.length cap at_)) (hg:Blk w g (aaE bs)) (a8:wb≠g)
  (hlen:4<=bs.length) (hb:bs.length<=1048576) (aa:bs.length<=cap) (_:cap<=1048576) :
  Calls prog 183 #[↑wb] w λ e w'=>e=U (.slice ↑g bs.length cap) /\
   Blk w' g (aaE (adZ bs))/\AaA (λ k=>k=wb∨k=g) w w':=by
 have c0:=hw.cell 0
 have c1:=hw.cell 1
 have cf:=hw.frz
 simp at c0 c1
 have hcrc:=awF (bs.take (bs.length - 4))
 have hs:adZ bs=lay bs (bs.length - 4) (aaB (crc (bs.take (bs.length - 4))) 4):=rfl
 generalize adZ bs=S at hs ⊢
 have a9:(bs.length:Int) - 4=((bs.length - 4:Nat):Int):=by omega
 have a0:bs.length - 4+4=bs.length:=by omega
 generalize bs.length - 4=n at hcrc hs a9 a0
 replace ⟨hw,hg,hs⟩:=yh3 hw hg hs
 go_enter Tryz.func183,Tryz.ntmps183
 go_upto_region 2 with fail
 have hw2:=hw.out.setCell 1 (I (n:Int))
 have a2:=hg.out.setCell_ne (p:=⟨wb,1,none⟩) (λ e=>a8 e.symm) (I (n:Int))
 have hk2:AaA (λ k=>k=wb∨k=g) w _:=(AaA.refl _ w).setCell (p:=⟨wb,1,none⟩) (.inl (.inl rfl)) (I (n:Int))
 generalize w.setCell ⟨wb,1,none⟩ (I (n:Int))=w2 at hw2 a2 hk2 ⊢
 have e1:Obj.cells (#[Value.slice ↑g bs.length cap,I at_].setIfInBounds 1 (I (n:Int))) 219 (0,0)=adM g bs.length cap n:=by
  simp [adM]
 rw [e1] at hw2
 have d0:=hw2.cell 0
 have d1:=hw2.cell 1
 simp at d0 d1
 have i0:(0:Int)<=(n:Int):=by omega
 have i1:(n:Int)<=(cap:Int):=by omega
 clear c0 c1 cf
 replace ⟨hw2,a2,hk2,a0⟩:=yh4 hw2 a2 hk2 a0;clear a9 e1
 have i2:n<=1048576:=by have:=a0.out;omega
 have hS:=λ w3 h=>aCU w3 g 0 cap bs h n (by have:=a0.out;omega) i2
 rw [aER] at hS
 have hN:=λ w3 h1 h2=>alJ w3 wb g cap n bs h1 h2 a8 4 (crc (bs.take n)) (by omega) (by omega) (by have:=a0.out;omega) hb
 replace hN:=hid hN
 generalize hC:crc (bs.take n)=C at hcrc hs hS hN
 replace ⟨hS,hs⟩:=yh2 hS hs;clear hC
 go_region_with (first
  | (go_at_call 229;refine (hS.out w2.drew a2.out.drew).mono ?_;rintro e w3 ⟨rfl,a3⟩;have a1:=a3.blk hw2.out.drew (λ f=>f);have a4:=a3.blk a2.out.drew (λ f=>f);have a6:=hk2.out.drew.step (a3.mono (λ _ _ f=>f.elim));have d30:=a1.cell 0;have d31:=a1.cell 1;simp at d30 d31;replace ⟨a6,a1,a4⟩:=yh3 a6 a1 a4;clear a3)
  | (go_at_call 182;refine (hN.out _ (by first|exact a1.out|exact a1.out.drew) (by first|exact a4.out|exact a4.out.drew)).mono ?_;rintro e w5 ⟨rfl,hw5,a5,hk5,hs5⟩;have d50:=hw5.cell 0;simp at d50))
 all_goals
  have a7:=a6.out.step hk5
  rw [← hs.out.out] at a5
  clear hk5 hs5 hw5
  replace ⟨a7,a5⟩:=yh2 a7 a5
  go_wp2
  go_ret
  exact ⟨rfl,a5.out,a7.out⟩
end Go.Vk
