/- Part of the proof: Dw1 Dw2 Dw3 Ar Ap Bz. -/
import Derived.Test.YtjeelghnmkefcaaGreatQ01
import Derived.Test.YtjeelghnmkefcaaGreatProg
import Derived.Deep.QuietTactic
import Derived.BigQuiet
import Derived.Deep.MidRow
import Derived.Laws.AppendOwn
set_option linter.unusedVariables false
set_option maxHeartbeats 16000000
set_option maxRecDepth 100000
namespace Go.Vk
open Go.RowKit Go.Proofs
open Tryz (prog)
section
variable {w:World} {d:Nat} {D:DM} {F:List Nat}
theorem agI (h:AaI w d D F):Calls prog 76 #[↑d] w λ e w'=>e=U (.bool D.burnt)/\w=w':=by
 obtain ⟨dur,m,ps,clock,h1,rfl,h3⟩:=h
 have c2:=h1.c2
 have c3:=h1.c3
 have hb:D.burnt=(D.fused && (D.left == 0)):=rfl
 cases hf:D.fused
 all_goals
  rw [hf] at c2 hb
  replace hb:=hid hb
  clear h1 h3 hf
  go_enter Tryz.func76,Tryz.ntmps76
  go_wp2
  go_ret
  exact ⟨by rw [hb.out];first|rfl|simp,rfl⟩
theorem agM (h:AaI w d D F):Calls prog 152 #[↑d] w λ e w'=>e=U (I D.n)/\w=w':=by
 obtain ⟨dur,m,ps,clock,h1,rfl,h3⟩:=h
 have c0:=h1.c0
 have hn:=h1.hlen
 have hm:=h1.hmax
 generalize hL:D.dur.length=L at c0 hn
 have hl:L<=1048576:=by omega
 have hq:((L:Int) / 512)=D.n:=by omega
 replace hq:=hid hq
 clear h1 h3 hL hn hm
 go_enter Tryz.func152,Tryz.ntmps152
 go_wp2
 go_ret
 exact ⟨by rw [← hq.out];rfl,rfl⟩
theorem avL (h:AaI w d D F):Calls prog 141 #[↑d] w λ e w'=>e=U (I D.life)/\w=w':=by
 obtain ⟨dur,m,ps,clock,h1,rfl,h3⟩:=h
 have c4:=h1.c4
 clear h1 h3
 go_enter Tryz.func141,Tryz.ntmps141
 go_wp2
 go_ret
 exact ⟨rfl,rfl⟩
theorem at9 (h:AaI w d D F):Calls prog 160 #[↑d] w λ e w'=>
  e=U (I (wrap64 (D.life+1)))/\AaI w' d D.took F/\AaA (· ∈ F) w w':=by
 obtain ⟨dur,m,ps,clock,h1,rfl,h3⟩:=h
 have c4:=h1.c4
 have fz:=h1.fz
 replace ⟨h1,h3⟩:=yh2 h1 h3
 go_enter Tryz.func160,Tryz.ntmps160
 go_wp2
 go_ret
 refine ⟨rfl,⟨dur,m,ps,clock,h1.out.set h3.out 4 _ ?_ rfl rfl (aEK _) h1.out.hleft,rfl,h3.out⟩,(AaA.refl _ _).setCell (.inl (by simp [aaQ])) _⟩
 exact h1.out.hd.setCell 4 _
theorem auG (h:AaI w d D F) (hl:D.fused=true->0<D.left):Calls prog 206 #[↑d] w λ e w'=>
  e=U (.tuple #[])/\AaI w' d D.spent F/\AaA (· ∈ F) w w':=by
 obtain ⟨dur,m,ps,clock,h1,rfl,h3⟩:=h
 have c2:=h1.c2
 have c3:=h1.c3
 have fz:=h1.fz
 have hb:=h1.hleft
 have hs:D.fused=false->D.spent=D:=λ e=>by simp [DM.spent,e]
 have hs':D.fused=true->D.spent={ D with left:=D.left - 1 }:=λ e=>by simp [DM.spent,e]
 replace ⟨h1,h3⟩:=yh2 h1 h3
 by_cases hf:D.fused=true
 ·rw [hf] at c2
  have hl:=hl hf
  have hs:=hs' hf
  clear hs'
  replace ⟨hf,hs⟩:=yh2 hf hs
  go_enter Tryz.func206,Tryz.ntmps206
  go_wp2
  go_end0
  refine ⟨rfl,⟨dur,m,ps,clock,?_,rfl,h3.out⟩,(AaA.refl _ _).setCell (.inl (by simp [aaQ])) _⟩
  rw [hs.out]
  refine h1.out.set h3.out 3 _ ?_ rfl rfl (aEK _) ⟨?_,?_⟩
  ·exact h1.out.hd.setCell 3 _
  ·show 0<=D.left - 1;omega
  ·show D.left - 1<=_;omega
 ·have hf:D.fused=false:=by simpa using hf
  rw [hf] at c2
  have hs:=hs hf
  clear hs' hl
  replace hs:=hid hs;clear hf
  go_enter Tryz.func206,Tryz.ntmps206
  go_wp2
  go_end0
  exact ⟨rfl,⟨dur,m,ps,clock,by rw [hs.out];exact h1.out,rfl,h3.out⟩,AaA.refl _ _⟩
theorem amZ (h:AaI w d D F) (hb:D.burnt=true) (k:Int):Calls prog 210 #[↑d,I k] w λ e w'=>
  e=U (I 3)/\w=w':=by
 replace h:=hid h
 go_enter Tryz.func210,Tryz.ntmps210
 go_wp2_with (go_at_call 76;refine (agI h.out).mono ?_;rintro e w' ⟨rfl,rfl⟩)
 go_ret
 exact ⟨rfl,rfl⟩
theorem arF (h:AaI w d D F) (hb:D.burnt=false) (k:Int) (h0:0<=k) (h1:k<D.n):Calls prog 210 #[↑d,I k] w λ e w'=>
  e=U (I 0)/\w=w':=by
 replace h:=hid h
 have hk:decide (k<0)=false:=by simpa using h0
 go_enter Tryz.func210,Tryz.ntmps210
 go_wp2_with (first|(go_at_call 76;refine (agI h.out).mono ?_;rintro e w' ⟨rfl,rfl⟩)|(go_at_call 152;refine (agM h.out).mono ?_;rintro e w' ⟨rfl,rfl⟩))
 go_ret
 exact ⟨rfl,rfl⟩
end
theorem amY:(prog).underlying 180=some (.map 3 105):=Tryz.underlying180
theorem ai6:(prog).underlying 3=some (.int .i64):=Tryz.underlying3
theorem atU (w:World):(zeroValue 105).run prog w=.ok (.slice none 0 0) w:=by kernel_rfl
section
variable {w:World} {d:Nat} {D:DM} {F:List Nat} {dur m:Nat} {ps:List PEnt} {clock:Nat}
theorem azS (h:Aa7 w d D dur m ps clock) (k:Int) (h0:0<=k) (hk:k<D.n) :
  Calls prog 145 #[↑d,I k] w λ e w'=>e=U (.slice (some ⟨dur,512*k.toNat,none⟩) 512 (D.dur.length - 512*k.toNat))/\w=w':=by
 obtain ⟨k,rfl⟩:=Int.eq_ofNat_of_zero_le h0
 have hc:=h.c0
 have hl:=h.hlen
 have hm:=h.hmax
 have hk2:512*k+512<=D.dur.length:=by omega
 have hn:D.dur.length<=1048576:=by omega
 generalize D.dur.length=L at hc hk2 hn
 clear h hl hm hk h0
 go_enter Tryz.func145,Tryz.ntmps145
 go_wp2
 go_ret
 have e1:k*512=512*k:=Nat.mul_comm _ _
 have e2:(k+1)*512 - 512*k=512:=by omega
 refine ⟨?_,rfl⟩
 show Ending.returned (Value.slice (some ⟨dur,k*512,none⟩) ((k+1)*512 - k*512) (L - k*512))=_
 rw [e1,e2];rfl
theorem au3 (k:Nat):look (ps.map PEnt.ent) k=(ps.find? (·.key == k)).map (·.val):=by
 simp [look,List.find?_map,Function.comp_def,PEnt.ent]
theorem aD8 (h:Aa7 w d D dur m ps clock) (k:Int) (h0:0<=k) (hk:k<D.n) :
  Calls prog 205 #[↑d,I k] w λ e w'=>e=U (nowV dur D.dur.length ps k.toNat)/\w=w':=by
 obtain ⟨k,rfl⟩:=Int.eq_ofNat_of_zero_le h0
 have hc:=h.c1
 have hl:=aj7 amY ai6 h.hm (atU w) (k:=k)
 rw [au3] at hl
 unfold nowV
 rw [Int.toNat_natCast]
 cases hf:ps.find? (·.key == k) with
 | none=>
  rw [hf] at hl
  replace hl:(Instr.lookup 180 (.map (some m)) (I k) false).run prog w=.ok (.slice none 0 0) w:=hl
  replace ⟨h,hf⟩:=yh2 h hf
  go_enter Tryz.func205,Tryz.ntmps205
  go_wp2_with (go_at_call 145;refine (azS h.out _ (by omega) (by omega)).mono ?_;rintro e w' ⟨rfl,rfl⟩)
  go_ret
  exact ⟨rfl,rfl⟩
 | some p=>
  rw [hf] at hl
  replace hl:(Instr.lookup 180 (.map (some m)) (I k) false).run prog w=.ok p.val w:=hl
  have hp:=h.hp p (aEN hf)
  obtain ⟨p1,p2,p3⟩:=hp
  obtain ⟨j,hj⟩:∃ j,p.secs.length=j+1:=⟨p.secs.length - 1,by have:=List.length_pos_iff.2 p1;omega⟩
  have hmax:j+1<=9223372036854775807:=by
   obtain ⟨_,q⟩:=p2
   unfold maxLen at q
   rcases q with ⟨q,_⟩|⟨g,cap,cur,hv,_,_,q1,q2,_⟩
   ·cases q
   ·omega
  have a1:=p2.cells (g:=p.arr) rfl j (secV (p.secs.getLast p1)) (by
   rw [aEZ,aEG (by omega)]
   simp [List.getLast_eq_getElem,hj])
  rw [Addr.add_lit,Nat.zero_add] at a1
  have a0:((p.secs.map secV).getLast?).getD (.slice none 0 0)=secV (p.secs.getLast p1):=by
   rw [List.getLast?_map,List.getLast?_eq_some_getLast p1];rfl
  simp only [a0]
  unfold PEnt.val at hl
  rw [hj] at hl
  generalize p.secs.getLast p1=s at *
  clear hf p1 p2 p3 h a0 hj
  unfold secV at *
  go_enter Tryz.func205,Tryz.ntmps205
  go_wp2
  go_ret
  exact ⟨rfl,rfl⟩
theorem aC8 (h:Aa7 w d D dur m ps clock) (k:Int) (h0:0<=k) (hk:k<D.n) :
  Calls prog 205 #[↑d,I k] w λ e w'=>∃ g off c src,e=U (.slice (some ⟨g,off,none⟩) 512 c)/\w=w' /\
   Blk w g (aaE src)/\off+512<=src.length/\(src.drop off).take 512=D.now k.toNat/\g∈aaQ d dur m ps:=by
 obtain ⟨g,off,c,src,hv,h1,h2,h3,h4⟩:=h.nowB k.toNat (by omega)
 exact (aD8 h k h0 hk).mono λ e w' ⟨he,hw⟩=>⟨g,off,c,src,he.trans (by rw [hv]),hw,h1,h2,h3,h4⟩
end
theorem afL:(prog).underlying 40=some (.slice 5):=Tryz.underlying40
theorem ak7:((prog).info? 5).map (λ i=>(i.zero,i.size,i.bytes))=some (some (.int .u8 0),1,1):=by kernel_rfl
theorem amP:((prog).info? 5).map (·.size)=some 1:=by kernel_rfl
theorem mkB (n:Nat) (hn:n<=281474976710656) (w:World):(Instr.makeSlice 40 (I n) (I n)).run prog w=.ok (.slice ↑w.heap.size n n) (w.alloc (aaE (aaD n))):=by
 obtain ⟨i,h1,h2,h3,h4⟩:=info_parts ak7
 exact auN afL rfl h1 h2 h3 h4 n hn w
theorem al2 (w:World):(Instr.makeSlice 40 (I 512) (I 512)).run prog w=.ok (.slice ↑w.heap.size 512 512) (w.alloc (aaE (aaD 512))):=mkB 512 (by omega) w
section
variable {w:World} {d:Nat} {D:DM} {F:List Nat}
theorem auS (h:AaI w d D F) (hb:D.burnt=true) (k:Int) :
  Calls prog 149 #[↑d,I k] w λ e w'=>e=U (.tuple #[.slice none 0 0,I 3])/\w=w':=by
 replace h:=hid h
 go_enter Tryz.func149,Tryz.ntmps149
 go_wp2_with (go_at_call 210;refine (amZ h.out hb _).mono ?_;rintro e w' ⟨rfl,rfl⟩)
 go_ret2
 exact ⟨rfl,rfl⟩
theorem akA (h:AaI w d D F) (hb:D.burnt=false) (k:Int) (h0:0<=k) (hk:k<D.n) :
  Calls prog 149 #[↑d,I k] w λ e w'=>∃ b,e=U (.tuple #[.slice (some ⟨b,0,none⟩) 512 512,I 0]) /\
   w.heap.size<=b/\Blk w' b (aaE (D.now k.toNat))/\AaI w' d D.readed F/\AaA (· ∈ F) w w':=by
 have a4:=arF h hb k h0 hk
 obtain ⟨dur,m,ps,clock,h1,rfl,h3⟩:=h
 have c5:=h1.c5
 have fz:=h1.fz
 have a6:=al2
 replace ⟨h1,h3,a4⟩:=yh3 h1 h3 a4
 go_enter Tryz.func149,Tryz.ntmps149
 go_wp2_with (go_at_call 210;refine a4.out.mono ?_;rintro e w' ⟨rfl,rfl⟩)
 go_wp2_with fail
 have h1':=(h1.out.set h3.out (D':=D.readed) 5 (I (wrap64 (D.reads+1))) (h1.out.hd.setCell 5 _) rfl rfl (aEK _) h1.out.hleft)
 have a1:=h1'.alloc h1'.lt (aaE (aaD 512))
 have hz:=Blk.new (w.setCell ⟨d,5,none⟩ (I (wrap64 (D.reads+1)))) (aaE (aaD 512))
 have hk2:AaA (· ∈ aaQ d dur m ps) w ((w.setCell ⟨d,5,none⟩ (I (wrap64 (D.reads+1)))).alloc (aaE (aaD 512))):=((AaA.refl _ _).setCell (.inl (by simp [aaQ])) _).alloc _
 rw [aES] at hz
 have hlt:=h1'.lt
 replace hlt:=hid hlt;clear h1'
 refine (aC8 a1 k h0 hk).mono ?_
 rintro e w' ⟨g,off,c,src,rfl,rfl,hg,hlen,a0,a5⟩
 generalize hw2:(w.setCell ⟨d,5,none⟩ (I (wrap64 (D.reads+1)))).alloc (aaE (aaD 512))=w2 at *
 replace ⟨a1,hz,hk2,hg,a0,hw2⟩:=yh6 a1 hz hk2 hg a0 hw2;clear a5
 dsimp only
 go_step
 refine akW rfl (.tmp 24) (.tmp 27) 40 40 rfl 5 afL amP _ _ _ _ _ _ _ _ rfl rfl _ _ hz.out hg.out (by rw [aaF];omega) hlen ?_
 intro w3 a2 a3 hs3
 have e1:lay (aaD 512) 0 ((src.drop off).take (Nat.min 512 512))=D.now k.toNat:=by
  have hn:(src.drop off).take 512=D.now k.toNat:=a0.out
  rw [show Nat.min 512 512=512 from rfl,hn]
  refine al6 ?_
  rw [← hn,aEM,aET,aaF];omega
 rw [e1] at a2
 replace ⟨a2,a3⟩:=yh2 a2 a3;clear e1
 go_wp2
 go_ret2
 refine ⟨w.heap.size,rfl,aEK _,a2.out,?_,?_⟩
 ·refine ⟨dur,m,ps,clock,a1.out.keep λ i hi=>?_,rfl,h3.out⟩
  have:=hlt.out i hi
  rw [aES] at this
  refine a3.out.block i ?_ (by omega)
  rw [← hw2.out,aEI,aES];omega
 ·exact hk2.out.trans a3.out (λ i hi e=>by omega)
end
end Go.Vk
namespace Go.Vk
open Go.RowKit
def layV (cs:List Value) (o:Nat) (vs:List Value):List Value:=cs.take o++(vs++cs.drop (o+vs.length))
theorem arY (cs:List Value) (o:Nat) (vs:List Value) (h:o<=cs.length) (j:Nat):(layV cs o vs)[j]? = if j<o then cs[j]? else if j<o+vs.length then vs[j - o]? else cs[j]?:=by
 unfold layV
 have l1:(cs.take o).length=o:=by simp;omega
 rw [List.getElem?_append,l1]
 split
 ·rename_i h1;simp [h1]
 ·rw [List.getElem?_append]
  split
  ·rw [if_pos (by omega)]
  ·rw [if_neg (by omega),List.getElem?_drop];congr 1;omega
theorem aa4 {cs vs:List Value} (h:vs.length=cs.length):layV cs 0 vs=vs:=by simp [layV,h]
theorem ac1 (b:Nat) (T:TypeId):∀ (vs:List Value) (o:Nat) (w:World) (cs:List Value),Blk w b (.cells cs.toArray T (0,0))->o+vs.length<=cs.length ->
  Blk (w.setCells b o vs) b (.cells (layV cs o vs).toArray T (0,0))/\AaA (· = b) w (w.setCells b o vs)/\(w.setCells b o vs).heap.size=w.heap.size
 | [],o,w,cs,h,hl=>by
  refine ⟨?_,AaA.refl _ _,rfl⟩
  simp only [World.setCells,layV,List.length_nil,Nat.add_zero,List.nil_append,List.take_append_drop]
  exact h
 | v :: r,o,w,cs,h,hl=>by
  have hlt:o<cs.length:=by simp at hl;omega
  have h1:=h.setCell o v
  have k1:AaA (· = b) w (w.setCell ⟨b,o,none⟩ v):=(AaA.refl (· = b) w).setCell (.inl rfl) v
  have e1:cs.toArray.setIfInBounds o v=(cs.set o v).toArray:=by simp
  rw [e1] at h1
  obtain ⟨g1,g2,g3⟩:=ac1 b T r (o+1) _ (cs.set o v) h1 (by simp at hl ⊢;omega)
  have e2:layV (cs.set o v) (o+1) r=layV cs o (v :: r):=by
   apply List.ext_getElem?
   intro j
   have hs:(cs.set o v)[j]? = if o=j then some v else cs[j]?:=by rw [List.getElem?_set];simp [hlt]
   rw [arY _ _ _ (by simp;omega),arY _ _ _ (by omega),hs]
   simp only [List.length_cons]
   by_cases c1:j<o
   ·rw [if_pos (by omega),if_pos c1,if_neg (by omega)]
   ·rw [if_neg c1]
    by_cases c2:j=o
    ·subst c2
     rw [if_pos (by omega),if_pos rfl,if_pos (by omega),Nat.sub_self];rfl
    ·rw [if_neg (by omega:¬ j<o+1)]
     by_cases c3:j<o+(r.length+1)
     ·rw [if_pos (by omega),if_pos c3,show j - o=(j - (o+1))+1 by omega,List.getElem?_cons_succ]
     ·rw [if_neg (by omega),if_neg c3,if_neg (by omega)]
  refine ⟨?_,k1.step g2,?_⟩
  ·rw [← e2];exact g1
  ·rw [World.setCells,g3,aES]
section
variable {P:Program} {w:World} {ops:Array Oper} {rest:List Oper} {op:Oper} {a:Act} {Q:Exit->Act->World->Prop}
theorem aaR (a0:op.guard=none) (v:Value) (w':World) (hr:(execOp a.eval op).run P w=.ok (.value v) w') (h:wpList P ops Q rest (a.put op.dst v) w'):wpList P ops Q (op :: rest) a w:=by
 refine wpList_plain a0 λ K hK=>?_
 unfold Oper.wp
 rw [hr]
 exact hK _ _ h
theorem abT (a0:op.guard=none) (t:TypeId) (parts:Array (Nat × Operand)) (ho:op.op=.build t parts) (v:Value) (w':World)
  (hr:(Instr.build t (parts.map λ (i,x)=>(i,a.eval x))).run P w=.ok v w') (h:wpList P ops Q rest (a.put op.dst v) w'):wpList P ops Q (op :: rest) a w:=by
 refine wpList_plain a0 λ K hK=>?_
 unfold Oper.wp
 simp only [execOp,ho,Sem.run_bind,hr,Result.andThen_ok,Sem.run_pure]
 exact hK _ _ h
theorem aa0 (a0:op.guard=none) (t:TypeId) (ho:op.op=.alloc t) (v:Value) (w':World)
  (hr:(Instr.alloc t true (.tuple #[])).run P w=.ok v w') (h:wpList P ops Q rest (a.put op.dst v) w'):wpList P ops Q (op :: rest) a w:=by
 refine wpList_plain a0 λ K hK=>?_
 unfold Oper.wp
 simp only [execOp,ho,Sem.run_bind,hr,Result.andThen_ok,Sem.run_pure]
 exact hK _ _ h
theorem aaL (a0:op.guard=none) (ty:TypeId) (x y:Operand) (ho:op.op=.store ty x y)
  (b o:Nat) (T:TypeId) (cs vs:List Value) (hx:a.eval x=.pointer (some ⟨b,o,none⟩)) (hy:a.eval y=.agg vs.toArray)
  (hb:Blk w b (.cells cs.toArray T (0,0))) (hl:o+vs.length<=cs.length) (hi:(P.info? ty).map (·.size)=some vs.length) (h1:∀ v∈vs,v.oneCell'=true)
  (h:∀ w',Blk w' b (.cells (layV cs o vs).toArray T (0,0))->AaA (· = b) w w'->w'.heap.size=w.heap.size->wpList P ops Q rest (a.put op.dst undef) w') :
  wpList P ops Q (op :: rest) a w:=by
 have e:=ac1 b T vs o w cs hb hl
 refine wpList_store_mid a0 ty x y ho b o vs.toArray hx hy ?_ (by simpa using hi) (all_oneCell_toArray h1) ?_
 ·intro j hj
  refine ⟨?_,hb.frz _⟩
  rw [hb.cell]
  have:o+j<cs.length:=by simp at hj;omega
  simp [this]
 ·exact h _ e.1 e.2.1 e.2.2
theorem af4 {b:Nat} {T:TypeId} {cs:List Value} (hb:Blk w b (.cells cs.toArray T (0,0))) (o n:Nat):w.rangeAt b o ((cs.drop o).take n):=by
 intro j v hv
 rw [hb.cell]
 rw [List.getElem?_take] at hv
 split at hv
 ·rw [List.getElem?_drop] at hv;simpa using hv
 ·cases hv
theorem aaN (a0:op.guard=none) (ty:TypeId) (x:Operand) (ho:op.op=.load ty x)
  (b o:Nat) (T:TypeId) (cs:List Value) (n:Nat) (d:TypeDesc) (hx:a.eval x=.pointer (some ⟨b,o,none⟩))
  (hb:Blk w b (.cells cs.toArray T (0,0))) (hl:o+n<=cs.length) (hu:P.underlying ty=some d) (hd:d.isRow=true) (hi:(P.info? ty).map (·.size)=some n)
  (h:wpList P ops Q rest (a.put op.dst (.agg ((cs.drop o).take n).toArray)) w) :
  wpList P ops Q (op :: rest) a w:=
 wpList_load_mid a0 ty x ho b o hx ((cs.drop o).take n) d (af4 hb o n) hu hd (by rw [hi];simp;omega) h
end
theorem afO {P:Program} {fn:Func} {p:Tmp} {ty:TypeId} (h:fn.results=#[.cell p ty]) (tmps:Array Value) (w:World) (g:Nat) (T:TypeId) (cs:List Value) (d:TypeDesc)
  (hp:tmps.getD p undef=↑g) (hg:Blk w g (.cells cs.toArray T (0,0)))
  (hu:P.underlying ty=some d) (hd:d.isRow=true) (hi:(P.info? ty).map (·.size)=some cs.length) :
  (results fn tmps).run P w=.ok (.agg cs.toArray) w:=
 results_cell_row h tmps w g T cs.toArray (0,0) d hp hg hu (by cases d<;>simp_all [TypeDesc.isRow]) (by simpa using hi)
section
variable {P:Program} {w:World}
theorem aqI (t ty e:TypeId) (i:TypeInfo) (z:Value) (size bytes:Nat) (ht:P.underlying t=some (.slice e)) (hi:P.info? e=some i) (hz:i.zero=some z)
  (a4:i.size=size) (ab:i.bytes=bytes) (ac:z.cells.size=size) (hsz:0<size)
  (v:Value) (n:Nat) (xs:List Value) (hown:w.ownsRow 0 e size v n xs)
  (a:Addr) (m c:Nat) (news:List Value) (hl:news.length=m*size) (a0:∀ j u,news[j]? = some u->w.cell? (a.add j)=some u) (h1:∀ u∈news,u.oneCell'=true)
  (hm:0<m) (aa:n+m<=maxLen) (a1:(n+m)*bytes<=140737488355328) :
  ∃ g' cap' w',(Builtin.append_ #[t,t] ty #[v,.slice (some a) m c]).run P w=.ok (.slice (some ⟨g',0,none⟩) (n+m) cap') w' /\
   w'.ownsRow 0 e size (.slice (some ⟨g',0,none⟩) (n+m) cap') (n+m) (xs++news)/\w.grownBy w' v.ownBlock/\(v.ownBlock=some g'/\w'.heap.size=w.heap.size∨g'=w.heap.size):=by
 subst a4
 subst ab
 have a7:n+m<=9223372036854775807:=by simp only [maxLen] at aa;omega
 have hlen:(xs++news).length=(n+m)*i.size:=by rw [aEH,hown.1,hl,Nat.add_mul]
 have grown:∀ (old:Nat),old<n+m->∀ (row:Option Nat),
   (w.drew.alloc (.cells (xs.toArray++news.toArray++Builtin.zeroCells z.cells (grownCap w (n+m) old e - (n+m))) e)).ownsRow 0 e i.size
    (.slice ↑w.heap.size (n+m) (grownCap w (n+m) old e)) (n+m) (xs++news) /\
   w.grownBy (w.drew.alloc (.cells (xs.toArray++news.toArray++Builtin.zeroCells z.cells (grownCap w (n+m) old e - (n+m))) e)) row:=by
  intro old _ row
  have ad:=grownCap_ge w (n+m) old e
  have a8:grownCap w (n+m) old e<=maxLen:=grownCap_le_maxLen w (n+m) old e aa
  have hh:=(Blk.new w.drew (.cells (xs.toArray++news.toArray++Builtin.zeroCells z.cells (grownCap w (n+m) old e - (n+m))) e))
  refine ⟨⟨hlen,.inr ⟨w.heap.size,_,_,rfl,aEY _,hh,ad,a8,?_,?_⟩⟩,⟨rfl,rfl,rfl,by simp,λ k hk _=>Below.heap_alloc w.drew _ k hk⟩⟩
  ·simp only [Array.size_append,List.size_toArray,size_zeroCells,ac,hown.1,hl,← Nat.add_mul]
   congr 1
   omega
  ·simp only [Array.toList_append,aEQ]
   rw [← aEQ,← hlen]
   exact List.take_left
 rcases hown.2 with ⟨rfl,rfl⟩|⟨g,cap,cur,rfl,ae,hg,ag,a8,af,a5⟩
 ·have hx:xs=[]:=List.eq_nil_of_length_eq_zero (by simpa using hown.1)
  subst hx
  have hr:=run_append_nil (P:=P) w t ty e i z ht hi hz a m c news hl a0 (by omega) (by omega) (by have hb:=a1;simp only [Nat.zero_add] at hb;omega)
  have a3:=grown 0 (by omega) (Value.ownBlock (.slice none 0 0))
  simp only [Nat.zero_add,List.nil_append,Array.empty_append] at a3 ⊢
  exact ⟨_,_,_,hr,a3.1,a3.2,.inr rfl⟩
 ·by_cases a2:n+m<=cap
  ·have a9:n*i.size+news.length<=cur.size:=by rw [hl,af,← Nat.add_mul];exact Nat.mul_le_mul_right _ a2
   have hr:=run_append_room (P:=P) w t ty e i ht hi g n cap cur hg a m c news hl a0 h1 a2 a9
   refine ⟨_,_,_,hr,⟨hlen,.inr ⟨g,cap,_,rfl,ae,setRow_heap w g cur _ e _ hg,a2,a8,?_,?_⟩⟩,⟨rfl,rfl,rfl,by simp [World.setRow],λ k _ hk=>setRow_other w g k _ (λ e=>hk (by simp [Value.ownBlock,e]))⟩,.inl ⟨rfl,by simp [World.setRow]⟩⟩
   ·simp only [List.size_toArray,aEH,aEM,aET,Array.length_toList]
    omega
   ·rw [a5,← hlen]
    exact List.take_left
  ·have a6:∀ j u,xs[j]? = some u->w.cell? ((⟨g,0,none⟩:Addr).add j)=some u:=hown.cells (g:=g) rfl
   have hr:=run_append_grow (P:=P) w t ty e i z ht hi hz ⟨g,0,none⟩ n cap xs hown.1 a6 a m c news hl a0 (by omega) (by omega) (growslice_fits (by omega) a1)
   have a3:=grown cap (by omega) (Value.ownBlock (.slice ↑g n cap))
   exact ⟨_,_,_,hr,a3.1,a3.2,.inr rfl⟩
variable {ops:Array Oper} {rest:List Oper} {o:Oper} {a:Act} {K:Act->World->Prop} {Q:Exit->Act->World->Prop}
theorem aj2 (s x:Operand) (t:TypeId)
  (ho:o.op=.call { callee:=.builtin .append,args:=#[s,x],argTypes:=#[t,t] })
  (e:TypeId) (i:TypeInfo) (z:Value) (size bytes:Nat) (ht:P.underlying t=some (.slice e)) (hi:P.info? e=some i) (hz:i.zero=some z)
  (a1:i.size=size) (a3:i.bytes=bytes) (a4:z.cells.size=size) (hsz:0<size)
  (v:Value) (n:Nat) (xs:List Value) (hs:a.eval s=v) (hown:w.ownsRow 0 e size v n xs)
  (ad:Addr) (m c:Nat) (news:List Value) (hx:a.eval x=.slice (some ad) m c) (hl:news.length=m*size) (a2:∀ j u,news[j]? = some u->w.cell? (ad.add j)=some u) (h1:∀ u∈news,u.oneCell'=true)
  (hm:0<m) (a5:n+m<=maxLen) (a0:(n+m)*bytes<=140737488355328)
  (h:∀ g' cap' w',w'.ownsRow 0 e size (.slice (some ⟨g',0,none⟩) (n+m) cap') (n+m) (xs++news)->w.grownBy w' v.ownBlock->(v.ownBlock=some g'/\w'.heap.size=w.heap.size∨g'=w.heap.size)->K (a.put o.dst (.slice (some ⟨g',0,none⟩) (n+m) cap')) w'):o.wp P a w K Q:=by
 obtain ⟨g',cap',w',hr,h2,h3,h4⟩:=aqI (P:=P) t o.type e i z size bytes ht hi hz a1 a3 a4 hsz v n xs hown ad m c news hl a2 h1 hm a5 a0
 unfold Oper.wp execOp
 simp only [ho,resolve,invoke,builtin,Sem.run_bind,Sem.run_pure,Result.andThen_ok,List.map_toArray,List.map_cons,List.map_nil,hs,hx,hr]
 exact h g' cap' w' h2 h3 h4
theorem ae1 (a3:o.guard=none) (s x:Operand) (t:TypeId)
  (ho:o.op=.call { callee:=.builtin .append,args:=#[s,x],argTypes:=#[t,t] })
  (e:TypeId) (i:TypeInfo) (z:Value) (size bytes:Nat) (ht:P.underlying t=some (.slice e)) (hi:P.info? e=some i) (hz:i.zero=some z)
  (a1:i.size=size) (a4:i.bytes=bytes) (a5:z.cells.size=size) (hsz:0<size)
  (v:Value) (n:Nat) (xs:List Value) (hs:a.eval s=v) (hown:w.ownsRow 0 e size v n xs)
  (ad:Addr) (m c:Nat) (news:List Value) (hx:a.eval x=.slice (some ad) m c) (hl:news.length=m*size) (a2:∀ j u,news[j]? = some u->w.cell? (ad.add j)=some u) (h1:∀ u∈news,u.oneCell'=true)
  (hm:0<m) (a6:n+m<=maxLen) (a0:(n+m)*bytes<=140737488355328)
  (h:∀ g' cap' w',w'.ownsRow 0 e size (.slice (some ⟨g',0,none⟩) (n+m) cap') (n+m) (xs++news)->w.grownBy w' v.ownBlock->(v.ownBlock=some g'/\w'.heap.size=w.heap.size∨g'=w.heap.size)->wpList P ops Q rest (a.put o.dst (.slice (some ⟨g',0,none⟩) (n+m) cap')) w') :
  wpList P ops Q (o :: rest) a w:=
 wpList_plain a3 λ _ hK=>aj2 s x t ho e i z size bytes ht hi hz a1 a4 a5 hsz v n xs hs hown ad m c news hx hl a2 h1 hm a6 a0 λ g' c' w' h2 h3 h4=>hK _ _ (h g' c' w' h2 h3 h4)
end
theorem AaA.fresh {F G:Nat->Prop} {w a b:World} (h:AaA G w a) (k:AaA F a b) (hF:∀ i,F i->w.heap.size<=i):AaA G w b:=
 ⟨k.os.trans h.os,k.tape.trans h.tape,k.output.trans h.output,aE4 h.size k.size,λ i hi hg=>by
  rw [k.block i (aEJ hi h.size) (λ f=>by have:=hF i f;omega)];exact h.block i hi hg⟩
def aa2 (T:TypeId) (bs:List UInt8):Obj:=.cells (bs.map B).toArray T (0,0)
theorem adQ {w:World} {b:Nat} {T:TypeId} {bs:List UInt8} (h:Blk w b (aa2 T bs)) (i:Nat) (hi:i<bs.length):w.cell? ⟨b,i,none⟩=some (B bs[i]):=by
 have:=h.cell i
 simpa [aEG hi] using this
theorem akP (T:TypeId) (bs:List UInt8) (i:Nat) (x:UInt8):Obj.cells ((bs.map B).toArray.setIfInBounds i (B x)) T (0,0)=aa2 T (bs.set i x):=by
 simp [aa2,List.map_set]
theorem af8 {w:World} {b:Nat} {T:TypeId} {bs:List UInt8} (h:Blk w b (aa2 T bs)) (off n:Nat):∀ j v,(((bs.drop off).take n).map B)[j]? = some v->w.cell? ((⟨b,off,none⟩:Addr).add j)=some v:=by
 intro j v hj
 have hk:((bs.drop off).take n).map B=(((bs.map B).drop off).take n):=by simp [List.map_take,List.map_drop]
 rw [hk,List.getElem?_take] at hj
 split at hj
 ·rw [Addr.add_lit,h.cell]
  rw [List.getElem?_drop] at hj
  simpa using hj
 ·cases hj
section
variable {P:Program} {w:World} {ops:Array Oper} {rest:List Oper} {o:Oper} {a:Act} {K:Act->World->Prop} {Q:Exit->Act->World->Prop}
theorem ae4 (a1:o.guard=none) (d s:Operand) (dT sT:TypeId)
  (ho:o.op=.call { callee:=.builtin .copy,args:=#[d,s],argTypes:=#[dT,sT] }) (elem:TypeId) (hu:P.underlying dT=some (.slice elem)) (hsz:(P.info? elem).map (·.size)=some 1)
  (T T2:TypeId) (g off dLen dCap g2 off2 sLen sCap:Nat) (hd:a.eval d=.slice (some ⟨g,off,none⟩) dLen dCap) (hs:a.eval s=.slice (some ⟨g2,off2,none⟩) sLen sCap)
  (cur src:List UInt8) (hg:Blk w g (aa2 T cur)) (a2:Blk w g2 (aa2 T2 src)) (a3:off+dLen<=cur.length) (a0:off2+sLen<=src.length)
  (h:∀ w',Blk w' g (aa2 T (lay cur off ((src.drop off2).take (Nat.min sLen dLen))))->AaA (· = g) w w'->w'.heap.size=w.heap.size->wpList P ops Q rest (a.put o.dst (goInt (Nat.min sLen dLen:Nat))) w') :
  wpList P ops Q (o :: rest) a w:=by
 have hn:((src.drop off2).take (Nat.min sLen dLen)).length=Nat.min sLen dLen:=by
  simp only [aEM,aET]
  have:Nat.min sLen dLen<=sLen:=Nat.min_le_left _ _
  omega
 have hm:Nat.min sLen dLen<=dLen:=Nat.min_le_right _ _
 refine wpList_copy_own a1 d s dT sT ho elem hu hsz g off dLen dCap ⟨g2,off2,none⟩ sLen sCap hd hs (cur.map B).toArray _ hg (((src.drop off2).take (Nat.min sLen dLen)).map B) (by rw [abL,hn]) (af8 a2 off2 _) ?_ (Ap3 _) ?_
 ·simp only [abL,hn,List.size_toArray];omega
 ·have e1:(((src.drop off2).take (Nat.min sLen dLen)).map B).length=Nat.min sLen dLen:=by rw [abL,hn]
  rw [e1]
  refine h _ ?_ ?_ ?_
  ·have:=setRow_heap w g (cur.map B).toArray ((cur.map B).toArray.toList.take off++((((src.drop off2).take (Nat.min sLen dLen)).map B)++(cur.map B).toArray.toList.drop (off+Nat.min sLen dLen))).toArray _ (0,0) hg
   unfold Blk
   rw [this]
   simp [aa2,lay,List.map_take,List.map_drop,hn]
  ·exact ⟨rfl,rfl,rfl,by simp [World.setRow],λ k _ a4=>setRow_other w g k _ a4⟩
  ·simp [World.setRow]
theorem aqK (t ty e:TypeId) (i:TypeInfo) (ht:P.underlying t=some (.slice e)) (he:e=5) (hi:P.info? e=some i) (hz:i.zero=some (.int .u8 0)) (a0:i.size=1) (a2:i.bytes=1)
  (T T2:TypeId) (g off n c g2 off2 m c2:Nat) (xs ys:List UInt8) (hg:Blk w g (aa2 T xs)) (a3:Blk w g2 (aa2 T2 ys)) (a4:off+n<=xs.length) (a1:off2+m<=ys.length) (hc:c<n+m) (hl:n+m<=1048576) (_:c<=1048576) :
  ∃ cap k w',(Builtin.append_ #[t,t] ty #[.slice (some ⟨g,off,none⟩) n c,.slice (some ⟨g2,off2,none⟩) m c2]).run P w=.ok (.slice ↑w.heap.size (n+m) cap) w' /\
   n+m<=cap/\cap=n+m+k/\Blk w' w.heap.size (aaE ((xs.drop off).take n++(ys.drop off2).take m++aaD k))/\AaA NoF w w'/\w'.heap.size=w.heap.size+1:=by
 have l1:((xs.drop off).take n).length=n:=by simp;omega
 have l2:((ys.drop off2).take m).length=m:=by simp;omega
 have hr:=run_append_grow (P:=P) w t ty e i (.int .u8 0) ht hi hz ⟨g,off,none⟩ n c (((xs.drop off).take n).map B) (by rw [abL,l1,a0];omega) (af8 hg off n) ⟨g2,off2,none⟩ m c2 (((ys.drop off2).take m).map B) (by rw [abL,l2,a0];omega) (af8 a3 off2 m) hc (by omega)
  (growslice_fits (by omega) (by rw [a2];omega))
 have a5:=grownCap_ge w (n+m) c e
 refine ⟨_,grownCap w (n+m) c e - (n+m),_,hr,a5,by omega,?_,⟨rfl,rfl,rfl,by simp,λ q hq _=>Below.heap_alloc w.drew _ q hq⟩,by simp⟩
 have hb:=Blk.new w.drew (.cells ((((xs.drop off).take n).map B).toArray++(((ys.drop off2).take m).map B).toArray++Builtin.zeroCells (Value.int .u8 0).cells (grownCap w (n+m) c e - (n+m))) e (0,0))
 subst he
 have e1:Builtin.zeroCells (Value.int .u8 0).cells (grownCap w (n+m) c 5 - (n+m))=((aaD (grownCap w (n+m) c 5 - (n+m))).map B).toArray:=by
  apply Array.ext'
  apply List.ext_getElem
  ·simp [Builtin.zeroCells,aaD,Value.cells]
  ·intro j h1 h2
   have e0:j % 1=0:=Nat.mod_one j
   simp [Builtin.zeroCells,aaD,Value.cells,B,e0]
 rw [e1] at hb
 have e2:aaE ((xs.drop off).take n++(ys.drop off2).take m++aaD (grownCap w (n+m) c 5 - (n+m)))=.cells ((((xs.drop off).take n).map B).toArray++(((ys.drop off2).take m).map B).toArray++((aaD (grownCap w (n+m) c 5 - (n+m))).map B).toArray) 5 (0,0):=by
  simp [aaE]
 rw [e2,e1]
 exact hb
theorem amW (s x:Operand) (t:TypeId) (ho:o.op=.call { callee:=.builtin .append,args:=#[s,x],argTypes:=#[t,t] })
  (e:TypeId) (i:TypeInfo) (ht:P.underlying t=some (.slice e)) (he:e=5) (hi:P.info? e=some i) (hz:i.zero=some (.int .u8 0)) (a0:i.size=1) (a3:i.bytes=1)
  (T T2:TypeId) (g off n c g2 off2 m c2:Nat) (hs:a.eval s=.slice (some ⟨g,off,none⟩) n c) (hx:a.eval x=.slice (some ⟨g2,off2,none⟩) m c2)
  (xs ys:List UInt8) (hg:Blk w g (aa2 T xs)) (a4:Blk w g2 (aa2 T2 ys)) (a2:off+n<=xs.length) (a1:off2+m<=ys.length) (hc:c<n+m) (hl:n+m<=1048576) (a5:c<=1048576)
  (h:∀ cap k w',cap=n+m+k->Blk w' w.heap.size (aaE ((xs.drop off).take n++(ys.drop off2).take m++aaD k))->AaA NoF w w'->w'.heap.size=w.heap.size+1 ->
   K (a.put o.dst (.slice ↑w.heap.size (n+m) cap)) w'):o.wp P a w K Q:=by
 obtain ⟨cap,k,w',hr,h2,h3,h4,h5,h6⟩:=aqK (P:=P) t o.type e i ht he hi hz a0 a3 T T2 g off n c g2 off2 m c2 xs ys hg a4 a2 a1 hc hl a5
 unfold Oper.wp execOp
 simp only [ho,resolve,invoke,builtin,Sem.run_bind,Sem.run_pure,Result.andThen_ok,List.map_toArray,List.map_cons,List.map_nil,hs,hx,hr]
 exact h cap k w' h3 h4 h5 h6
end
end Go.Vk
