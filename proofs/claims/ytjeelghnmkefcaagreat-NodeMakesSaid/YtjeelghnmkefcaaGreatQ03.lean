/- Part of the proof: Dk2 Dw4 Dk3. -/
import Derived.Test.YtjeelghnmkefcaaGreatQ01
import Derived.Test.YtjeelghnmkefcaaGreatQ02
import Derived.Deep.RegionHeld3
import Derived.Deep.CutRange
set_option linter.unusedVariables false
set_option maxHeartbeats 16000000
set_option maxRecDepth 100000
namespace Go.Vk
open Go.RowKit
def pv (ps:List PEnt) (k:Nat):Value:=match ps.find? (·.key == k) with|some p=>p.val|none=>.slice none 0 0
def pxs (ps:List PEnt) (k:Nat):List Value:=match ps.find? (·.key == k) with|some p=>p.secs.map secV|none=>[]
def updP (ps:List PEnt) (clock k arr cap:Nat) (s:Nat × List UInt8):List PEnt:=
 match ps.find? (·.key == k) with
 | some _=>ps.map λ p=>if p.key == k then { p with arr:=arr,cap:=cap,secs:=p.secs++[s] } else p
 | none=>ps++[⟨k,clock,arr,cap,[s]⟩]
def updC (ps:List PEnt) (clock k:Nat):Nat:=match ps.find? (·.key == k) with|some _=>clock|none=>clock+1
theorem acX {α β:Type} {f:α->β}:∀ {l:List α},(l.map f).Nodup->∀ {x y:α},x∈l->y∈l->f x=f y->x=y
 | [],_,_,_,h,_,_=>by cases h
 | a :: l,hn,x,y,hx,hy,e=>by
  simp only [List.map_cons,List.nodup_cons,List.mem_map] at hn
  rcases List.mem_cons.1 hx with rfl|a0<;>rcases List.mem_cons.1 hy with rfl|a1
  ·rfl
  ·exact absurd ⟨y,a1,e.symm⟩ hn.1
  ·exact absurd ⟨x,a0,e⟩ hn.1
  ·exact acX hn.2 a0 a1 e
theorem al4 (ps:List PEnt) (k:Nat):look (ps.map PEnt.ent) k=(ps.find? (·.key == k)).map (·.val):=by
 simp [look,List.find?_map,Function.comp_def,PEnt.ent]
section
variable {P:Program} {w W:World} {d:Nat} {D:DM} {dur m:Nat} {ps:List PEnt} {clock:Nat} {T K E:TypeId}
theorem azI (hT:P.underlying T=some (.map K E)) (hK:P.underlying K=some (.int .i64)) (hz:∀ w,(zeroValue E).run P w=.ok (.slice none 0 0) w) (k:Nat)
  (hb:Blk W m (mapO (ps.map PEnt.ent) clock)):(Instr.lookup T (.map (some m)) (I k) false).run P W=.ok (pv ps k) W:=by
 have:=aj7 hT hK hb (hz W) (k:=k)
 rw [this,al4]
 unfold pv
 cases ps.find? (·.key == k)<;>rfl
theorem Aa7.pv_own (h:Aa7 w d D dur m ps clock) (k:Nat):w.ownsRow 0 40 1 (pv ps k) (pxs ps k).length (pxs ps k):=by
 unfold pv pxs
 cases hf:ps.find? (·.key == k) with
 | none=>exact World.ownsRow_nil w 0 _ 1
 | some p=>
  have:=(h.hp p (aEN hf)).2.1
  simpa using this
theorem Aa7.pxs_le (h:Aa7 w d D dur m ps clock) (k:Nat):(pxs ps k).length<=D.writes:=by
 unfold pxs
 cases hf:ps.find? (·.key == k) with
 | none=>simp
 | some p=>simpa using h.hpw p (aEN hf)
theorem aAS (hT:P.underlying T=some (.map K E)) (hK:P.underlying K=some (.int .i64)) (hk:(ps.map (·.key)).Nodup) (k arr cap:Nat) (s:Nat × List UInt8)
  (hb:Blk W m (mapO (ps.map PEnt.ent) clock)) :
  (Instr.mapUpdate T (.map (some m)) (I k) (.slice ↑arr ((pxs ps k).length+1) cap)).run P W =
   .ok () (W.setBlk m (mapO ((updP ps clock k arr cap s).map PEnt.ent) (updC ps clock k))):=by
 have hk':((ps.map PEnt.ent).map (·.1)).Nodup:=by simpa [Function.comp_def,PEnt.ent] using hk
 cases hf:ps.find? (·.key == k) with
 | none=>
  have hl:look (ps.map PEnt.ent) k=none:=by rw [al4,hf];rfl
  rw [aiK hT hK hb hl]
  simp [updP,updC,pxs,hf,PEnt.ent,PEnt.val]
 | some p=>
  have hl:look (ps.map PEnt.ent) k=some p.val:=by rw [al4,hf];rfl
  have a1:p.key=k:=by simpa using List.find?_some hf
  rw [aiJ hT hK hb hk' hl]
  have e:aqE (ps.map PEnt.ent) k (.slice ↑arr ((pxs ps k).length+1) cap)=(updP ps clock k arr cap s).map PEnt.ent:=by
   simp only [aqE,updP,hf,List.map_map]
   refine List.map_congr_left λ q hq=>?_
   by_cases a0:q.key=k
   ·have a2:q=p:=acX hk hq (aEN hf) (a0.trans a1.symm)
    subst a2
    simp [PEnt.ent,a0,PEnt.val,pxs,hf]
   ·simp [PEnt.ent,a0]
  rw [e]
  simp [updC,hf]
end
theorem avH {l:List PEnt} {k:Nat} (h:∀ q∈l,q.key≠k) (f:PEnt->PEnt):(l.map λ q=>if q.key == k then f q else q)=l:=by
 have:(l.map λ q=>if q.key == k then f q else q)=l.map id:=List.map_congr_left λ q hq=>by simp [h q hq]
 simpa using this
theorem Aa7.wrote {w W:World} {d:Nat} {D:DM} {dur m:Nat} {ps:List PEnt} {clock:Nat} (h:Aa7 w d D dur m ps clock) (hF:(aaQ d dur m ps).Nodup) (k:Nat) (hk:k<D.n)
  (arr cap own:Nat) (bs:List UInt8) (aq:bs.length=512)
  (hd:Blk W d (agV dur D.dur.length m (D.wrote k bs)))
  (hm:Blk W m (mapO ((updP ps clock k arr cap (own,bs)).map PEnt.ent) (updC ps clock k)))
  (a6:W.ownsRow 0 40 1 (.slice ↑arr ((pxs ps k).length+1) cap) ((pxs ps k).length+1) (pxs ps k++[secV (own,bs)]))
  (hown:Blk W own (aaE bs)) (ab:w.heap.size<=own) (a4:(pv ps k).ownBlock=some arr∨w.heap.size<=arr) (ar:own≠arr)
  (ah:∀ i,i<w.heap.size->i≠d->i≠m->some i≠(pv ps k).ownBlock->W.heap[i]? = w.heap[i]?) :
  ∃ F',AaI W d (D.wrote k bs) F'/\∀ i∈F',i∈aaQ d dur m ps∨w.heap.size<=i:=by
 have hn':(D.wrote k bs).n=D.n:=rfl
 have hlt:=h.lt
 have au:d∉dur :: m :: ps.flatMap PEnt.foot:=(List.nodup_cons.1 hF).1
 have av:=(List.nodup_cons.1 hF).2
 have aw:dur∉m :: ps.flatMap PEnt.foot:=(List.nodup_cons.1 av).1
 have ax:=(List.nodup_cons.1 av).2
 have aB:m∉ps.flatMap PEnt.foot:=(List.nodup_cons.1 ax).1
 have aC:=(List.nodup_cons.1 ax).2
 have ac:∀ p∈ps,∀ i∈p.foot,i∈aaQ d dur m ps:=λ p hp i hi=>by
  simp only [aaQ,List.mem_cons,List.mem_flatMap];exact .inr (.inr (.inr ⟨p,hp,hi⟩))
 have hmem':∀ p∈ps,∀ i∈p.foot,i≠d/\i≠m/\i<w.heap.size:=λ p hp i hi=>by
  have h1:i∈ps.flatMap PEnt.foot:=List.mem_flatMap.2 ⟨p,hp,hi⟩
  refine ⟨λ e=>au (by rw [← e];simp only [List.mem_cons];exact .inr (.inr h1)),λ e=>aB (e ▸ h1),hlt i (ac p hp i hi)⟩
 have hdur:Blk W dur (aaE D.dur):=by
  have e:=ah dur (hlt dur (by simp [aaQ])) (λ e=>au (by simp [e])) (λ e=>aw (by simp [e])) (λ e=>by
   unfold pv at e
   cases hf:ps.find? (·.key == k) with
   | none=>rw [hf] at e;cases e
   | some p=>
    rw [hf] at e
    have e:dur=p.arr:=aEP e
    exact aw (List.mem_cons_of_mem _ (List.mem_flatMap.2 ⟨p,aEN hf,by rw [e];simp [PEnt.foot]⟩)))
  unfold Blk;rw [e];exact h.hdur
 cases hf:ps.find? (·.key == k) with
 | none=>
  have a8:(pv ps k).ownBlock=none:=by simp [pv,hf,Value.ownBlock]
  have aj:pxs ps k=[]:=by simp [pxs,hf]
  have ak:updP ps clock k arr cap (own,bs)=ps++[⟨k,clock,arr,cap,[(own,bs)]⟩]:=by simp [updP,hf]
  have al:updC ps clock k=clock+1:=by simp [updC,hf]
  have a4:w.heap.size<=arr:=by rcases a4 with e|e;rw [a8] at e;cases e;exact e
  have am:∀ p∈ps,p.key≠k:=λ p hp e=>by
   have:=List.find?_eq_none.1 hf p hp
   simp [e] at this
  rw [ak,al] at hm
  rw [aj] at a6
  refine ⟨aaQ d dur m (ps++[⟨k,clock,arr,cap,[(own,bs)]⟩]),⟨dur,m,_,clock+1,⟨hd,hdur,hm,?_,?_,?_,?_,?_,h.hlen,h.hmax,h.hpos,?_,?_,h.hleft⟩,rfl,?_⟩,?_⟩
  ·intro p hp
   rcases List.mem_append.1 hp with hp|hp
   ·refine (h.hp p hp).keep λ i hi=>?_
    obtain ⟨a1,a2,a3⟩:=hmem' p hp i hi
    exact ah i a3 a1 a2 (by rw [a8];simp)
   ·rw [List.mem_singleton] at hp
    subst hp
    exact ⟨by simp,by simpa [PEnt.val] using a6,λ s hs=>by rw [List.mem_singleton] at hs;subst hs;exact ⟨aq,hown⟩⟩
  ·rw [List.map_append,List.nodup_append]
   exact ⟨h.hk,by simp,λ a ha b hb=>by
    obtain ⟨p,hp,rfl⟩:=List.mem_map.1 ha
    simp at hb;subst hb;exact am p hp⟩
  ·rw [List.map_append,List.nodup_append]
   exact ⟨h.hb,by simp,λ a ha b hb=>by
    obtain ⟨p,hp,rfl⟩:=List.mem_map.1 ha
    simp at hb;subst hb;have:=h.hc p hp;omega⟩
  ·intro p hp
   rcases List.mem_append.1 hp with hp|hp
   ·have:=h.hc p hp;omega
   ·rw [List.mem_singleton] at hp;subst hp;exact Nat.lt_succ_self _
  ·intro p hp
   rw [hn']
   rcases List.mem_append.1 hp with hp|hp
   ·exact h.hn p hp
   ·rw [List.mem_singleton] at hp;subst hp;exact hk
  ·funext j
   show (if j=k then D.pend k++[bs] else D.pend j)=_
   rw [h.hpend]
   simp only [alU,List.find?_append]
   by_cases hj:j=k
   ·subst hj;simp [hf]
   ·have:¬ k=j:=λ e=>hj e.symm
    simp [hj,this]
  ·intro p hp
   show p.secs.length<=D.writes+1
   rcases List.mem_append.1 hp with hp|hp
   ·have:=h.hpw p hp;omega
   ·rw [List.mem_singleton] at hp;subst hp;simp
  ·have ay:∀ i,w.heap.size<=i->i∉aaQ d dur m ps:=λ i hi hm=>by have:=hlt i hm;omega
   have e:aaQ d dur m (ps++[⟨k,clock,arr,cap,[(own,bs)]⟩])=aaQ d dur m ps++[arr,own]:=by simp [aaQ,PEnt.foot]
   rw [e,List.nodup_append]
   refine ⟨hF,by simp;exact λ e=>ar e.symm,λ a ha b hb e=>?_⟩
   subst e
   simp at hb
   rcases hb with rfl|rfl
   ·exact ay _ a4 ha
   ·exact ay _ ab ha
  ·intro i hi
   have e:aaQ d dur m (ps++[⟨k,clock,arr,cap,[(own,bs)]⟩])=aaQ d dur m ps++[arr,own]:=by simp [aaQ,PEnt.foot]
   rw [e] at hi
   rcases List.mem_append.1 hi with hi|hi
   ·exact .inl hi
   ·simp at hi;rcases hi with rfl|rfl<;>exact .inr (by assumption)
 | some p=>
  have a9:=aEN hf
  have ad:p.key=k:=by simpa using List.find?_some hf
  have a8:(pv ps k).ownBlock=some p.arr:=by simp [pv,hf,PEnt.val,Value.ownBlock]
  have aj:pxs ps k=p.secs.map secV:=by simp [pxs,hf]
  have al:updC ps clock k=clock:=by simp [updC,hf]
  obtain ⟨l1,l2,aa⟩:=List.append_of_mem a9
  have an:=h.hk
  rw [aa,List.map_append,List.map_cons,List.nodup_append,List.nodup_cons] at an
  have az:∀ q∈l1,q.key≠k:=λ q hq e=>an.2.2 q.key (List.mem_map.2 ⟨q,hq,rfl⟩) p.key (by simp) (by rw [e,ad])
  have aD:∀ q∈l2,q.key≠k:=λ q hq e=>an.2.1.1 (by rw [ad,← e];exact List.mem_map.2 ⟨q,hq,rfl⟩)
  have ak:updP ps clock k arr cap (own,bs)=l1++{ p with arr:=arr,cap:=cap,secs:=p.secs++[(own,bs)] } :: l2:=by
   have:updP ps clock k arr cap (own,bs)=ps.map λ q=>if q.key == k then { q with arr:=arr,cap:=cap,secs:=q.secs++[(own,bs)] } else q:=by simp [updP,hf]
   rw [this,aa,List.map_append,List.map_cons,avH az (λ q=>{ q with arr:=arr,cap:=cap,secs:=q.secs++[(own,bs)] }),avH aD (λ q=>{ q with arr:=arr,cap:=cap,secs:=q.secs++[(own,bs)] })]
   simp [ad]
  rw [ak,al] at hm
  rw [aj] at a6
  have a0:∀ q,q∈l1∨q∈l2->q∈ps:=λ q hq=>by rw [aa];rcases hq with hq|hq<;>simp [hq]
  have ao:ps.flatMap PEnt.foot=l1.flatMap PEnt.foot++(p.arr :: p.secs.map (·.1))++l2.flatMap PEnt.foot:=by rw [aa];simp [PEnt.foot]
  have ai:=aC
  rw [ao,List.nodup_append,List.nodup_append,List.nodup_cons] at ai
  have a7:∀ q,q∈l1∨q∈l2->∀ i∈q.foot,i≠p.arr:=λ q hq i hi e=>by
   subst e
   rcases hq with hq|hq
   ·exact ai.1.2.2 _ (List.mem_flatMap.2 ⟨q,hq,hi⟩) p.arr (by simp) rfl
   ·exact ai.2.2 p.arr (by simp) p.arr (List.mem_flatMap.2 ⟨q,hq,hi⟩) rfl
  refine ⟨aaQ d dur m (l1++{ p with arr:=arr,cap:=cap,secs:=p.secs++[(own,bs)] } :: l2),⟨dur,m,_,clock,⟨hd,hdur,hm,?_,?_,?_,?_,?_,h.hlen,h.hmax,h.hpos,?_,?_,h.hleft⟩,rfl,?_⟩,?_⟩
  ·intro q hq
   have ae:(q∈l1∨q∈l2)->q.ok W:=λ hq=>(h.hp q (a0 q hq)).keep λ i hi=>by
    obtain ⟨a1,a2,a3⟩:=hmem' q (a0 q hq) i hi
    exact ah i a3 a1 a2 (by rw [a8];intro e;exact a7 q hq i hi (aEP e))
   rcases List.mem_append.1 hq with hq|hq
   ·exact ae (.inl hq)
   ·rcases List.mem_cons.1 hq with rfl|hq
    ·refine ⟨by simp,?_,λ s hs=>?_⟩
     ·simpa [PEnt.val] using a6
     ·rcases List.mem_append.1 hs with hs|hs
      ·have h0:=(h.hp p a9).2.2 s hs
       refine ⟨h0.1,?_⟩
       have hi:s.1∈p.foot:=by simp [PEnt.foot];exact .inr ⟨_,hs⟩
       obtain ⟨a1,a2,a3⟩:=hmem' p a9 s.1 hi
       have:s.1≠p.arr:=λ e=>ai.1.2.1.1 (by rw [← e];exact List.mem_map.2 ⟨s,hs,rfl⟩)
       unfold Blk
       rw [ah s.1 a3 a1 a2 (by rw [a8];intro e;exact this (aEP e))]
       exact h0.2
      ·rw [List.mem_singleton] at hs;subst hs;exact ⟨aq,hown⟩
    ·exact ae (.inr hq)
  ·have:=h.hk;rw [aa] at this;simpa using this
  ·have:=h.hb;rw [aa] at this;simpa using this
  ·intro q hq
   rcases List.mem_append.1 hq with hq|hq
   ·exact h.hc q (a0 q (.inl hq))
   ·rcases List.mem_cons.1 hq with rfl|hq
    ·exact h.hc p a9
    ·exact h.hc q (a0 q (.inr hq))
  ·intro q hq
   rcases List.mem_append.1 hq with hq|hq
   ·exact h.hn q (a0 q (.inl hq))
   ·rcases List.mem_cons.1 hq with rfl|hq
    ·exact h.hn p a9
    ·exact h.hn q (a0 q (.inr hq))
  ·funext j
   show (if j=k then D.pend k++[bs] else D.pend j)=_
   rw [h.hpend]
   have af:∀ j,ps.find? (·.key == j)=(l1.find? (·.key == j)).or ((p :: l2).find? (·.key == j)):=λ j=>by rw [aa,List.find?_append]
   have ap:l1.find? (·.key == k)=none:=List.find?_eq_none.2 λ q hq=>by simp [az q hq]
   simp only [alU,List.find?_append]
   by_cases hj:j=k
   ·subst hj
    rw [hf,ap]
    simp [ad]
   ·rw [af j]
    have:¬ p.key=j:=λ e=>hj (e.symm.trans ad)
    simp [hj,this]
  ·intro q hq
   show q.secs.length<=D.writes+1
   rcases List.mem_append.1 hq with hq|hq
   ·have:=h.hpw q (a0 q (.inl hq));omega
   ·rcases List.mem_cons.1 hq with rfl|hq
    ·have:=h.hpw p a9;simp;omega
    ·have:=h.hpw q (a0 q (.inr hq));omega
  ·have ag:(aaQ d dur m (l1++{ p with arr:=arr,cap:=cap,secs:=p.secs++[(own,bs)] } :: l2)).Perm (arr :: own :: (d :: dur :: m :: (l1.flatMap PEnt.foot++p.secs.map (·.1)++l2.flatMap PEnt.foot))):=by
    simp only [aaQ,List.flatMap_append,List.flatMap_cons,PEnt.foot,List.map_append,List.map_cons,List.map_nil,aEQ,List.cons_append,List.nil_append]
    generalize l1.flatMap PEnt.foot=A
    generalize p.secs.map (·.1)=B
    generalize l2.flatMap PEnt.foot=C
    rw [List.perm_iff_count]
    intro a
    simp only [List.count_cons,List.count_append]
    omega
   rw [ag.nodup_iff]
   have a5:(aaQ d dur m ps).Perm (p.arr :: (d :: dur :: m :: (l1.flatMap PEnt.foot++p.secs.map (·.1)++l2.flatMap PEnt.foot))):=by
    simp only [aaQ,ao]
    rw [List.perm_iff_count]
    intro a
    simp only [List.count_cons,List.count_append]
    omega
   have hN:=a5.nodup_iff.1 hF
   have hN':=List.nodup_cons.1 hN
   have aA:∀ i∈(d :: dur :: m :: (l1.flatMap PEnt.foot++p.secs.map (·.1)++l2.flatMap PEnt.foot)),i<w.heap.size:=λ i hi=>hlt i (a5.mem_iff.2 (List.mem_cons_of_mem _ hi))
   rw [List.nodup_cons,List.nodup_cons]
   refine ⟨?_,λ hi=>by have:=aA own hi;omega,hN'.2⟩
   intro hi
   rcases List.mem_cons.1 hi with e|hi
   ·exact ar e.symm
   ·rcases a4 with e|e
    ·rw [a8] at e;have:=aEP e;subst this;exact hN'.1 hi
    ·have:=aA arr hi;omega
  ·intro i hi
   simp only [aaQ,List.flatMap_append,List.flatMap_cons,PEnt.foot,List.map_append,List.map_cons,List.map_nil,List.mem_cons,List.mem_append,List.not_mem_nil,or_false] at hi
   have aE:i∈(d :: dur :: m :: ps.flatMap PEnt.foot)∨i=arr∨i=own:=by
    rw [ao]
    simp only [List.mem_cons,List.mem_append]
    rcases hi with h|h|h|h|(h|h|h)|h
    ·exact .inl (.inl h)
    ·exact .inl (.inr (.inl h))
    ·exact .inl (.inr (.inr (.inl h)))
    ·exact .inl (.inr (.inr (.inr (.inl (.inl h)))))
    ·exact .inr (.inl h)
    ·exact .inl (.inr (.inr (.inr (.inl (.inr (.inr h))))))
    ·exact .inr (.inr h)
    ·exact .inl (.inr (.inr (.inr (.inr h))))
   rcases aE with h|rfl|rfl
   ·exact .inl h
   ·rcases a4 with e|e
    ·rw [a8] at e;have:=aEP e;subst this
     exact .inl (ac p a9 _ (by simp [PEnt.foot]))
    ·exact .inr e
   ·exact .inr ab
theorem ao1 {d dur m:Nat} {ps:List PEnt} {k i:Nat} (h:(pv ps k).ownBlock=some i):i∈ps.flatMap PEnt.foot:=by
 unfold pv at h
 cases hf:ps.find? (·.key == k) with
 | none=>rw [hf] at h;cases h
 | some p=>
  rw [hf] at h
  have:p.arr=i:=aEP h
  exact List.mem_flatMap.2 ⟨p,aEN hf,by rw [← this];simp [PEnt.foot]⟩
theorem Aa7.write_end {w w4:World} {d:Nat} {D:DM} {dur m:Nat} {ps:List PEnt} {clock:Nat} (h:Aa7 w d D dur m ps clock) (hF:(aaQ d dur m ps).Nodup) (k:Nat) (hk:k<D.n)
  (arr cap own:Nat) (bs:List UInt8) (a5:bs.length=512)
  (hd:Blk w4 d (agV dur D.dur.length m D))
  (hm:Blk w4 m (mapO ((updP ps clock k arr cap (own,bs)).map PEnt.ent) (updC ps clock k)))
  (a1:w4.ownsRow 0 40 1 (.slice ↑arr ((pxs ps k).length+1) cap) ((pxs ps k).length+1) (pxs ps k++[secV (own,bs)]))
  (hown:Blk w4 own (aaE bs)) (a3:w.heap.size<=own) (a2:(pv ps k).ownBlock=some arr∨w.heap.size<=arr) (a6:own≠arr)
  (hK:AaA (λ i=>i=m∨some i=(pv ps k).ownBlock) w w4) :
  ∃ F',AaI ((w4.setCell ⟨d,6,none⟩ (I ((D.writes:Int)+1))).setCell ⟨d,9,none⟩ (I (wrap64 (D.pending+1)))) d (D.wrote k bs) F' /\
   (∀ i∈F',i∈aaQ d dur m ps∨w.heap.size<=i)/\AaA (· ∈ aaQ d dur m ps) w ((w4.setCell ⟨d,6,none⟩ (I ((D.writes:Int)+1))).setCell ⟨d,9,none⟩ (I (wrap64 (D.pending+1)))):=by
 have a4:d∉dur :: m :: ps.flatMap PEnt.foot:=(List.nodup_cons.1 hF).1
 have aa:m≠d:=λ e=>a4 (by simp [e])
 have ab:=h.hd.lt
 have a7:d≠arr:=λ e=>by
  rcases a2 with q|q
  ·exact a4 (by simp only [List.mem_cons];exact .inr (.inr (e ▸ ao1 (d:=d) (dur:=dur) (m:=m) q)))
  ·omega
 have a8:own≠d:=λ e=>by omega
 have a0:AaA (· = d) w4 ((w4.setCell ⟨d,6,none⟩ (I ((D.writes:Int)+1))).setCell ⟨d,9,none⟩ (I (wrap64 (D.pending+1)))):=
  ((AaA.refl (· = d) w4).setCell (p:=⟨d,6,none⟩) (.inl rfl) _).setCell (p:=⟨d,9,none⟩) (.inl rfl) _
 have hd':=(hd.setCell 6 (I ((D.writes:Int)+1))).setCell 9 (I (wrap64 (D.pending+1)))
 generalize (w4.setCell ⟨d,6,none⟩ (I ((D.writes:Int)+1))).setCell ⟨d,9,none⟩ (I (wrap64 (D.pending+1)))=W at a0 hd' ⊢
 obtain ⟨F',hR,a9⟩:=h.wrote hF k hk arr cap own bs a5 (W:=W) hd' (a0.blk hm (by omega)) (aiT a1 (λ g hg=>by
   have e:arr=g:=aEP hg
   subst e
   refine a0.block _ ?_ (Ne.symm a7)
   exact (a1.lt arr rfl).2)) (a0.blk hown a8) a3 a2 a6 (λ i hi h1 h2 h3=>by
   have e1:=hK.block i hi (λ f=>by rcases f with f|f;exact h2 f;exact h3 f)
   have e2:=a0.block i (aEJ hi hK.size) h1
   rw [e2,e1])
 refine ⟨F',hR,a9,(hK.mono (G:=(· ∈ aaQ d dur m ps)) λ i _ f=>?_).trans a0 (λ i _ e=>by subst e;simp [aaQ])⟩
 rcases f with rfl|f
 ·simp [aaQ]
 ·simp only [aaQ,List.mem_cons];exact .inr (.inr (.inr (ao1 (d:=d) (dur:=dur) (m:=m) f.symm)))
end Go.Vk
namespace Go.Vk
open Go.RowKit Go.Proofs
open Tryz (prog)
theorem aD3:(prog).underlying 105=some (.slice 40):=Tryz.underlying105
theorem aDJ:((prog).info? 40).map (λ i=>(i.zero,i.size,i.bytes))=some (some (.slice none 0 0),1,24):=by kernel_rfl
section
variable {w:World} {d:Nat} {D:DM} {F:List Nat}
theorem aj1 (h:AaI w d D F) (hb:D.burnt=true) (k:Int) (v:Value) :
  Calls prog 162 #[↑d,I k,v] w λ e w'=>e=U (I 3)/\w=w':=by
 replace h:=hid h
 go_enter Tryz.func162,Tryz.ntmps162
 go_wp2_with (go_at_call 210;refine (amZ h.out hb _).mono ?_;rintro e w' ⟨rfl,rfl⟩)
 go_ret
 exact ⟨rfl,rfl⟩
theorem ah5 (h:AaI w d D F) (hb:D.burnt=false) (k:Int) (h0:0<=k) (hk:k<D.n) (hw:D.writes<1099511627776)
  (g off c:Nat) (T2:TypeId) (src:List UInt8) (hg:Blk w g (aa2 T2 src)) (hlen:off+512<=src.length) :
  Calls prog 162 #[↑d,I k,.slice (some ⟨g,off,none⟩) 512 c] w λ e w'=>e=U (I 0) /\
   AeN w d F (D.wrote k.toNat ((src.drop off).take 512)).spent w':=by
 have ak:=arF h hb k h0 hk
 obtain ⟨dur,m,ps,clock,h1,rfl,h3⟩:=h
 have ay:=al2
 obtain ⟨k,rfl⟩:=Int.eq_ofNat_of_zero_le h0
 replace ⟨h1,h3,ak,hg⟩:=yh4 h1 h3 ak hg
 go_enter Tryz.func162,Tryz.ntmps162
 go_upto_region 8 with (first|(go_at_call 210;refine ak.out.mono ?_;rintro e w' ⟨rfl,rfl⟩))
 go_step
 refine akV rfl _ rfl ?_
 refine akV rfl _ rfl ?_
 have hz:=Blk.new w (aaE (aaD 512))
 have au:=hg.out.lt
 refine ae4 rfl (.tmp 28) (.tmp 29) 40 40 rfl 5 afL amP 5 T2 _ _ _ _ _ _ _ _ rfl rfl _ _ hz (hg.out.alloc _) (by rw [aaF];omega) hlen ?_
 intro w2 a9 hk2 aa
 have e1:lay (aaD 512) 0 ((src.drop off).take (Nat.min 512 512))=(src.drop off).take 512:=by
  rw [show Nat.min 512 512=512 from rfl]
  refine al6 ?_
  rw [aEM,aET,aaF];omega
 rw [e1] at a9
 have a5:AaA NoF w w2:=((AaA.refl NoF w).alloc (aaE (aaD 512))).trans hk2 (λ i hi e=>by omega)
 rw [aEI] at aa
 have h2:Aa7 w2 d D dur m ps clock:=h1.out.keep (λ i hi=>a5.block i (h1.out.lt i hi) (λ f=>f))
 have ae:((src.drop off).take 512).length=512:=by rw [aEM,aET];omega
 generalize a6:(src.drop off).take 512=bs at a9 ae
 generalize hown:w.heap.size=own at a9 hk2 aa au ⊢
 clear hz e1 hk2 ay au
 obtain ⟨i22,al,am,an,ao⟩:=info_parts aDJ
 have c1:=h2.c1
 have aC:=h2.hd.lt
 have av:=azI amY ai6 atU k (h2.hm.drew)
 have aw:=λ o=>azI amY ai6 atU k (h2.hm.alloc o).drew
 have a3:=h2.pv_own k
 have ab:=h2.pxs_le k
 have ax:m≠d:=λ e=>(List.nodup_cons.1 h3.out).1 (by simp [e])
 have ac:some d≠(pv ps k).ownBlock:=λ e=>(List.nodup_cons.1 h3.out).1 (by simp only [List.mem_cons];exact .inr (.inr (ao1 (d:=d) (dur:=dur) (m:=m) e.symm)))
 have af:some m≠(pv ps k).ownBlock:=λ e=>(List.nodup_cons.1 (List.nodup_cons.1 (List.nodup_cons.1 h3.out).2).2).1 (ao1 (d:=d) (dur:=dur) (m:=m) e.symm)
 have hpo:some own≠(pv ps k).ownBlock:=λ e=>by
  have:=h1.out.lt own (by simp only [aaQ,List.mem_cons];exact .inr (.inr (.inr (ao1 (d:=d) (dur:=dur) (m:=m) e.symm))))
  omega
 have ap:own≠m:=λ e=>by have:=h1.out.hm.lt;omega
 have ag:=λ (W:World) (arr cap:Nat) (hb:Blk W m (mapO (ps.map PEnt.ent) clock))=>aAS (W:=W) amY ai6 h2.hk k arr cap (own,bs) hb
 generalize hV:pv ps k=V at av aw a3 ac af hpo
 generalize hX:pxs ps k=X at a3 ab ag
 replace ⟨a6,hpo,ap,aa,a9,a5,h2,hown⟩:=yh8 a6 hpo ap aa a9 a5 h2 hown;replace ⟨ae,a3,ab,ac,af,hV,hX,ag⟩:=yh8 ae a3 ab ac af hV hX ag
 go_wp2_with fail
 go_frame
 go_region_held3 (λ W=>W.cell? ⟨d,1,none⟩=some (.map (some m))) (first|assumption|exact aaU (by assumption) _|exact anF (by assumption) (by assumption) ac.out|exact ae2 (by assumption) (Ne.symm ax) _) (first|(rw [if_pos (by rfl)];refine aj2 (.tmp 41) (.tmp 43) 105 rfl 40 i22 (.slice none 0 0) 1 24 aD3 al am an ao rfl (by omega) V X.length X rfl (World.ownsRow.alloc (World.ownsRow.drew a3.out) _) ⟨w2.heap.size,0,none⟩ 1 1 [.slice ↑own 512 512] rfl rfl (cell_one_new _ _ _) (λ u hu=>by simp at hu;subst hu;rfl) (by omega) (by have:=ab.out;unfold maxLen;omega) (by have:=ab.out;omega) ?_;intro g' cap' w3 a0 a4 ad;have ah:Blk w3 m (mapO (ps.map PEnt.ent) clock):=Blk.grown ((h2.out.hm.drew).alloc _) a4 af.out;have aq:=ag.out w3 g' cap' ah;replace ⟨a0,ad⟩:=yh2 a0 ad))
 all_goals
  have az:w.heap.size<=own:=by rw [hown.out];exact aEK _
  have a7:Blk (w3.setBlk m (mapO ((updP ps clock k g' cap' (own,bs)).map PEnt.ent) (updC ps clock k))) d (agV dur D.dur.length m D):=(Blk.grown ((h2.out.hd.alloc _).drew) a4 ac.out).setBlk_ne (Ne.symm ax) _
  have ai:=ah.setBlk (mapO ((updP ps clock k g' cap' (own,bs)).map PEnt.ent) (updC ps clock k))
  have aA:g'≠m:=λ e=>by
   obtain ⟨_,q⟩:=a0.out
   rcases q with ⟨q,_⟩|⟨g2,_,_,hv,_,hh,_⟩
   ·cases q
   ·have e2:g2=g':=by injection hv with e1;injection e1 with e1;injection e1 with e1;exact e1.symm
    rw [e2,e] at hh
    have:=Blk.inj ah hh
    cases this
  have a1:=aiT (w':=w3.setBlk m (mapO ((updP ps clock k g' cap' (own,bs)).map PEnt.ent) (updC ps clock k))) a0.out (λ g2 aB=>by
   have e2:g'=g2:=aEP aB
   subst e2
   simp [World.setBlk,Ne.symm aA])
  have a2:Blk (w3.setBlk m (mapO ((updP ps clock k g' cap' (own,bs)).map PEnt.ent) (updC ps clock k))) own (aaE bs):=(Blk.grown ((a9.out.alloc _).drew) a4 hpo.out).setBlk_ne ap.out _
  have aj:AaA (λ i=>i=m∨some i=V.ownBlock) w (w3.setBlk m (mapO ((updP ps clock k g' cap' (own,bs)).map PEnt.ent) (updC ps clock k))):=
   (((a5.out.mono (λ _ _ f=>f.elim)).alloc _).drew.grown a4 (λ i hi=>.inl (.inr hi.symm))).trans (abM _ _ _) (λ i _ e=>.inl e)
  have a8:(pv ps k).ownBlock=some g'∨w.heap.size<=g':=by
   rw [hV.out]
   rcases ad.out with e|e
   ·exact .inl e.1
   ·right;rw [e];show _<=(w2.alloc _).heap.size;rw [aEI,aa.out,hown.out];omega
  have ar:own≠g':=λ e=>by
   rcases ad.out with e2|e2
   ·exact hpo.out (by rw [e2.1,e])
   ·have:g'=w2.heap.size+1:=by rw [e2];show (w2.alloc _).heap.size=_;rw [aEI]
    have:=aa.out;omega
  clear aq ah a0 a4 ad
  rename_i hHeld
  clear hHeld
  generalize w3.setBlk m (mapO ((updP ps clock k g' cap' (own,bs)).map PEnt.ent) (updC ps clock k))=w4 at a7 ai a1 a2 aj ⊢
  have c6:w4.cell? ⟨d,6,none⟩=some (I D.writes):=by simpa [agV] using a7.cell 6
  have c9:w4.cell? ⟨d,9,none⟩=some (I D.pending):=by simpa [agV] using a7.cell 9
  have fz:∀ i,w4.frozen? ⟨d,i,none⟩=false:=a7.frz
  replace ⟨a7,ai,a1,a2,aj,a8,ar⟩:=yh7 a7 ai a1 a2 aj a8 ar
  clear av aw c1
  go_wp2_with fail
  have hX':=hX.out
  have hV':=hV.out
  subst hX' hV'
  obtain ⟨F',e1,e2,e3⟩:=h1.out.write_end h3.out k (by omega) g' cap' own bs ae.out a7.out ai.out a1.out a2.out az a8.out ar.out aj.out
  refine (auG e1 (λ hf=>?_)).mono ?_
  ·have hb':(D.fused && (D.left == 0))=false:=hb
   have hf':D.fused=true:=hf
   have hl:=h1.out.hleft
   show 0<D.left
   rw [hf'] at hb'
   simp at hb'
   omega
  rintro e w6 ⟨rfl,e4,e5⟩
  replace ⟨e2,e3,e4,e5⟩:=yh4 e2 e3 e4 e5;clear e1
  go_wp2
  go_ret
  refine ⟨rfl,F',?_,e3.out.trans e5.out (λ i hi f=>?_),e2.out⟩
  ·rw [Int.toNat_natCast,a6.out];exact e4.out
  ·rcases e2.out i f with h|h
   ·exact h
   ·omega
end
end Go.Vk
namespace Go.Vk
open Go.RowKit
def ae9 (D:DM) (ps:List PEnt) (seen:Array Nat):List UInt8:=
 secs D.n λ k=>if ∃ p∈ps,p.key=k/\p.born∈seen then D.now k else D.home k
def DM.mid (D:DM) (ps:List PEnt) (seen:Array Nat):DM:={ D with dur:=ae9 D ps seen }
section
variable {w:World} {d:Nat} {D:DM} {dur m:Nat} {ps:List PEnt} {clock:Nat}
theorem Aa7.home_length (h:Aa7 w d D dur m ps clock) {k:Nat} (hk:k<D.n):(D.home k).length=512:=by
 have:=h.hlen
 unfold DM.home
 rw [aEM,aET];omega
theorem Aa7.turn_dur (h:Aa7 w d D dur m ps clock) (hF:(aaQ d dur m ps).Nodup) {w':World} (hk:AaA (· = dur) w w') {b:List UInt8} (hb:Blk w' dur (aaE b)) (hl:b.length=D.dur.length) :
  Aa7 w' d { D with dur:=b } dur m ps clock:=by
 have a1:d∉dur :: m :: ps.flatMap PEnt.foot:=(List.nodup_cons.1 hF).1
 have a0:=(List.nodup_cons.1 (List.nodup_cons.1 hF).2).1
 have hn:({ D with dur:=b }:DM).n=D.n:=by simp [DM.n,hl]
 refine ⟨?_,hb,hk.blk h.hm (λ e=>a0 (by simp [← e])),?_,h.hk,h.hb,h.hc,?_,?_,?_,?_,h.hpend,h.hpw,h.hleft⟩
 ·have:=hk.blk h.hd (λ e=>a1 (by simp [← e]))
  show Blk w' d (agV dur b.length m { D with dur:=b })
  rw [hl];exact this
 ·intro p hp
  refine (h.hp p hp).keep λ i hi=>?_
  have hm:i∈ps.flatMap PEnt.foot:=List.mem_flatMap.2 ⟨p,hp,hi⟩
  exact hk.block i (h.lt i (by simp only [aaQ,List.mem_cons];exact .inr (.inr (.inr hm)))) (λ e=>a0 (by rw [← e];exact List.mem_cons_of_mem _ hm))
 ·rw [hn];exact h.hn
 ·rw [hn];show b.length=_;rw [hl];exact h.hlen
 ·rw [hn];exact h.hmax
 ·rw [hn];exact h.hpos
theorem Aa7.mid_length (h:Aa7 w d D dur m ps clock) (seen:Array Nat):(ae9 D ps seen).length=D.dur.length:=by
 rw [h.hlen]
 refine aeX λ k hk=>?_
 split
 ·exact DM.now_length h k hk
 ·exact h.home_length hk
theorem Aa7.mid_n (h:Aa7 w d D dur m ps clock) (seen:Array Nat):(D.mid ps seen).n=D.n:=by
 simp [DM.n,DM.mid,h.mid_length]
theorem Aa7.mid_start (h:Aa7 w d D dur m ps clock):D.mid ps #[]=D:=by
 have:ae9 D ps #[]=D.dur:=by
  unfold ae9
  rw [← aAP h.hlen]
  refine agN λ k _=>?_
  simp [DM.home]
 simp [DM.mid,this]
theorem Aa7.now_key (h:Aa7 w d D dur m ps clock) {p:PEnt} (hp:p∈ps) (b:List UInt8):({ D with dur:=b }:DM).now p.key=D.now p.key:=by
 have hf:ps.find? (·.key == p.key)=some p:=by
  cases e:ps.find? (·.key == p.key) with
  | none=>have:=List.find?_eq_none.1 e p hp;simp at this
  | some q=>rw [acX h.hk (aEN e) hp (by simpa using List.find?_some e)]
 have a0:=(h.hp p hp).1
 unfold DM.now
 show ((D.pend p.key).getLast?).getD _=_
 rw [h.hpend]
 simp only [alU,hf,Option.map_some,Option.getD_some]
 rw [List.getLast?_map,List.getLast?_eq_some_getLast a0]
 rfl
theorem Aa7.mid_step (h:Aa7 w d D dur m ps clock) {p:PEnt} (hp:p∈ps) (seen:Array Nat) :
  lay (ae9 D ps seen) (512*p.key) (D.now p.key)=ae9 D ps (seen.push p.born):=by
 unfold ae9
 rw [ayL (λ k hk=>by
  split
  ·exact DM.now_length h k hk
  ·exact h.home_length hk) (h.hn p hp) (DM.now_length h _ (h.hn p hp))]
 refine agN λ k _=>?_
 by_cases hk:k=p.key
 ·subst hk
  rw [if_pos rfl,if_pos ⟨p,hp,rfl,by simp⟩]
 ·rw [if_neg hk]
  refine ite_congr (propext ⟨λ ⟨q,hq,h1,h2⟩=>⟨q,hq,h1,by simp [h2]⟩,λ ⟨q,hq,h1,h2⟩=>⟨q,hq,h1,?_⟩⟩) (λ _=>rfl) (λ _=>rfl)
  rcases Array.mem_push.1 h2 with h2|h2
  ·exact h2
  ·exact absurd (h1.symm.trans (congrArg PEnt.key (acX h.hb hq hp h2))) hk
theorem Aa7.mid_end (h:Aa7 w d D dur m ps clock) (seen:Array Nat) (hs:abD (ps.map PEnt.ent) seen=[]):ae9 D ps seen=secs D.n D.now:=by
 unfold ae9
 refine agN λ k _=>?_
 split
 ·rfl
 ·rename_i hne
  have:ps.find? (·.key == k)=none:=List.find?_eq_none.2 λ p hp e=>by
   refine hne ⟨p,hp,by simpa using e,?_⟩
   have hm:p.ent∈ps.map PEnt.ent:=List.mem_map.2 ⟨p,hp,rfl⟩
   have:=List.filter_eq_nil_iff.1 hs p.ent hm
   simpa [PEnt.ent] using this
  unfold DM.now
  rw [h.hpend]
  simp [alU,this]
end
end Go.Vk
