/- Part of the proof: Vk Mp By Sc Dk. -/
import Derived.WalkKit
import Derived.WalkSpells
import Derived.WalkLawsBesides
import Derived.MapKept
import Derived.Maps.RangeRun
import Derived.Laws.CopyOwn
import Derived.Laws.AppendOwn
import Derived.Below
import Derived.Test.YtjeelghnmkefcaaGreatProg
set_option linter.unusedVariables false
set_option maxHeartbeats 16000000
set_option maxRecDepth 100000
namespace Go.Vk
open Go.RowKit Go.Proofs
instance pC:Coe Nat Value:=⟨fun n=>.pointer (some ⟨n,0,none⟩)⟩
instance pA:Coe Nat Addr:=⟨fun n=>⟨n,0,none⟩⟩
instance pB:Coe Bool Value:=⟨.bool⟩
instance pO:Coe Nat (Option Addr):=⟨fun n=>some ⟨n,0,none⟩⟩
structure FInt where
instance fI:CoeFun FInt (fun _=>Int→Value):=⟨fun _=>.int .i64⟩
def I:FInt:=⟨⟩
structure FRet where
instance fR:CoeFun FRet (fun _=>Value→Ending):=⟨fun _=>.returned⟩
def U:FRet:=⟨⟩
abbrev NoF:Nat→Prop:=fun _=>False
theorem yh2 {A B:Prop} (a:A) (b:B):Hid A∧Hid B:=⟨a,b⟩
theorem yh3 {A B C:Prop} (a:A) (b:B) (c:C):Hid A∧Hid B∧Hid C:=⟨a,b,c⟩
theorem yh4 {A B C D:Prop} (a:A) (b:B) (c:C) (d:D):Hid A∧Hid B∧Hid C∧Hid D:=⟨a,b,c,d⟩
theorem yh5 {A B C D E:Prop} (a:A) (b:B) (c:C) (d:D) (e:E):Hid A∧Hid B∧Hid C∧Hid D∧Hid E:=⟨a,b,c,d,e⟩
theorem yh6 {A B C D E F:Prop} (a:A) (b:B) (c:C) (d:D) (e:E) (f:F):Hid A∧Hid B∧Hid C∧Hid D∧Hid E∧Hid F:=⟨a,b,c,d,e,f⟩
theorem yh7 {A B C D E F G:Prop} (a:A) (b:B) (c:C) (d:D) (e:E) (f:F) (g:G):Hid A∧Hid B∧Hid C∧Hid D∧Hid E∧Hid F∧Hid G:=⟨a,b,c,d,e,f,g⟩
theorem yh8 {A B C D E F G H:Prop} (a:A) (b:B) (c:C) (d:D) (e:E) (f:F) (g:G) (h:H):Hid A∧Hid B∧Hid C∧Hid D∧Hid E∧Hid F∧Hid G∧Hid H:=⟨a,b,c,d,e,f,g,h⟩
theorem ww:(∀ (a:Act) (d:Tmp) v,a.put (some d) v={a with tmps:=a.tmps.setIfInBounds d v})∧∀ (a:Act) v,a.put none v=a:=⟨fun _ _ _=>rfl,fun _ _=>rfl⟩
theorem wz:((∀ (a:Act) (d:Tmp) v,a.put (some d) v={a with tmps:=a.tmps.setIfInBounds d v})∧∀ (a:Act) v,a.put none v=a)∧(∀ (l:List Value) (i:Nat) x,l.toArray.setIfInBounds i x=(l.set i x).toArray)∧(∀ (a:Value) l x,(a::l).set 0 x=x::l)∧∀ (a:Value) l x n,(a::l).set (n+1) x=a::l.set n x:=⟨ww,fun _ _ _=>by simp,fun _ _ _=>rfl,fun _ _ _ _=>rfl⟩
theorem wq:(((∀ (a:Act) (d:Tmp) v,a.put (some d) v={a with tmps:=a.tmps.setIfInBounds d v})∧∀ (a:Act) v,a.put none v=a)∧(∀ (l:List Value) (i:Nat) x,l.toArray.setIfInBounds i x=(l.set i x).toArray)∧(∀ (a:Value) l x,(a::l).set 0 x=x::l)∧∀ (a:Value) l x n,(a::l).set (n+1) x=a::l.set n x)∧(∀ (l:List Value) (i:Nat) (h:i<l.toArray.size),l.toArray[i]=l[i]'(by simpa using h))∧(∀ (a:Value) l (h:0<(a::l).length),(a::l)[0]=a)∧∀ (a:Value) l n (h:n+1<(a::l).length),(a::l)[n+1]=l[n]'(by simpa using h):=⟨wz,fun _ _ _=>rfl,fun _ _ _=>rfl,fun _ _ _ _=>rfl⟩
theorem mkFn:∀ (fn:Fn) (first cap:Array Value) (w:World),(Instr.makeFunc fn first cap).run Tryz.prog w=.ok (.func fn first cap) w:=fun _ _ _ _=>rfl
abbrev aEG:=@List.getElem?_eq_getElem
abbrev aEH:=@List.length_append
abbrev aEI:=@World.size_alloc
abbrev aEJ:=@Nat.lt_of_lt_of_le
abbrev aEK:=@Nat.le_refl
abbrev aEL:=@List.getD_eq_getElem?_getD
abbrev aEM:=@List.length_take
abbrev aEN:=@List.mem_of_find?_eq_some
abbrev aEO:=@List.take_of_length_le
abbrev aEP:=@Option.some.inj
abbrev aEQ:=@List.append_assoc
abbrev aER:=@List.drop_zero
abbrev aES:=@World.size_setCell
abbrev aET:=@List.length_drop
abbrev aEU:=@List.length_map
abbrev aEV:=@List.length_set
abbrev aEW:=@List.length_replicate
abbrev aEX:=@List.drop_eq_getElem_cons
abbrev aEY:=@Nat.zero_le
abbrev aEZ:=@List.getElem?_map
abbrev aE0:=@List.take_left'
abbrev aE1:=@List.getElem?_set_ne
abbrev aE2:=@Bool.eq_false_iff
abbrev aE3:=@List.append_nil
abbrev aE4:=@Nat.le_trans
abbrev aE5:=@Nat.pow_le_pow_right
abbrev aE6:=@List.take_succ_eq_append_getElem
abbrev aE7:=@Classical.byContradiction
end Go.Vk
namespace Go.Vk
open Go.RowKit
theorem hid {p:Prop} (h:p):Hid p:=h
def Blk (w:World) (b:Nat) (o:Obj):Prop:=w.heap[b]? = some o
theorem Blk.lt {w:World} {b:Nat} {o:Obj} (h:Blk w b o):b<w.heap.size:=by
 unfold Blk at h
 rcases Nat.lt_or_ge b w.heap.size with h'|h'
 ·exact h'
 ·rw [Array.getElem?_eq_none h'] at h;cases h
theorem Blk.inj {w:World} {b:Nat} {o o':Obj} (h:Blk w b o) (h':Blk w b o'):o=o':=by
 unfold Blk at h h';rw [h] at h';exact aEP h'
theorem Blk.cell {w:World} {b:Nat} {cs:Array Value} {T:TypeId} {fr:Nat × Nat} (h:Blk w b (.cells cs T fr)) (i:Nat):w.cell? ⟨b,i,none⟩=cs[i]?:=by
 unfold Blk at h;simp [World.cell?,h]
theorem Blk.frz {w:World} {b:Nat} {cs:Array Value} {T:TypeId} (h:Blk w b (.cells cs T (0,0))) (i:Nat):w.frozen? ⟨b,i,none⟩=false:=by
 unfold Blk at h;simp [World.frozen?,h]
theorem Blk.alloc {w:World} {b:Nat} {o:Obj} (h:Blk w b o) (o':Obj):Blk (w.alloc o') b o:=by
 have:=h.lt
 unfold Blk at *
 show (w.heap.push o')[b]? = _
 rw [Array.getElem?_push,if_neg (by omega)];exact h
theorem Blk.new (w:World) (o:Obj):Blk (w.alloc o) w.heap.size o:=by
 show (w.heap.push o)[w.heap.size]? = _
 simp
theorem Blk.drew {w:World} {b:Nat} {o:Obj} (h:Blk w b o):Blk w.drew b o:=h
theorem Blk.setCell_ne {w:World} {b:Nat} {o:Obj} (h:Blk w b o) {p:Addr} (a0:b≠p.block) (v:Value):Blk (w.setCell p v) b o:=by
 unfold Blk at *
 simp only [World.setCell,Array.getElem?_modify]
 rw [if_neg (by omega)];exact h
theorem Blk.setCell {w:World} {b:Nat} {cs:Array Value} {T:TypeId} {fr:Nat × Nat} (h:Blk w b (.cells cs T fr)) (i:Nat) (v:Value) :
  Blk (w.setCell ⟨b,i,none⟩ v) b (.cells (cs.setIfInBounds i v) T fr):=by
 unfold Blk at *
 simp [World.setCell,Array.getElem?_modify,h]
structure AaA (F:Nat->Prop) (w w':World):Prop where
 os:w'.os=w.os
 tape:w'.tape=w.tape
 output:w'.output=w.output
 size:w.heap.size<=w'.heap.size
 block:∀ k,k<w.heap.size->¬ F k->w'.heap[k]? = w.heap[k]?
theorem AaA.refl (F:Nat->Prop) (w:World):AaA F w w:=⟨rfl,rfl,rfl,aEK _,λ _ _ _=>rfl⟩
theorem AaA.trans {F G:Nat->Prop} {a b c:World} (h:AaA F a b) (k:AaA G b c) (hG:∀ i,i<a.heap.size->G i->F i):AaA F a c:=
 ⟨k.os.trans h.os,k.tape.trans h.tape,k.output.trans h.output,aE4 h.size k.size,
  λ i hi hf=>(k.block i (aEJ hi h.size) (λ g=>hf (hG i hi g))).trans (h.block i hi hf)⟩
theorem AaA.mono {F G:Nat->Prop} {a b:World} (h:AaA F a b) (hG:∀ i,i<a.heap.size->F i->G i):AaA G a b:=
 ⟨h.os,h.tape,h.output,h.size,λ i hi hf=>h.block i hi (λ f=>hf (hG i hi f))⟩
theorem AaA.step {F:Nat->Prop} {a b c:World} (h:AaA F a b) (k:AaA F b c):AaA F a c:=h.trans k (λ _ _ e=>e)
theorem AaA.alloc {F:Nat->Prop} {a b:World} (h:AaA F a b) (o:Obj):AaA F a (b.alloc o):=
 ⟨h.os,h.tape,h.output,by rw [aEI];have:=h.size;omega,λ i hi hf=>by
  have h1:=h.block i hi hf
  have h2:=h.size
  rw [← h1]
  show (b.heap.push o)[i]? = _
  rw [Array.getElem?_push,if_neg (by omega)]⟩
theorem AaA.drew {F:Nat->Prop} {a b:World} (h:AaA F a b):AaA F a b.drew:=⟨h.os,h.tape,h.output,h.size,h.block⟩
theorem AaA.setCell {F:Nat->Prop} {a b:World} (h:AaA F a b) {p:Addr} (hp:F p.block∨a.heap.size<=p.block) (v:Value):AaA F a (b.setCell p v):=
 ⟨h.os,h.tape,h.output,by rw [aES];exact h.size,λ i hi hf=>by
  have h1:=h.block i hi hf
  rw [← h1]
  simp only [World.setCell,Array.getElem?_modify]
  rw [if_neg]
  intro e
  rcases hp with hp|hp
  ·exact hf (e ▸ hp)
  ·omega⟩
theorem AaA.grown {F:Nat->Prop} {a b c:World} (h:AaA F a b) {row:Option Nat} (hg:b.grownBy c row) (hr:∀ k,row=some k->F k∨a.heap.size<=k):AaA F a c:=
 ⟨hg.os.trans h.os,hg.tape.trans h.tape,hg.output.trans h.output,aE4 h.size hg.size,λ i hi hf=>by
  rw [hg.block i (aEJ hi h.size) (λ e=>by rcases hr i e.symm with x|x;exact hf x;omega)]
  exact h.block i hi hf⟩
theorem AaA.blk {F:Nat->Prop} {w w':World} (h:AaA F w w') {b:Nat} {o:Obj} (hb:Blk w b o) (hf:¬ F b):Blk w' b o:=by
 have:=h.block b hb.lt hf
 unfold Blk at *
 rw [this];exact hb
theorem aaU {w:World} {a:Addr} {v:Value} (h:w.cell? a=some v) (o:Obj):(w.alloc o).cell? a=some v:=by
 rw [World.cell?_alloc_lt w o a (World.block_lt_of_cell? w a h)];exact h
theorem abB {w:World} {a p:Addr} {v:Value} (h:w.cell? a=some v) (a0:a.block≠p.block) (u:Value):(w.setCell p u).cell? a=some v:=by
 rw [World.cell?_setCell_other _ _ _ _ (λ e=>a0 (by rw [e]))];exact h
theorem anF {w w':World} {a:Addr} {v:Value} {row:Option Nat} (h:w.cell? a=some v) (hg:w.grownBy w' row) (a0:some a.block≠row):w'.cell? a=some v:=hg.cell h a0
theorem Blk.grown {w w':World} {b:Nat} {o:Obj} {row:Option Nat} (h:Blk w b o) (hg:w.grownBy w' row) (a0:some b≠row):Blk w' b o:=by
 unfold Blk;rw [hg.block b h.lt a0];exact h
def B (x:UInt8):Value:=.int .u8 x.toNat
def aaE (bs:List UInt8):Obj:=.cells (bs.map B).toArray 5 (0,0)
end Go.Vk
namespace Go.Vk
open Go.RowKit Go.MapKept
abbrev Ent:=Nat × Value × Nat
def ent (x:Ent):MapEntry:=⟨I x.1,x.2.1,x.2.2⟩
def mapO (l:List Ent) (clock:Nat):Obj:=.map (l.map ent).toArray clock
def look (l:List Ent) (k:Nat):Option Value:=(l.find? (·.1 == k)).map (·.2.1)
def aqE (l:List Ent) (k:Nat) (v:Value):List Ent:=l.map λ x=>if x.1 == k then (x.1,v,x.2.2) else x
theorem agU {l:List Ent} {k:Nat}:look l k=none↔∀ x∈l,x.1≠k:=by simp [look]
theorem ae5 (k:Nat):∀ (l:List Ent) (i:Nat),Instr.findNow (.int .i64) (I k) (l.map ent) i =
  some ((l.findIdx? (·.1 == k)).bind λ j=>(look l k).map λ v=>(i+j,v))
 | [],i=>by simp [Instr.findNow]
 | x :: l,i=>by
  have ih:=ae5 k l (i+1)
  by_cases h:x.1=k
  ·simp [Instr.findNow,ent,Instr.sameNow,h,List.findIdx?_cons,look]
  ·have h':((k:Int) == (x.1:Int))=false:=by simp;omega
   have h2:(x.1 == k)=false:=by simp [h]
   have e1:Instr.findNow (.int .i64) (I k) (((x :: l)).map ent) i=Instr.findNow (.int .i64) (I k) (l.map ent) (i+1):=by
    simp [Instr.findNow,ent,Instr.sameNow,h']
   rw [e1,ih]
   have e2:look (x :: l) k=look l k:=by simp [look,h2]
   rw [e2,List.findIdx?_cons,h2]
   cases l.findIdx? (λ x=>x.1 == k) with
   | none=>simp
   | some j=>cases look l k<;>simp;omega
section
variable {P:Program} {w:World} {T K E:TypeId} {m k clock:Nat} {l:List Ent}
theorem aj7 (hT:P.underlying T=some (.map K E)) (hK:P.underlying K=some (.int .i64)) (hb:Blk w m (mapO l clock)) {z:Value} (hz:(zeroValue E).run P w=.ok z w) :
  (Instr.lookup T (.map (some m)) (I k) false).run P w=.ok ((look l k).getD z) w:=by
 have hb:w.heap[m]? = some (.map (l.map ent).toArray clock):=hb
 have hf:=ae5 k l 0
 have a0:IsKey (.int .i64) (I (k:Int)):=by simp [IsKey]
 have a1:look l k=none->(l.findIdx? (·.1 == k))=none:=λ h=>by
  rw [List.findIdx?_eq_none_iff];intro x hx;simp;exact agU.1 h x hx
 cases hl:look l k with
 | none=>
  rw [a1 hl] at hf
  simp [Instr.lookup,run_underlying hT,MapKept.run_getObj_map hb,MapKept.run_checkKey hK a0,MapKept.run_findKey hK hf,hz,Result.andThen]
 | some v=>
  cases hi:l.findIdx? (·.1 == k) with
  | none=>
   rw [List.findIdx?_eq_none_iff] at hi
   have:look l k=none:=agU.2 (λ x hx=>by simpa using hi x hx)
   rw [hl] at this;cases this
  | some j=>
   rw [hi,hl] at hf
   simp [Instr.lookup,run_underlying hT,MapKept.run_getObj_map hb,MapKept.run_checkKey hK a0,MapKept.run_findKey hK hf,Result.andThen]
theorem ajA (hT:P.underlying T=some (.map K E)) (hK:P.underlying K=some (.int .i64)) (hb:Blk w m (mapO l clock)) {z:Value} (hz:(zeroValue E).run P w=.ok z w) :
  (Instr.lookup T (.map (some m)) (I k) true).run P w=.ok (.tuple #[(look l k).getD z,.bool (look l k).isSome]) w:=by
 have hb:w.heap[m]? = some (.map (l.map ent).toArray clock):=hb
 have hf:=ae5 k l 0
 have a0:IsKey (.int .i64) (I (k:Int)):=by simp [IsKey]
 have a1:look l k=none->(l.findIdx? (·.1 == k))=none:=λ h=>by
  rw [List.findIdx?_eq_none_iff];intro x hx;simp;exact agU.1 h x hx
 cases hl:look l k with
 | none=>
  rw [a1 hl] at hf
  simp [Instr.lookup,run_underlying hT,MapKept.run_getObj_map hb,MapKept.run_checkKey hK a0,MapKept.run_findKey hK hf,hz,Result.andThen]
 | some v=>
  cases hi:l.findIdx? (·.1 == k) with
  | none=>
   rw [List.findIdx?_eq_none_iff] at hi
   have:look l k=none:=agU.2 (λ x hx=>by simpa using hi x hx)
   rw [hl] at this;cases this
  | some j=>
   rw [hi,hl] at hf
   simp [Instr.lookup,run_underlying hT,MapKept.run_getObj_map hb,MapKept.run_checkKey hK a0,MapKept.run_findKey hK hf,Result.andThen]
def _root_.Go.World.setBlk (w:World) (b:Nat) (o:Obj):World:={ w with heap:=w.heap.setIfInBounds b o }
theorem Blk.setBlk {w:World} {b:Nat} {o:Obj} (h:Blk w b o) (o':Obj):Blk (w.setBlk b o') b o':=by
 have:=h.lt
 simp [Blk,World.setBlk,this]
theorem Blk.setBlk_ne {w:World} {b b':Nat} {o:Obj} (h:Blk w b o) (a0:b≠b') (o':Obj):Blk (w.setBlk b' o') b o:=by
 unfold Blk at *
 simp [World.setBlk,Ne.symm a0,h]
theorem abM (w:World) (b:Nat) (o:Obj):AaA (· = b) w (w.setBlk b o):=
 ⟨rfl,rfl,rfl,by simp [World.setBlk],λ k _ hk=>by simp [World.setBlk,Ne.symm hk]⟩
theorem ae2 {w:World} {a:Addr} {v:Value} (h:w.cell? a=some v) {b:Nat} (a0:a.block≠b) (o:Obj):(w.setBlk b o).cell? a=some v:=by
 have e:(w.setBlk b o).heap[a.block]? = w.heap[a.block]?:=by simp [World.setBlk,Ne.symm a0]
 rw [World.cell?_of_block e];exact h
theorem aqV (l:List Ent) (k:Nat) (v:Value) (hk:(l.map (·.1)).Nodup) (j:Nat) (hj:l.findIdx? (·.1 == k)=some j) (f:MapEntry->MapEntry)
  (hf:∀ x:Ent,x.1=k->f (ent x)=ent (x.1,v,x.2.2)):(l.map ent).toArray.modify j f=((aqE l k v).map ent).toArray:=by
 apply Array.ext'
 apply List.ext_getElem?
 intro i
 rw [List.findIdx?_eq_some_iff_getElem] at hj
 obtain ⟨hlt,h1,h2⟩:=hj
 have h1:l[j].1=k:=by simpa using h1
 simp only [Array.getElem?_toList,Array.getElem?_modify,List.getElem?_toArray,aEZ,aqE]
 by_cases a0:j=i
 ·subst a0
  simp [aEG hlt,h1,hf _ h1]
 ·rw [if_neg a0]
  rcases Nat.lt_or_ge i l.length with hi|hi
  ·have a1:l[i].1≠k:=by
    intro e
    have h3:=(List.pairwise_iff_getElem.1 hk)
    rcases Nat.lt_or_gt_of_ne a0 with h4|h4
    ·exact h3 j i (by simpa using hlt) (by simpa using hi) h4 (by simp [e,h1])
    ·exact h3 i j (by simpa using hi) (by simpa using hlt) h4 (by simp [e,h1])
   simp [aEG hi,a1]
  ·simp [List.getElem?_eq_none hi]
theorem aiJ (hT:P.underlying T=some (.map K E)) (hK:P.underlying K=some (.int .i64)) (hb:Blk w m (mapO l clock)) (hk:(l.map (·.1)).Nodup)
  {u:Value} (hl:look l k=some u) (v:Value) :
  (Instr.mapUpdate T (.map (some m)) (I k) v).run P w=.ok () (w.setBlk m (mapO (aqE l k v) clock)):=by
 have hb:w.heap[m]? = some (.map (l.map ent).toArray clock):=hb
 have hf:=ae5 k l 0
 have a0:IsKey (.int .i64) (I (k:Int)):=by simp [IsKey]
 cases hi:l.findIdx? (·.1 == k) with
 | none=>
  rw [List.findIdx?_eq_none_iff] at hi
  have:look l k=none:=agU.2 (λ x hx=>by simpa using hi x hx)
  rw [hl] at this;cases this
 | some j=>
  rw [hi,hl] at hf
  have hj:(l.map ent).toArray[j]? = some (ent (l[j]'(by rw [List.findIdx?_eq_some_iff_getElem] at hi;exact hi.1))):=by
   have:=(List.findIdx?_eq_some_iff_getElem.1 hi).1
   simp [aEG this]
  have a2:(l[j]'(by rw [List.findIdx?_eq_some_iff_getElem] at hi;exact hi.1)).1=k:=by
   have:=(List.findIdx?_eq_some_iff_getElem.1 hi).2.1
   simpa using this
  have a1:=aqV l k v hk j hi (λ e=>{ e with key:=I k,val:=v }) (λ x hx=>by simp [ent,hx])
  simp only [Instr.mapUpdate,Sem.run_bind,run_underlying hT,Result.andThen,MapKept.run_getObj_map hb,MapKept.run_checkKey hK a0,MapKept.run_findKey hK hf,Option.map_some,Option.bind_some,Nat.zero_add]
  rw [hj]
  simp only [Option.map_some,Option.getD_some,ent,a2,MapKept.run_keyThatStays a0,MapKept.run_setObj_map _ hb]
  rw [a1]
  rfl
theorem aiK (hT:P.underlying T=some (.map K E)) (hK:P.underlying K=some (.int .i64)) (hb:Blk w m (mapO l clock)) (hl:look l k=none) (v:Value) :
  (Instr.mapUpdate T (.map (some m)) (I k) v).run P w=.ok () (w.setBlk m (mapO (l++[(k,v,clock)]) (clock+1))):=by
 have hb:w.heap[m]? = some (.map (l.map ent).toArray clock):=hb
 have hf:=ae5 k l 0
 have a0:IsKey (.int .i64) (I (k:Int)):=by simp [IsKey]
 have hi:(l.findIdx? (·.1 == k))=none:=by
  rw [List.findIdx?_eq_none_iff];intro x hx;simp;exact agU.1 hl x hx
 rw [hi] at hf
 simp [Instr.mapUpdate,run_underlying hT,MapKept.run_getObj_map hb,MapKept.run_checkKey hK a0,MapKept.run_findKey hK hf,MapKept.run_setObj_map _ hb,Result.andThen,World.setBlk,mapO,ent]
theorem ajB (hT:P.underlying T=some (.map K E)) (hb:Blk w m (mapO l clock)) (ty:TypeId) :
  (Builtin.clear_ #[T] ty #[.map (some m)]).run P w=.ok (.tuple #[]) (w.setBlk m (mapO [] clock)):=by
 have hb:w.heap[m]? = some (.map (l.map ent).toArray clock):=hb
 simp [Builtin.clear_,run_underlying hT,MapKept.run_getObj_map hb,MapKept.run_setObj_map _ hb,Result.andThen,World.setBlk,mapO]
end
def abD (l:List Ent) (seen:Array Nat):List Ent:=l.filter λ x=>!seen.contains x.2.2
def agE (m clock:Nat) (seen:Array Nat):Obj:=.mapIter (some m) clock seen clock
theorem agP {l:List Ent} {seen:Array Nat} {x:Ent} (hx:x∈abD l seen):(abD l (seen.push x.2.2)).length<(abD l seen).length:=by
 have e:abD l (seen.push x.2.2)=(abD l seen).filter λ y=>!(y.2.2 == x.2.2):=by
  simp only [abD,List.filter_filter]
  refine List.filter_congr λ y _=>?_
  rw [Bool.eq_iff_iff]
  simp
  exact And.comm
 rw [e]
 have a0:=List.length_filter_le (λ y:Ent=>!(y.2.2 == x.2.2)) (abD l seen)
 rcases Nat.lt_or_eq_of_le a0 with h|h
 ·exact h
 ·rw [List.length_filter_eq_length_iff] at h
  have:=h x hx
  simp at this
def adT (l:List Ent) (r:Nat) (w:World):Nat:=match w.heap[r]? with|some (.mapIter _ _ seen _)=>(abD l seen).length|_=>0
theorem ac3 {l:List Ent} {r m clock:Nat} {w:World} {seen:Array Nat} (h:Blk w r (agE m clock seen)):adT l r w=(abD l seen).length:=by
 unfold Blk agE at h
 simp [adT,h]
theorem acE {l:List Ent} {seen:Array Nat} {x:Ent} (h:x∈abD l seen):x∈l/\x.2.2∉seen:=by
 simpa [abD] using h
section
variable {P:Program} {w:World} {T K E:TypeId} {m clock r:Nat} {l:List Ent} {ops:Array Oper} {rest:List Oper} {o:Oper} {a:Act} {Q:Exit->Act->World->Prop}
theorem ahN (hT:P.underlying T=some (.map K E)) (hb:Blk w m (mapO l clock)) :
  (Instr.range T (.map (some m))).run P w=.ok ↑w.heap.size (w.alloc (agE m clock #[])):=by
 have hb:w.heap[m]? = some (.map (l.map ent).toArray clock):=hb
 simp [Instr.range,run_underlying hT,MapKept.run_getObj_map hb,Result.andThen,agE]
theorem ae3 (hg:o.guard=none) (it:Operand) (a3:o.op=Op.next it false) (r m clock:Nat) (l:List Ent) (seen:Array Nat) (a4:a.eval it=↑r)
  (hr:Blk w r (agE m clock seen)) (hb:Blk w m (mapO l clock)) (hc:∀ x∈l,x.2.2<clock)
  (a1:abD l seen=[]->wpList P ops Q rest (a.put o.dst (.tuple #[↑false])) w)
  (a2:∀ x:Ent,x∈abD l seen->∀ w':World,Blk w' r (agE m clock (seen.push x.2.2))->AaA (· = r) w w'->w'.heap.size=w.heap.size ->
   wpList P ops Q rest (a.put o.dst (.tuple #[↑true,I x.1,x.2.1])) w'):wpList P ops Q (o :: rest) a w:=by
 refine wpList_plain hg λ K' hK'=>?_
 have hb':w.heap[m]? = some (.map (l.map ent).toArray clock):=hb
 have hr':w.heap[r]? = some (.mapIter (some m) clock seen clock):=hr
 unfold Oper.wp
 have hL:(leftOf (l.map ent).toArray seen).toList=(abD l seen).map ent:=by
  simp only [leftOf,abD,List.filter_toArray,List.filter_map]
  congr 1
 rcases run_next_at (P:=P) w o.type r m clock clock seen _ clock hr' hb' (by intro x hx;simp at hx;obtain ⟨k,v,b,hy,rfl⟩:=hx;exact hc _ hy) (aEK _) with ⟨h0,a0⟩|⟨e,he,w1,a5,a0⟩
 ·simp [execOp,a3,a4,a0,Result.andThen]
  refine hK' _ _ (a1 ?_)
  have:=congrArg List.length hL
  simp [h0] at this
  exact List.eq_nil_of_length_eq_zero this.symm
 ·rw [hL] at he
  obtain ⟨x,hx,rfl⟩:=List.mem_map.1 he
  simp [execOp,a3,a4,a0,Result.andThen]
  have hlt:r<w.heap.size:=hr.lt
  have hw:w1.heap=w.heap:=by rcases a5 with rfl|rfl<;>rfl
  refine hK' _ _ (a2 x hx _ ?_ ?_ ?_)
  ·show (w1.heap.setIfInBounds r _)[r]? = _
   rw [hw];simp [hlt,agE,ent]
  ·rcases a5 with rfl|rfl
   ·exact abM _ _ _
   ·exact (AaA.refl _ _).drew.trans (abM w.drew r _) (λ _ _ h=>h)
  ·show (w1.heap.setIfInBounds r _).size=_
   rw [hw];simp
theorem agO {x:Ent} {seen:Array Nat} (hr:Blk w r (agE m clock (seen.push x.2.2))) (hb:Blk w m (mapO l clock)) (hx:x∈l) (hn:(l.map (·.2.2)).Nodup) :
  (Instr.entry ↑r).run P w=.ok (.tuple #[I x.1,x.2.1]) w:=by
 have hb':w.heap[m]? = some (.map (l.map ent).toArray clock):=hb
 have hr':w.heap[r]? = some (.mapIter (some m) clock (seen.push (ent x).born) clock):=hr
 exact run_entry_at w r m clock seen _ clock (ent x) hr' hb' (by simp;exact ⟨_,_,_,hx,rfl⟩) (by simpa [Function.comp_def,ent] using hn)
end
end Go.Vk
namespace Go.Vk
open Go.RowKit
theorem abL (bs:List UInt8):(bs.map B).length=bs.length:=by simp
theorem Ap3 (bs:List UInt8):∀ v∈bs.map B,v.oneCell'=true:=by
 intro v hv
 obtain ⟨x,_,rfl⟩:=List.mem_map.1 hv
 rfl
theorem adU {w:World} {b:Nat} {bs:List UInt8} (h:Blk w b (aaE bs)) (i:Nat) (hi:i<bs.length):w.cell? ⟨b,i,none⟩=some (B bs[i]):=by
 have:=h.cell i
 simpa [aEG hi] using this
def aaD (n:Nat):List UInt8:=List.replicate n 0
theorem aaF (n:Nat):(aaD n).length=n:=by simp [aaD]
theorem auN {P:Program} {t e:TypeId} {i:TypeInfo} (ht:P.underlying t=some (.slice e)) (he:e=5) (hi:P.info? e=some i) (hz:i.zero=some (.int .u8 0)) (hs:i.size=1) (hb:i.bytes=1)
  (n:Nat) (hn:n<=281474976710656) (w:World) :
  (Instr.makeSlice t (I n) (I n)).run P w=.ok (.slice ↑w.heap.size n n) (w.alloc (aaE (aaD n))):=by
 have h:=run_make (P:=P) w t e i _ ht hi hz .i64 .i64 n n (by omega) (by omega) (by rw [hb];omega) (by omega)
 rw [h]
 subst he
 have e1:madeCells (Value.int .u8 0).cells ((n:Int).toNat*i.size)=((aaD n).map B).toArray:=by
  rw [hs]
  apply Array.ext'
  apply List.ext_getElem
  ·simp [madeCells,aaD]
  ·intro j h1 h2
   have e0:j % 1=0:=Nat.mod_one j
   simp [madeCells,aaD,Value.cells,B,e0]
 rw [e1]
 simp [aaE]
def lay (cur:List UInt8) (off:Nat) (src:List UInt8):List UInt8:=cur.take off++(src++cur.drop (off+src.length))
theorem ab6 {cur:List UInt8} {off:Nat} {src:List UInt8} (h:off+src.length<=cur.length):(lay cur off src).length=cur.length:=by
 simp [lay];omega
theorem al6 {cur src:List UInt8} (h:src.length=cur.length):lay cur 0 src=src:=by simp [lay,h]
section
variable {P:Program} {w:World} {ops:Array Oper} {rest:List Oper} {o:Oper} {a:Act} {Q:Exit->Act->World->Prop}
theorem akV (a0:o.guard=none) (x:Operand) (ho:o.op=.move x) (h:wpList P ops Q rest (a.put o.dst (a.eval x)) w):wpList P ops Q (o :: rest) a w:=by
 refine wpList_plain a0 λ K hK=>?_
 unfold Oper.wp
 simp [execOp,ho]
 exact hK _ _ h
theorem akW (a1:o.guard=none) (d s:Operand) (dT sT:TypeId)
  (ho:o.op=.call { callee:=.builtin .copy,args:=#[d,s],argTypes:=#[dT,sT] }) (elem:TypeId) (hu:P.underlying dT=some (.slice elem)) (hsz:(P.info? elem).map (·.size)=some 1)
  (g off dLen dCap g2 off2 sLen sCap:Nat) (hd:a.eval d=.slice (some ⟨g,off,none⟩) dLen dCap) (hs:a.eval s=.slice (some ⟨g2,off2,none⟩) sLen sCap)
  (cur src:List UInt8) (hg:Blk w g (aaE cur)) (a2:Blk w g2 (aaE src)) (a3:off+dLen<=cur.length) (a0:off2+sLen<=src.length)
  (h:∀ w',Blk w' g (aaE (lay cur off ((src.drop off2).take (Nat.min sLen dLen))))->AaA (· = g) w w'->w'.heap.size=w.heap.size->wpList P ops Q rest (a.put o.dst (goInt (Nat.min sLen dLen:Nat))) w') :
  wpList P ops Q (o :: rest) a w:=by
 have hn:((src.drop off2).take (Nat.min sLen dLen)).length=Nat.min sLen dLen:=by
  simp only [aEM,aET]
  have:Nat.min sLen dLen<=sLen:=Nat.min_le_left _ _
  omega
 have hm:Nat.min sLen dLen<=dLen:=Nat.min_le_right _ _
 have hk:((src.drop off2).take (Nat.min sLen dLen)).map B=(((src.map B).drop off2).take (Nat.min sLen dLen)):=by simp [List.map_take,List.map_drop]
 refine wpList_copy_own a1 d s dT sT ho elem hu hsz g off dLen dCap ⟨g2,off2,none⟩ sLen sCap hd hs (cur.map B).toArray _ hg (((src.drop off2).take (Nat.min sLen dLen)).map B) (by rw [abL,hn]) ?_ ?_ (Ap3 _) ?_
 ·intro j v hj
  have a4:j<Nat.min sLen dLen:=by
   have:=(List.getElem?_eq_some_iff.1 hj).1
   rwa [abL,hn] at this
  have a6:Nat.min sLen dLen<=sLen:=Nat.min_le_left _ _
  rw [Addr.add_lit,a2.cell]
  rw [hk] at hj
  simp only [List.getElem?_take,List.getElem?_drop,a4,if_true] at hj
  simpa using hj
 ·simp only [abL,hn,List.size_toArray];omega
 ·have e1:(((src.drop off2).take (Nat.min sLen dLen)).map B).length=Nat.min sLen dLen:=by rw [abL,hn]
  rw [e1]
  refine h _ ?_ ?_ ?_
  ·have:=setRow_heap w g (cur.map B).toArray ((cur.map B).toArray.toList.take off++((((src.drop off2).take (Nat.min sLen dLen)).map B)++(cur.map B).toArray.toList.drop (off+Nat.min sLen dLen))).toArray _ (0,0) hg
   unfold Blk
   rw [this]
   simp [aaE,lay,List.map_take,List.map_drop,hn]
  ·exact ⟨rfl,rfl,rfl,by simp [World.setRow],λ k _ a5=>setRow_other w g k _ a5⟩
  ·simp [World.setRow]
end
end Go.Vk
namespace Go.Vk
def secs (n:Nat) (f:Nat->List UInt8):List UInt8:=(List.range n).flatMap f
theorem ahM (n:Nat) (f:Nat->List UInt8):secs (n+1) f=secs n f++f n:=by simp [secs,List.range_succ]
theorem agN {n:Nat} {f g:Nat->List UInt8} (h:∀ k,k<n->f k=g k):secs n f=secs n g:=by
 unfold secs
 rw [List.flatMap_def,List.flatMap_def,List.map_congr_left (λ k hk=>h k (List.mem_range.1 hk))]
theorem aeX {n:Nat} {f:Nat->List UInt8} (h:∀ k,k<n->(f k).length=512):(secs n f).length=512*n:=by
 induction n with
 | zero=>simp [secs]
 | succ n ih=>rw [ahM,aEH,ih (λ k hk=>h k (by omega)),h n (by omega)];omega
theorem av3 {n:Nat} {f:Nat->List UInt8} (h:∀ k,k<n->(f k).length=512) {k:Nat} (hk:k<n):((secs n f).drop (512*k)).take 512=f k:=by
 induction n with
 | zero=>omega
 | succ n ih=>
  have hl:=aeX (n:=n) (f:=f) (λ k hk=>h k (by omega))
  rw [ahM]
  by_cases e:k=n
  ·subst e
   rw [← hl,List.drop_left,← h k (by omega),List.take_length]
  ·rw [List.drop_append_of_le_length (by omega),List.take_append_of_le_length (by rw [aET];omega)]
   exact ih (λ k hk=>h k (by omega)) (by omega)
theorem aAP {n:Nat} {l:List UInt8} (h:l.length=512*n):secs n (λ k=>(l.drop (512*k)).take 512)=l:=by
 induction n generalizing l with
 | zero=>simp [secs];exact List.eq_nil_of_length_eq_zero (by simpa using h)
 | succ n ih=>
  rw [ahM]
  have h1:secs n (λ k=>(l.drop (512*k)).take 512)=l.take (512*n):=by
   rw [← ih (l:=l.take (512*n)) (by rw [aEM];omega)]
   refine agN λ k hk=>?_
   rw [List.drop_take,List.take_take]
   congr 1
   omega
  rw [h1]
  have h2:(l.drop (512*n)).take 512=l.drop (512*n):=aEO (by rw [aET];omega)
  rw [h2,List.take_append_drop]
theorem ayL {n:Nat} {f:Nat->List UInt8} (h:∀ k,k<n->(f k).length=512) {k:Nat} (hk:k<n) {b:List UInt8} (hb:b.length=512) :
  lay (secs n f) (512*k) b=secs n (λ j=>if j=k then b else f j):=by
 induction n with
 | zero=>omega
 | succ n ih=>
  have hl:=aeX (n:=n) (f:=f) (λ k hk=>h k (by omega))
  rw [ahM,ahM]
  by_cases e:k=n
  ·subst e
   have h1:secs k (λ j=>if j=k then b else f j)=secs k f:=agN λ j hj=>by rw [if_neg (by omega)]
   rw [h1,if_pos rfl]
   unfold lay
   rw [← hl,List.take_left,List.drop_of_length_le (by rw [aEH,hb,h k (by omega)];omega),aE3]
  ·rw [if_neg (by omega),← ih (λ k hk=>h k (by omega)) (by omega)]
   unfold lay
   rw [List.take_append_of_le_length (by omega),List.drop_append_of_le_length (by omega)]
   simp
end Go.Vk
namespace Go.Vk
open Go.RowKit
structure DM where
 dur:List UInt8
 pend:Nat->List (List UInt8)
 fused:Bool
 left:Int
 life:Int
 reads:Int
 writes:Nat
 flushes:Int
 refused:Int
 pending:Int
def DM.n (D:DM):Nat:=D.dur.length / 512
def DM.home (D:DM) (k:Nat):List UInt8:=(D.dur.drop (512*k)).take 512
def DM.now (D:DM) (k:Nat):List UInt8:=(D.pend k).getLast?.getD (D.home k)
def DM.spent (D:DM):DM:=if D.fused then { D with left:=D.left - 1 } else D
def DM.wrote (D:DM) (k:Nat) (bs:List UInt8):DM:=
 { D with pend:=λ j=>if j=k then D.pend k++[bs] else D.pend j,writes:=D.writes+1,pending:=wrap64 (D.pending+1) }
def DM.settled (D:DM):DM:={ D with pend:=λ _=>[],pending:=0 }
def DM.flushed (D:DM):DM:=({ D with dur:=secs D.n D.now,pend:=λ _=>[],pending:=0,flushes:=wrap64 (D.flushes+1) }).spent
def DM.readed (D:DM):DM:={ D with reads:=wrap64 (D.reads+1) }
def DM.took (D:DM):DM:={ D with life:=wrap64 (D.life+1) }
def DM.burnt (D:DM):Bool:=D.fused && (D.left == 0)
structure PEnt where
 key:Nat
 born:Nat
 arr:Nat
 cap:Nat
 secs:List (Nat × List UInt8)
def secV (s:Nat × List UInt8):Value:=.slice ↑s.1 512 512
def PEnt.val (p:PEnt):Value:=.slice ↑p.arr p.secs.length p.cap
def PEnt.ent (p:PEnt):Ent:=(p.key,p.val,p.born)
def PEnt.foot (p:PEnt):List Nat:=p.arr :: p.secs.map (·.1)
def PEnt.ok (w:World) (p:PEnt):Prop:=
 p.secs≠[]/\w.ownsRow 0 40 1 p.val p.secs.length (p.secs.map secV)/\∀ s∈p.secs,s.2.length=512/\Blk w s.1 (aaE s.2)
def alU (ps:List PEnt) (k:Nat):List (List UInt8):=((ps.find? (·.key == k)).map (λ p=>p.secs.map (·.2))).getD []
def agV (dur n m:Nat) (D:DM):Obj:=
 .cells #[.slice ↑dur n n,.map (some m),.bool D.fused,I D.left,I D.life,I D.reads,I D.writes,I D.flushes,I D.refused,I D.pending] 182 (0,0)
structure Aa7 (w:World) (d:Nat) (D:DM) (dur m:Nat) (ps:List PEnt) (clock:Nat):Prop where
 hd:Blk w d (agV dur D.dur.length m D)
 hdur:Blk w dur (aaE D.dur)
 hm:Blk w m (mapO (ps.map PEnt.ent) clock)
 hp:∀ p∈ps,p.ok w
 hk:(ps.map (·.key)).Nodup
 hb:(ps.map (·.born)).Nodup
 hc:∀ p∈ps,p.born<clock
 hn:∀ p∈ps,p.key<D.n
 hlen:D.dur.length=512*D.n
 hmax:D.n<=2048
 hpos:1<=D.n
 hpend:D.pend=alU ps
 hpw:∀ p∈ps,p.secs.length<=D.writes
 hleft:0<=D.left/\D.left<=9223372036854775807
def aaQ (d dur m:Nat) (ps:List PEnt):List Nat:=d :: dur :: m :: ps.flatMap PEnt.foot
def AaI (w:World) (d:Nat) (D:DM) (F:List Nat):Prop:=
 ∃ dur m ps clock,Aa7 w d D dur m ps clock/\F=aaQ d dur m ps/\F.Nodup
theorem aiT {w w':World} {e:TypeId} {size:Nat} {v:Value} {n:Nat} {xs:List Value} (h:w.ownsRow 0 e size v n xs)
  (hk:∀ g,v.ownBlock=some g->w'.heap[g]? = w.heap[g]?):w'.ownsRow 0 e size v n xs:=by
 obtain ⟨h1,h2⟩:=h
 refine ⟨h1,?_⟩
 rcases h2 with h2|⟨g,cap,cur,hv,hg,hh,r⟩
 ·exact .inl h2
 ·exact .inr ⟨g,cap,cur,hv,hg,by rw [hk g (by rw [hv];rfl)];exact hh,r⟩
theorem PEnt.ok.keep {w w':World} {p:PEnt} (h:p.ok w) (hk:∀ k∈p.foot,w'.heap[k]? = w.heap[k]?):p.ok w':=by
 obtain ⟨h1,h2,h3⟩:=h
 refine ⟨h1,aiT h2 (λ g hg=>hk g ?_),λ s hs=>⟨(h3 s hs).1,?_⟩⟩
 ·simp [PEnt.val,Value.ownBlock] at hg;simp [PEnt.foot,hg]
 ·have:=(h3 s hs).2
  unfold Blk at *
  rw [hk s.1 (by simp [PEnt.foot];exact .inr ⟨_,hs⟩)];exact this
section
variable {w:World} {d:Nat} {D:DM} {dur m:Nat} {ps:List PEnt} {clock:Nat}
theorem Aa7.c0 (h:Aa7 w d D dur m ps clock):w.cell? ↑d=some (.slice ↑dur D.dur.length D.dur.length):=by simpa [agV] using h.hd.cell 0
theorem Aa7.c1 (h:Aa7 w d D dur m ps clock):w.cell? ⟨d,1,none⟩=some (.map (some m)):=by simpa [agV] using h.hd.cell 1
theorem Aa7.c2 (h:Aa7 w d D dur m ps clock):w.cell? ⟨d,2,none⟩=some (.bool D.fused):=by simpa [agV] using h.hd.cell 2
theorem Aa7.c3 (h:Aa7 w d D dur m ps clock):w.cell? ⟨d,3,none⟩=some (I D.left):=by simpa [agV] using h.hd.cell 3
theorem Aa7.c4 (h:Aa7 w d D dur m ps clock):w.cell? ⟨d,4,none⟩=some (I D.life):=by simpa [agV] using h.hd.cell 4
theorem Aa7.c5 (h:Aa7 w d D dur m ps clock):w.cell? ⟨d,5,none⟩=some (I D.reads):=by simpa [agV] using h.hd.cell 5
theorem Aa7.c7 (h:Aa7 w d D dur m ps clock):w.cell? ⟨d,7,none⟩=some (I D.flushes):=by simpa [agV] using h.hd.cell 7
theorem Aa7.c9 (h:Aa7 w d D dur m ps clock):w.cell? ⟨d,9,none⟩=some (I D.pending):=by simpa [agV] using h.hd.cell 9
theorem Aa7.fz (h:Aa7 w d D dur m ps clock) (i:Nat):w.frozen? ⟨d,i,none⟩=false:=h.hd.frz i
theorem Aa7.keep {w':World} (h:Aa7 w d D dur m ps clock) (hk:∀ k∈aaQ d dur m ps,w'.heap[k]? = w.heap[k]?):Aa7 w' d D dur m ps clock:=by
 refine { h with hd:=?_,hdur:=?_,hm:=?_,hp:=?_ }
 ·have:=h.hd;unfold Blk at *;rw [hk d (by simp [aaQ])];exact this
 ·have:=h.hdur;unfold Blk at *;rw [hk dur (by simp [aaQ])];exact this
 ·have:=h.hm;unfold Blk at *;rw [hk m (by simp [aaQ])];exact this
 ·exact λ p hp=>(h.hp p hp).keep (λ k a0=>hk k (by simp [aaQ];exact .inr (.inr (.inr ⟨p,hp,a0⟩))))
theorem Aa7.alloc (h:Aa7 w d D dur m ps clock) (hl:∀ k∈aaQ d dur m ps,k<w.heap.size) (o:Obj):Aa7 (w.alloc o) d D dur m ps clock:=
 h.keep λ k hk=>by
  have:=hl k hk
  show (w.heap.push o)[k]? = _
  rw [Array.getElem?_push,if_neg (by omega)]
theorem Aa7.lt (h:Aa7 w d D dur m ps clock):∀ k∈aaQ d dur m ps,k<w.heap.size:=by
 intro k hk
 simp only [aaQ,List.mem_cons,List.mem_flatMap] at hk
 rcases hk with rfl|rfl|rfl|⟨p,hp,hk⟩
 ·exact h.hd.lt
 ·exact h.hdur.lt
 ·exact h.hm.lt
 ·obtain ⟨_,h2,h3⟩:=h.hp p hp
  simp only [PEnt.foot,List.mem_cons,List.mem_map] at hk
  rcases hk with rfl|⟨s,hs,rfl⟩
  ·exact (h2.lt p.arr rfl).2
  ·exact (h3 s hs).2.lt
theorem Aa7.set {D':DM} (h:Aa7 w d D dur m ps clock) (hF:(aaQ d dur m ps).Nodup) (i:Nat) (v:Value)
  (hO:Blk (w.setCell ⟨d,i,none⟩ v) d (agV dur D'.dur.length m D')) (h1:D'.dur=D.dur) (h2:D'.pend=D.pend) (hw:D.writes<=D'.writes) (h3:0<=D'.left/\D'.left<=9223372036854775807) :
  Aa7 (w.setCell ⟨d,i,none⟩ v) d D' dur m ps clock:=by
 have hn:D'.n=D.n:=by simp [DM.n,h1]
 have hF':=(List.nodup_cons.1 hF).1
 have a0:∀ k∈(dur :: m :: ps.flatMap PEnt.foot),k≠d:=λ k hk e=>hF' (e ▸ hk)
 have hs:∀ k,k≠d->(w.setCell ⟨d,i,none⟩ v).heap[k]? = w.heap[k]?:=λ k hk=>by
  simp only [World.setCell,Array.getElem?_modify]
  rw [if_neg (by omega)]
 refine ⟨hO,?_,?_,?_,h.hk,h.hb,h.hc,?_,?_,?_,?_,?_,λ p hp=>aE4 (h.hpw p hp) hw,h3⟩
 ·rw [h1];exact h.hdur.setCell_ne (a0 dur (by simp)) v
 ·exact h.hm.setCell_ne (a0 m (by simp)) v
 ·exact λ p hp=>(h.hp p hp).keep (λ k hk=>hs k (a0 k (by simp;exact .inr (.inr ⟨p,hp,hk⟩))))
 ·rw [hn];exact h.hn
 ·rw [hn,h1];exact h.hlen
 ·rw [hn];exact h.hmax
 ·rw [hn];exact h.hpos
 ·rw [h2];exact h.hpend
end
theorem AaI.keep {w w':World} {d:Nat} {D:DM} {F:List Nat} (h:AaI w d D F) (hk:∀ k∈F,w'.heap[k]? = w.heap[k]?):AaI w' d D F:=by
 obtain ⟨dur,m,ps,clock,h1,rfl,h3⟩:=h
 exact ⟨dur,m,ps,clock,h1.keep hk,rfl,h3⟩
theorem AaI.lt {w:World} {d:Nat} {D:DM} {F:List Nat} (h:AaI w d D F):∀ k∈F,k<w.heap.size:=by
 obtain ⟨dur,m,ps,clock,h1,rfl,h3⟩:=h
 exact h1.lt
theorem AaI.keeps {w w':World} {d:Nat} {D:DM} {F:List Nat} {G:Nat->Prop} (h:AaI w d D F) (k:AaA G w w') (hG:∀ i∈F,¬ G i):AaI w' d D F:=
 h.keep λ i hi=>k.block i (h.lt i hi) (hG i hi)
def nowV (dur:Nat) (n:Nat) (ps:List PEnt) (k:Nat):Value:=
 match ps.find? (·.key == k) with
 | some p=>((p.secs.map secV).getLast?).getD (.slice none 0 0)
 | none=>.slice (some ⟨dur,512*k,none⟩) 512 (n - 512*k)
theorem Aa7.nowB {w:World} {d:Nat} {D:DM} {dur m:Nat} {ps:List PEnt} {clock:Nat} (h:Aa7 w d D dur m ps clock) (k:Nat) (hk:k<D.n) :
  ∃ g off c src,nowV dur D.dur.length ps k=.slice (some ⟨g,off,none⟩) 512 c/\Blk w g (aaE src)/\off+512<=src.length/\(src.drop off).take 512=D.now k/\g∈aaQ d dur m ps:=by
 unfold nowV DM.now
 rw [h.hpend]
 unfold alU
 cases hf:ps.find? (·.key == k) with
 | none=>
  have:=h.hlen
  exact ⟨dur,512*k,_,D.dur,rfl,h.hdur,by omega,rfl,by simp [aaQ]⟩
 | some p=>
  have hp:=aEN hf
  obtain ⟨p1,p2,p3⟩:=h.hp p hp
  have hs:p.secs.getLast p1∈p.secs:=List.getLast_mem p1
  refine ⟨(p.secs.getLast p1).1,0,512,(p.secs.getLast p1).2,?_,(p3 _ hs).2,by rw [(p3 _ hs).1];omega,?_,?_⟩
  ·show (p.secs.map secV).getLast?.getD (Value.slice none 0 0)=_
   rw [List.getLast?_map,List.getLast?_eq_some_getLast p1];rfl
  ·simp only [Option.map_some,Option.getD_some]
   rw [List.getLast?_map,List.getLast?_eq_some_getLast p1]
   simp only [Option.map_some,Option.getD_some,aER]
   rw [← (p3 _ hs).1,List.take_length]
  ·simp only [aaQ,List.mem_cons,List.mem_flatMap]
   exact .inr (.inr (.inr ⟨p,hp,by simp [PEnt.foot];exact .inr ⟨_,hs⟩⟩))
theorem DM.now_length {w:World} {d:Nat} {D:DM} {dur m:Nat} {ps:List PEnt} {clock:Nat} (h:Aa7 w d D dur m ps clock) (k:Nat) (hk:k<D.n):(D.now k).length=512:=by
 obtain ⟨g,off,c,src,_,_,h3,h4,_⟩:=h.nowB k hk
 rw [← h4,aEM,aET];omega
def AeN (w:World) (d:Nat) (F:List Nat) (D':DM) (w':World):Prop:=
 ∃ F',AaI w' d D' F'/\AaA (· ∈ F) w w'/\∀ k∈F',k∈F∨w.heap.size<=k
theorem AeN.refl {w:World} {d:Nat} {D:DM} {F:List Nat} (h:AaI w d D F):AeN w d F D w:=⟨F,h,.refl _ _,λ _ hk=>.inl hk⟩
end Go.Vk
