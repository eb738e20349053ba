/- Part of the proof: Np1 Np2 Rm1. -/
import Derived.Test.YtjeelghnmkefcaaGreatQ24
set_option linter.unusedVariables false
set_option maxHeartbeats 16000000
set_option maxRecDepth 100000
namespace Go.Vk
def acD (bs:List UInt8) (j:Nat):List UInt8:=(bs.drop (128*j)).take 128
def nblk (k:Nat):Nat:=2+(k - 1) / 4
def nix (k:Nat):Nat:=(k - 1) % 4
theorem agS (k:Nat):nix k<4:=Nat.mod_lt _ (by decide)
theorem ahL {bs:List UInt8} (h:bs.length=512) {j:Nat} (hj:j<4):(acD bs j).length=128:=by
 unfold acD;rw [aEM,aET,h];omega
theorem akH {bs b:List UInt8} (h:bs.length=512) (hb:b.length=128) {j:Nat} (hj:j<4):(lay bs (128*j) b).length=512:=by
 rw [ab6 (by omega),h]
theorem agY {bs b:List UInt8} (h:bs.length=512) (hb:b.length=128) {j:Nat} (hj:j<4):acD (lay bs (128*j) b) j=b:=by
 unfold acD lay
 rw [List.drop_left' (by rw [aEM];omega),aE0 hb]
theorem aBR {bs b:List UInt8} {at_:Nat} (h:at_+b.length<=bs.length) (p:Nat):(lay bs at_ b)[p]? = if p<at_ then bs[p]? else if p<at_+b.length then b[p - at_]? else bs[p]?:=by
 unfold lay
 have l1:(bs.take at_).length=at_:=by rw [aEM];omega
 by_cases h1:p<at_
 ·rw [if_pos h1,List.getElem?_append_left (by omega),List.getElem?_take_of_lt h1]
 ·rw [if_neg h1,List.getElem?_append_right (by omega),l1]
  by_cases h2:p<at_+b.length
  ·rw [if_pos h2,List.getElem?_append_left (by omega)]
  ·rw [if_neg h2,List.getElem?_append_right (by omega),List.getElem?_drop]
   congr 1;omega
theorem ai7 (bs:List UInt8) (j q:Nat) (hq:q<128):(acD bs j)[q]? = bs[128*j+q]?:=by
 unfold acD
 rw [List.getElem?_take_of_lt hq,List.getElem?_drop]
theorem auI {a b:List UInt8} {i j:Nat} (ha:(acD a i).length=128) (hb:(acD b j).length=128) (h:∀ q,q<128->a[128*i+q]? = b[128*j+q]?):acD a i=acD b j:=by
 apply List.ext_getElem?
 intro q
 by_cases hq:q<128
 ·rw [ai7 _ _ _ hq,ai7 _ _ _ hq];exact h q hq
 ·rw [List.getElem?_eq_none (by omega),List.getElem?_eq_none (by omega)]
theorem alL {bs b:List UInt8} (h:bs.length=512) (hb:b.length=128) {i j:Nat} (hi:i<4) (hj:j<4) (a0:i≠j):acD (lay bs (128*j) b) i=acD bs i:=by
 refine auI (ahL (akH h hb hj) hi) (ahL h hi) λ q hq=>?_
 rw [aBR (by omega)]
 by_cases h1:128*i+q<128*j
 ·rw [if_pos h1]
 ·rw [if_neg h1,if_neg (by omega)]
theorem aDY {a b:List UInt8} (ha:a.length=512) (hb:b.length=512) (h:∀ j,j<4->acD a j=acD b j):a=b:=by
 apply List.ext_getElem?
 intro p
 by_cases hp:p<512
 ·have:=h (p / 128) (by omega)
  have e:128*(p / 128)+p % 128=p:=by omega
  have h1:=ai7 a (p / 128) (p % 128) (by omega)
  have h2:=ai7 b (p / 128) (p % 128) (by omega)
  rw [e] at h1 h2
  rw [← h1,← h2,this]
 ·rw [List.getElem?_eq_none (by omega),List.getElem?_eq_none (by omega)]
theorem ayK {bs b:List UInt8} (h:bs.length=512) (hb:b.length=128) {j:Nat} (hj:j<4):lay bs (128*j) b=bs↔acD bs j=b:=by
 constructor
 ·intro e;rw [← agY h hb hj,e]
 ·intro e
  refine aDY (akH h hb hj) h λ i hi=>?_
  by_cases x:i=j
  ·subst x;rw [agY h hb hj,e]
  ·exact alL h hb hi hj x
theorem ay2 {bs:List UInt8} (h:bs.length=512):acD bs 0++(acD bs 1++(acD bs 2++acD bs 3))=bs:=by
 unfold acD
 have e3:(bs.drop (128*3)).take 128=bs.drop (128*3):=aEO (by rw [aET];omega)
 rw [e3]
 have d:∀ k,bs.drop (128*(k+1))=(bs.drop (128*k)).drop 128:=λ k=>by rw [List.drop_drop];congr 1
 rw [d 2,List.take_append_drop,d 1,List.take_append_drop,d 0,List.take_append_drop]
 rfl
def rdN (bs:List UInt8):Nat × Nd:=if AcM bs then (if (decN bs).kind=0 then (70,Nd.zero) else (0,decN bs)) else (6,Nd.zero)
theorem ac7 (bs:List UInt8):(AcM bs/\(decN bs).kind=0/\rdN bs=(70,Nd.zero))∨(AcM bs/\(decN bs).kind≠0/\rdN bs=(0,decN bs))∨(¬ AcM bs/\rdN bs=(6,Nd.zero)):=by
 unfold rdN
 by_cases h:AcM bs
 ·rw [if_pos h]
  by_cases k:(decN bs).kind=0
  ·rw [if_pos k];exact .inl ⟨h,k,rfl⟩
  ·rw [if_neg k];exact .inr (.inl ⟨h,k,rfl⟩)
 ·rw [if_neg h];exact .inr (.inr ⟨h,rfl⟩)
def acY (kind parent:Int):Nd:=⟨kind,if kind=2 then 2 else 0,parent,0,0,List.replicate 12 0⟩
def argE (nodes:Nat) (kind parent:Int):Nat:=if kind=2 then (if parent<1∨(nodes:Int)<parent then 11 else 0) else if kind=1∨kind=3 then (if parent=0 then 0 else 1) else 1
theorem ao9 {nodes:Nat} (hn:nodes<=1024) {kind parent:Int} (h:argE nodes kind parent=0):NdIn (acY kind parent):=by
 unfold argE at h
 have hq:∀ x∈List.replicate 12 (0:Int),0<=x/\x<=2047:=λ x hx=>by rw [(List.mem_replicate.1 hx).2];omega
 by_cases h2:kind=2
 ·rw [if_pos h2] at h
  have hp:¬ (parent<1∨(nodes:Int)<parent):=λ x=>by rw [if_pos x] at h;cases h
  exact ⟨by simp [acY,h2],by simp [acY,h2],by simp [acY],by simp [acY],λ _=>by simp only [acY];omega,λ x=>absurd h2 x,hq⟩
 ·rw [if_neg h2] at h
  have hk:kind=1∨kind=3:=aE7 λ x=>by rw [if_neg x] at h;cases h
  rw [if_pos hk] at h
  have hp:parent=0:=aE7 λ x=>by rw [if_neg x] at h;cases h
  exact ⟨by simp only [acY];omega,by simp [acY,h2],by simp [acY],by simp [acY],λ x=>absurd x h2,λ _=>hp,hq⟩
theorem ahT (kind parent:Int):(acY kind parent).ptr.length=12:=aEW
def TS.slot (T:TS) (k:Nat):List UInt8:=acD (T.raw (nblk k)) (nix k)
def TS.laySl (T:TS) (k:Nat) (b:List UInt8):Nat × TS:=T.puts (nblk k) (Go.Vk.lay (T.raw (nblk k)) (128*nix k) b)
def TS.thrown (T:TS) (c:Nat):TS:=if c=6 then (T.spoilN 6).2 else T
def TS.ranged (T:TS) (G:Geom) (k:Int):Nat:=if T.st=0 then (if k<1∨(G.n:Int)<k then 11 else 0) else T.st
def TS.load (T:TS) (G:Geom) (k:Int):(Nd × Nat) × TS:=
 if T.ranged G k=0 then (((rdN (T.slot k.toNat)).2,(rdN (T.slot k.toNat)).1),T.thrown (rdN (T.slot k.toNat)).1) else ((Nd.zero,T.ranged G k),T)
def TS.save (T:TS) (G:Geom) (k:Int) (n:Nd):Nat × TS:=
 if T.ranged G k=0 then
  (if Ac4 n/\n.kind≠0 then
   (if (rdN (T.slot k.toNat)).1=0 then (if (rdN (T.slot k.toNat)).2.kind=n.kind then T.laySl k.toNat (encN n) else (1,T)) else ((rdN (T.slot k.toNat)).1,T.thrown (rdN (T.slot k.toNat)).1))
   else (20,T))
 else (T.ranged G k,T)
def TS.free (T:TS) (G:Geom) (k:Int):Nat × TS:=
 if T.ranged G k=0 then
  (if (rdN (T.slot k.toNat)).1=0 then
   (if (rdN (T.slot k.toNat)).2.owned=0 then (if (T.drop G true k).1=0 then (T.drop G true k).2.laySl k.toNat (aaD 128) else T.drop G true k) else (71,T))
   else ((rdN (T.slot k.toNat)).1,T.thrown (rdN (T.slot k.toNat)).1))
 else (T.ranged G k,T)
def TS.make (T:TS) (G:Geom) (kind parent:Int):(Nat × Nat) × TS:=
 if T.st=0 then
  (if argE G.n kind parent=0 then
   (if (T.take G true).1.2=0 then
    ((if ((T.take G true).2.laySl (T.take G true).1.1 (encN (acY kind parent))).1=0 then (T.take G true).1.1 else 0,((T.take G true).2.laySl (T.take G true).1.1 (encN (acY kind parent))).1),((T.take G true).2.laySl (T.take G true).1.1 (encN (acY kind parent))).2)
    else ((0,(T.take G true).1.2),(T.take G true).2))
   else ((0,argE G.n kind parent),T))
 else ((0,T.st),T)
def aeC (slot:Nat->List UInt8) (kind:Int) (k:Nat):List Nat:=((List.range k).map (· + 1)).filter λ i=>decide ((rdN (slot i)).1=0/\(kind=0∨(rdN (slot i)).2.kind=kind))
def acT (slot:Nat->List UInt8) (k:Nat):Bool:=((List.range k).map (· + 1)).any λ i=>decide ((rdN (slot i)).1=6)
def TS.all (T:TS) (G:Geom) (kind:Int):(List Nat × Nat) × TS:=
 if T.st=0 then
  (if kind<0∨3<kind then (([],1),T) else if acT T.slot G.n=true then (([],6),T.thrown 6) else ((aeC T.slot kind G.n,0),T))
 else (([],T.st),T)
theorem am5 (slot:Nat->List UInt8) (kind:Int) (k:Nat):aeC slot kind (k+1)=aeC slot kind k++(if (rdN (slot (k+1))).1=0/\(kind=0∨(rdN (slot (k+1))).2.kind=kind) then [k+1] else []):=by
 unfold aeC
 rw [List.range_succ,List.map_append,List.filter_append]
 congr 1
 simp only [List.map_cons,List.map_nil,List.filter_cons,List.filter_nil]
 by_cases h:(rdN (slot (k+1))).1=0/\(kind=0∨(rdN (slot (k+1))).2.kind=kind)
 ·rw [if_pos h,if_pos (decide_eq_true h)]
 ·rw [if_neg h,if_neg (by rw [decide_eq_false h];decide)]
theorem aeZ (slot:Nat->List UInt8) (k:Nat):acT slot (k+1)=(acT slot k || decide ((rdN (slot (k+1))).1=6)):=by
 unfold acT
 rw [List.range_succ,List.map_append,List.any_append]
 simp
theorem amM {slot:Nat->List UInt8} {k n:Nat} (h:k<=n) (hb:acT slot k=true):acT slot n=true:=by
 induction n with
 | zero=>
  obtain rfl:k=0:=by omega
  exact hb
 | succ n ih=>
  rw [aeZ]
  by_cases e:k=n+1
  ·subst e;rw [aeZ] at hb;exact hb
  ·rw [ih (by omega)];rfl
theorem ajE (slot:Nat->List UInt8) (kind:Int) (k:Nat):(aeC slot kind k).length<=k:=by
 unfold aeC
 refine aE4 (List.length_filter_le _ _) ?_
 simp
structure TB where
 R:RP
 was:List (List UInt8)
 sl:List (List UInt8)
def TB.slot (B:TB) (k:Nat):List UInt8:=B.sl.getD (k - 1) []
def TB.put (B:TB) (k:Nat) (b:List UInt8):Nat × TB:=
 if B.slot k=b then (0,B) else (B.R.putsE (nblk k),⟨B.R.puts (nblk k),B.was,if B.R.putsE (nblk k)=0 then B.sl.set (k - 1) b else B.sl⟩)
def TB.thrown (B:TB) (c:Nat):TB:=if c=6 then { B with R:=B.R.spoil 6 } else B
def TB.ranged (B:TB) (k:Int):Nat:=if B.R.state=0 then (if k<1∨(B.R.nodes:Int)<k then 11 else 0) else B.R.state
def TB.load (B:TB) (k:Int):(Nd × Nat) × TB:=
 if B.ranged k=0 then (((rdN (B.slot k.toNat)).2,(rdN (B.slot k.toNat)).1),B.thrown (rdN (B.slot k.toNat)).1) else ((Nd.zero,B.ranged k),B)
def TB.save (B:TB) (k:Int) (n:Nd):Nat × TB:=
 if B.ranged k=0 then
  (if Ac4 n/\n.kind≠0 then
   (if (rdN (B.slot k.toNat)).1=0 then (if (rdN (B.slot k.toNat)).2.kind=n.kind then B.put k.toNat (encN n) else (1,B)) else ((rdN (B.slot k.toNat)).1,B.thrown (rdN (B.slot k.toNat)).1))
   else (20,B))
 else (B.ranged k,B)
def TB.free (B:TB) (bs:List UInt8) (k:Int):Nat × TB:=
 if B.ranged k=0 then
  (if (rdN (B.slot k.toNat)).1=0 then
   (if (rdN (B.slot k.toNat)).2.owned=0 then (if B.R.dropE true bs k=0 then ({ B with R:=B.R.drop true bs k }:TB).put k.toNat (aaD 128) else (B.R.dropE true bs k,{ B with R:=B.R.drop true bs k })) else (71,B))
   else ((rdN (B.slot k.toNat)).1,B.thrown (rdN (B.slot k.toNat)).1))
 else (B.ranged k,B)
def TB.make (B:TB) (bs:List UInt8) (kind parent:Int):(Nat × Nat) × TB:=
 if B.R.state=0 then
  (if argE B.R.nodes kind parent=0 then
   (if (B.R.takeA true bs).2=0 then
    ((if (({ B with R:=B.R.take true bs }:TB).put (B.R.takeA true bs).1 (encN (acY kind parent))).1=0 then (B.R.takeA true bs).1 else 0,(({ B with R:=B.R.take true bs }:TB).put (B.R.takeA true bs).1 (encN (acY kind parent))).1),(({ B with R:=B.R.take true bs }:TB).put (B.R.takeA true bs).1 (encN (acY kind parent))).2)
    else ((0,(B.R.takeA true bs).2),{ B with R:=B.R.take true bs }))
   else ((0,argE B.R.nodes kind parent),B))
 else ((0,B.R.state),B)
def TB.all (B:TB) (kind:Int):(List Nat × Nat) × TB:=
 if B.R.state=0 then
  (if kind<0∨3<kind then (([],1),B) else if acT B.slot B.R.nodes=true then (([],6),B.thrown 6) else ((aeC B.slot kind B.R.nodes,0),B))
 else (([],B.R.state),B)
def TB.blk (B:TB) (b:Nat):List UInt8:=B.slot (4*(b - 2)+1)++(B.slot (4*(b - 2)+2)++(B.slot (4*(b - 2)+3)++B.slot (4*(b - 2)+4)))
def TB.putRaw (B:TB) (b:Nat) (data:List UInt8):Nat × TB:=
 if B.R.state=0 then
  (if B.blk b=data then (0,B)
   else (B.R.putsE b,⟨B.R.puts b,B.was,if B.R.putsE b=0 then (((B.sl.set (4*(b - 2)) (acD data 0)).set (4*(b - 2)+1) (acD data 1)).set (4*(b - 2)+2) (acD data 2)).set (4*(b - 2)+3) (acD data 3) else B.sl⟩))
 else (B.R.state,B)
structure AfA (R:RP) (T:TS) (G:Geom):Prop where
 nb:R.nowB=aaZ (T.raw 0)
 nn:R.nowN=aaZ (T.raw 1)
 put:R.put=T.put
 sp:R.sp=T.sp
 op:R.op=true
 dead:R.dead=T.dd
 data:R.data=G.data
 blocks:R.blocks=G.blocks
 nodes:R.nodes=G.n
 ob:R.oldB=aaZ (T.old 0)
 on:R.oldN=aaZ (T.old 1)
def RP.patch (R:RP) (f g:Nat->List UInt8) (n:Nat):RP:={ R with raw:=(List.range n).map f,oldRaw:=(List.range n).map g }
section
variable {R R':RP} {T T':TS} {G:Geom} {f g:Nat->List UInt8} {n:Nat}
theorem AfA.up (h:AfA R T G):Same (R.patch T.raw T.old G.blocks) T G where
 nb:=h.nb
 nn:=h.nn
 raw:=λ b _ hb=>by
  show ((List.range G.blocks).map T.raw)[b]? = _
  rw [aEZ,List.getElem?_range hb];rfl
 rl:=by show ((List.range G.blocks).map T.raw).length=_;rw [aEU,List.length_range]
 put:=h.put
 sp:=h.sp
 op:=h.op
 dead:=h.dead
 data:=h.data
 blocks:=h.blocks
 nodes:=h.nodes
 od:=⟨h.ob,h.on,λ b _ hb=>by
  show ((List.range G.blocks).map T.old)[b]? = _
  rw [aEZ,List.getElem?_range hb];rfl,by show ((List.range G.blocks).map T.old).length=_;rw [aEU,List.length_range]⟩
theorem AfA.dn (h:Same (R.patch f g n) T G):AfA R T G:=⟨h.nb,h.nn,h.put,h.sp,h.op,h.dead,h.data,h.blocks,h.nodes,h.od.1,h.od.2.1⟩
theorem ag4:(R.patch f g n).state=R.state:=rfl
theorem afH (b:Nat):(R.patch f g n).puts b=(R.puts b).patch f g n/\(R.patch f g n).putsE b=R.putsE b:=by
 unfold RP.puts RP.putsE RP.patch
 dsimp only
 constructor
 ·repeat' split
  all_goals rfl
 ·rfl
theorem aiS (nd:Bool) (l:List Bool):(R.patch f g n).withK nd l=(R.withK nd l).patch f g n:=by
 cases nd<;>rfl
theorem asW (nd:Bool):(R.patch f g n).nowK nd=R.nowK nd:=by cases nd<;>rfl
theorem alC {c:Prop} [Decidable c] {a b:RP}:(if c then a.patch f g n else b.patch f g n)=(if c then a else b).patch f g n:=by split<;>rfl
theorem am6 (nd:Bool) (bs:List UInt8):(R.patch f g n).take nd bs=(R.take nd bs).patch f g n/\(R.patch f g n).takeA nd bs=R.takeA nd bs:=by
 have e1:rLo (R.patch f g n) nd=rLo R nd:=rfl
 have e2:rHi (R.patch f g n) nd=rHi R nd:=rfl
 unfold RP.take RP.takeA
 rw [ag4,e1,e2]
 by_cases hs:R.state=0
 ·rw [if_pos hs,if_pos hs,if_pos hs,if_pos hs]
  cases abA bs (rLo R nd) (rHi R nd) with
  | none=>exact ⟨rfl,rfl⟩
  | some i=>
   dsimp only
   rw [(afH _).2,(afH _).1,aiS,alC]
   exact ⟨rfl,rfl⟩
 ·rw [if_neg hs,if_neg hs,if_neg hs,if_neg hs]
  exact ⟨rfl,rfl⟩
theorem am7 (nd:Bool) (bs:List UInt8) (k:Int):(R.patch f g n).drop nd bs k=(R.drop nd bs k).patch f g n/\(R.patch f g n).dropE nd bs k=R.dropE nd bs k:=by
 have e1:outK (R.patch f g n) nd k↔outK R nd k:=Iff.rfl
 unfold RP.drop RP.dropE
 rw [ag4]
 by_cases hs:R.state=0
 ·rw [if_pos hs,if_pos hs,if_pos hs,if_pos hs]
  by_cases ho:outK R nd k
  ·rw [if_pos ho,if_pos (e1.2 ho),if_pos ho,if_pos (e1.2 ho)];exact ⟨rfl,rfl⟩
  ·rw [if_neg ho,if_neg (λ x=>ho (e1.1 x)),if_neg ho,if_neg (λ x=>ho (e1.1 x))]
   by_cases hb:abP bs (k.toNat - nd.toNat)=true
   ·rw [if_pos hb,if_pos hb,if_pos hb,if_pos hb,(afH _).2,(afH _).1,aiS,alC]
    exact ⟨rfl,rfl⟩
   ·rw [if_neg hb,if_neg hb,if_neg hb,if_neg hb]
    exact ⟨rfl,rfl⟩
 ·rw [if_neg hs,if_neg hs,if_neg hs,if_neg hs]
  exact ⟨rfl,rfl⟩
theorem ah9 (nd:Bool) (l:List Bool):(R.patch f g n).lays nd l=(R.lays nd l).patch f g n/\(R.patch f g n).laysE nd l=R.laysE nd l:=by
 unfold RP.lays RP.laysE
 rw [asW]
 by_cases hs:R.nowK nd=l
 ·rw [if_pos hs,if_pos hs,if_pos hs,if_pos hs];exact ⟨rfl,rfl⟩
 ·rw [if_neg hs,if_neg hs,if_neg hs,if_neg hs,(afH _).2,(afH _).1,aiS,alC]
  exact ⟨rfl,rfl⟩
theorem alW:(R.patch f g n).clear=R.clear.patch f g n/\(R.patch f g n).clearE=R.clearE:=by
 have hd:(R.patch f g n).data=R.data:=rfl
 unfold RP.clear RP.clearE
 rw [ag4,hd]
 by_cases hs:R.state=0
 ·rw [if_pos hs,if_pos hs,if_pos hs,if_pos hs,(ah9 _ _).1,(ah9 _ _).2,(ah9 _ _).1,(ah9 _ _).2,alC]
  exact ⟨rfl,rfl⟩
 ·rw [if_neg hs,if_neg hs,if_neg hs,if_neg hs];exact ⟨rfl,rfl⟩
theorem alV (k:Int):(R.patch f g n).spoil k=(R.spoil k).patch f g n/\(R.patch f g n).spoilE k=R.spoilE k:=by
 unfold RP.spoil RP.spoilE
 rw [ag4]
 by_cases hs:R.state=0
 ·simp only [if_pos hs]
  by_cases hk:af2 k
  ·simp only [if_pos hk];exact ⟨rfl,trivial⟩
  ·simp only [if_neg hk];exact ⟨trivial,trivial⟩
 ·simp only [if_neg hs];exact ⟨trivial,trivial⟩
theorem AfA.state (h:AfA R T G):R.state=T.st:=h.up.state
theorem AfA.take (h:AfA R T G) (nd:Bool) (hk:(T.raw nd.toNat).length=512) (hh:xHi G nd<=4096):R.takeA nd (T.raw nd.toNat)=(T.take G nd).1/\AfA (R.take nd (T.raw nd.toNat)) (T.take G nd).2 G:=by
 obtain ⟨a,b⟩:=h.up.take nd hk hh
 rw [(am6 _ _).1] at b
 rw [(am6 _ _).2] at a
 exact ⟨a,.dn b⟩
theorem AfA.drop (h:AfA R T G) (nd:Bool) (k:Int) (hk:(T.raw nd.toNat).length=512) (hh:xHi G nd<=4095):R.dropE nd (T.raw nd.toNat) k=(T.drop G nd k).1/\AfA (R.drop nd (T.raw nd.toNat) k) (T.drop G nd k).2 G:=by
 obtain ⟨a,b⟩:=h.up.drop nd k hk hh
 rw [(am7 _ _ _).1] at b
 rw [(am7 _ _ _).2] at a
 exact ⟨a,.dn b⟩
theorem AfA.clear (h:AfA R T G) (a0:(T.raw 0).length=512) (hk1:(T.raw 1).length=512):R.clearE=(T.clear G).1/\AfA R.clear (T.clear G).2 G:=by
 obtain ⟨a,b⟩:=h.up.clear a0 hk1
 rw [alW.1] at b
 rw [alW.2] at a
 exact ⟨a,.dn b⟩
theorem AfA.spoil (h:AfA R T G) (k:Int):R.spoilE k=(T.spoilN k).1/\AfA (R.spoil k) (T.spoilN k).2 G:=by
 obtain ⟨a,b⟩:=h.up.spoil k
 rw [(alV _).1] at b
 rw [(alV _).2] at a
 exact ⟨a,.dn b⟩
theorem AfA.left (h:AfA R T G):R.leftA (T.raw 0) (T.raw 1)=T.left G:=h.up.left
theorem AfA.putsT (h:AfA R T G) (b:Nat) (hb:2<=b) (data:List UInt8) (a1:T.raw b≠data):R.putsE b=(T.puts b data).1/\AfA (R.puts b) (T.puts b data).2 G:=by
 have e:∀ k,k<2->(T.lay b data).raw k=T.raw k:=λ k hk=>by show (if k=b then data else T.raw k)=_;rw [if_neg (by omega)]
 unfold RP.putsE RP.puts TS.puts
 rw [if_neg a1]
 by_cases hm:b∈T.put
 ·have hm':b∈R.put:=by rw [h.put];exact hm
  rw [if_pos hm',if_pos hm',if_pos hm]
  exact ⟨rfl,by rw [e 0 (by omega)];exact h.nb,by rw [e 1 (by omega)];exact h.nn,h.put,h.sp,h.op,h.dead,h.data,h.blocks,h.nodes,h.ob,h.on⟩
 ·have hm':¬ b∈R.put:=by rw [h.put];exact hm
  rw [if_neg hm',if_neg hm',if_neg hm]
  by_cases a0:T.put.length=16
  ·have h16':R.put.length=16:=by rw [h.put];exact a0
   rw [if_pos h16',if_pos h16',if_pos a0]
   exact ⟨rfl,h.nb,h.nn,h.put,rfl,h.op,h.dead,h.data,h.blocks,h.nodes,h.ob,h.on⟩
  ·have h16':¬ R.put.length=16:=by rw [h.put];exact a0
   rw [if_neg h16',if_neg h16',if_neg a0]
   exact ⟨rfl,by show R.nowB=aaZ ((T.lay b data).raw 0);rw [e 0 (by omega)];exact h.nb,by show R.nowN=aaZ ((T.lay b data).raw 1);rw [e 1 (by omega)];exact h.nn,by show R.put++[b]=T.put++[b];rw [h.put],h.sp,h.op,h.dead,h.data,h.blocks,h.nodes,h.ob,h.on⟩
end
end Go.Vk
namespace Go.Vk
open Go.RowKit Go.Proofs
open Tryz (prog)
def RP.commit (R:RP):RP:={ R with oldB:=R.nowB,oldN:=R.nowN,oldRaw:=R.raw,op:=false }
section
variable {w w':World} {m:Nat} {R:RP} {V:RefV} {Z Z':Nat->Prop}
theorem AdB.commit (h:AdB w m R V Z) (k:AaA (· = m) w w') (v1 v2:Value) (hm:Blk w' m (refO R.commit { V with OB:=v1,ON:=v2,OR:=V.R,uO:=V.uR })) (h1:AaW w' w.heap.size v1 R.nowB) (h2:AaW w' w.heap.size v2 R.nowN) (hZ:∀ i,Z i->Z' i) (a5:InZ Z' v1) (a6:InZ Z' v2):AdB w' m R.commit { V with OB:=v1,ON:=v2,OR:=V.R,uO:=V.uR } Z':=by
 have a7:∀ {v:Value} {l:List Bool},AaW w' w.heap.size v l->∀ g,v.ownBlock=some g->w.heap.size<=g:=λ hb g e=>by
  rcases hb.2 with ⟨rfl,_⟩|⟨g1,cap,cur,rfl,hb,_⟩
  ·cases e
  ·have:g1=g:=aEP e
   omega
 have a0:∀ {v v':Value} {l l':List Bool},AaW w 0 v' l'->0<l'.length->AaW w' w.heap.size v l->v'.ownBlock≠v.ownBlock:=λ {v v' l l'} hb h0 hb' e=>by
  obtain ⟨g,cap,e1,_,hg⟩:=ab9 hb h0
  have:=a7 hb' g (by rw [← e,e1];rfl)
  omega
 obtain ⟨a1,a2,a3,a4⟩:=h.lb
 exact
 {hm:=hm
  ob:=aeG h1 (aEY _)
  on:=aeG h2 (aEY _)
  nb:=abE k h.nb (λ g e f=>abG h.nb h.hm (by decide) (f ▸ e))
  nn:=abE k h.nn (λ g e f=>abG h.nn h.hm (by decide) (f ▸ e))
  orr:=h.rr.far k (λ g e f=>abG h.rr.1 h.hm (by decide) (f ▸ e)) (λ u hu g e f=>by obtain ⟨l,hl⟩:=h.rr.each hu;exact abG hl h.hm (by decide) (f ▸ e))
  rr:=h.rr.far k (λ g e f=>abG h.rr.1 h.hm (by decide) (f ▸ e)) (λ u hu g e f=>by obtain ⟨l,hl⟩:=h.rr.each hu;exact abG hl h.hm (by decide) (f ▸ e))
  pr:=abE k h.pr (λ g e f=>abG h.pr h.hm (by decide) (f ▸ e))
  zm:=hZ _ h.zm,zob:=a5,zon:=a6,znb:=λ g e=>hZ g (h.znb g e),znn:=λ g e=>hZ g (h.znn g e),zor:=λ g e=>hZ g (h.zr g e),zr:=λ g e=>hZ g (h.zr g e),zp:=λ g e=>hZ g (h.zp g e)
  zuO:=λ u hu g e=>hZ g (h.zuR u hu g e),zuR:=λ u hu g e=>hZ g (h.zuR u hu g e)
  lb:=⟨a3,a4,a3,a4⟩,d1:=h.d1
  d2:=⟨a0 h.nb (by omega) h1,a0 h.nb (by omega) h2,a0 h.nn (by omega) h1,a0 h.nn (by omega) h2⟩
  d3:=λ e=>by cases e
  lr:=⟨h.lr.2,h.lr.2⟩,l5:=⟨h.l5.2,h.l5.2⟩ }
theorem auU (h:AcP w m R Z) (a3:∀ i,Z i->i<w.heap.size) (hs:R.state=0):Calls prog 196 #[↑m] w λ e w'=>e=U (I 0)/\AdV w w' m R.commit Z:=by
 have hSt:=aeF h
 rw [hs] at hSt
 obtain ⟨⟨OB,ON,NB,NN,OR,RR,PP,uO,uR⟩,h1⟩:=h
 obtain ⟨l1,l2,l3,l4⟩:=h1.lb
 obtain ⟨gB,cB,eB,_,xB,yB⟩:=h1.nb.slice (by omega)
 obtain ⟨gN,cN,eN,_,xN,yN⟩:=h1.nn.slice (by omega)
 have hT:=azB w gB cB gN cN R.nowB R.nowN yB yN (by omega) (by omega) (by omega) (by omega)
 dsimp only at eB eN
 have hb:=h1.hm
 unfold refO at hb
 dsimp only at hb
 have c5:=hb.cell 5
 have c6:=hb.cell 6
 simp at c5 c6
 rw [eB] at c5
 rw [eN] at c6
 rw [l3] at c5
 rw [l4] at c6
 rw [l3,l4] at hT
 have a4:=h1.zm
 have hfin:∀ w1 v1 v2,AaW w1 w.heap.size v1 R.nowB->AaW w1 w.heap.size v2 R.nowN->AaA NoF w w1->AdV w ((((w1.setCell ⟨m,3,none⟩ v1).setCell ⟨m,4,none⟩ v2).setCell ⟨m,7,none⟩ RR).setCell ⟨m,11,none⟩ ↑false) m R.commit Z:=by
  intro w1 v1 v2 r1 r2 k1
  have kT:AaA (· = m) w1 ((((w1.setCell ⟨m,3,none⟩ v1).setCell ⟨m,4,none⟩ v2).setCell ⟨m,7,none⟩ RR).setCell ⟨m,11,none⟩ ↑false):=
   ((((AaA.refl (· = m) w1).setCell (p:=⟨m,3,none⟩) (.inl rfl) _).setCell (p:=⟨m,4,none⟩) (.inl rfl) _).setCell (p:=⟨m,7,none⟩) (.inl rfl) _).setCell (p:=⟨m,11,none⟩) (.inl rfl) _
  have a0:=k1.blk hb (λ f=>f)
  have bS:=(((a0.setCell 3 v1).setCell 4 v2).setCell 7 RR).setCell 11 ↑false
  simp at bS
  have o1:v1.ownBlock≠some m:=abG r1 a0 (by decide)
  have o2:v2.ownBlock≠some m:=abG r2 a0 (by decide)
  have q1:AaW _ w.heap.size v1 R.nowB:=abN (Z:=λ i=>v1.ownBlock=some i) kT (λ i e f=>o1 (f ▸ e)) r1 (λ x e=>e)
  have q2:AaW _ w.heap.size v2 R.nowN:=abN (Z:=λ i=>v2.ownBlock=some i) kT (λ i e f=>o2 (f ▸ e)) r2 (λ x e=>e)
  have kk:AaA (· = m) w _:=(k1.mono (G:=(· = m)) λ _ _ f=>f.elim).step kT
  have a2:∀ {v:Value} {l:List Bool},AaW w1 w.heap.size v l->∀ g,v.ownBlock=some g->w.heap.size<=g/\g<((((w1.setCell ⟨m,3,none⟩ v1).setCell ⟨m,4,none⟩ v2).setCell ⟨m,7,none⟩ RR).setCell ⟨m,11,none⟩ ↑false).heap.size:=λ hr g e=>by
   have hl:=ad1 hr e
   have hs:=kT.size
   rcases hr.2 with ⟨rfl,_⟩|⟨g1,cap,cur,rfl,hb,_⟩
   ·cases e
   ·have:g1=g:=aEP e
    omega
  refine ⟨⟨_,h1.commit (Z':=Zn w _ Z) kk v1 v2 ?_ q1 q2 (λ i hi=>.inl hi) (λ g e=>.inr (a2 r1 g e)) (λ g e=>.inr (a2 r2 g e))⟩,kk.mono λ i _ e=>by rw [e];exact a4⟩
  exact bS
 have a1:∃ a c,RR=.slice a R.raw.length c:=acG h1.rr.1
 clear h1
 replace ⟨a1,hT,hb,l3,l4,hfin,hSt⟩:=yh7 a1 hT hb l3 l4 hfin hSt;clear eB eN l1 l2 yB yN xB xN hs a3
 go_enter Tryz.func196,Tryz.ntmps196
 go_wp2_with (first
  | (go_at_call 65;refine hSt.out.mono ?_;rintro e w1 ⟨rfl,rfl⟩)
  | (go_at_call 230;refine hT.out.mono ?_;rintro e w1 ⟨v1,v2,rfl,r1,r2,r12,k1⟩;have hF:=hfin.out w1 v1 v2 r1 r2 k1;obtain ⟨g1,d1,rfl,_,_,_⟩:=r1.slice (by have:=l3.out;omega);obtain ⟨g2,d2,rfl,_,_,_⟩:=r2.slice (by have:=l4.out;omega);have a5:=a1.out;obtain ⟨aR,cR,a6⟩:=a5;subst a6;have a0:=k1.blk hb.out (λ f=>f);have f1:=a0.frz;have q3:=a0.cell 3;have q4:=a0.cell 4;have q7:=a0.cell 7;have q8:=a0.cell 8;have q11:=a0.cell 11;simp at q3 q4 q7 q8 q11;replace hF:=hid hF;clear a0;clear r1 r2 r12 k1))
 go_ret
 exact ⟨rfl,hF.out⟩
theorem aqN (h:AcP w m R Z) (hs:R.state≠0):Calls prog 196 #[↑m] w λ e w'=>e=U (I (R.state:Nat))/\w=w':=by
 have hSt:=aeF h
 generalize R.state=s at *
 have a0:¬ (s:Int)=0:=by omega
 replace hSt:=hid hSt;clear h hs
 go_enter Tryz.func196,Tryz.ntmps196
 go_wp2_with (go_at_call 65;refine hSt.out.mono ?_;rintro e w1 ⟨rfl,rfl⟩)
 go_ret
 exact ⟨rfl,rfl⟩
end
end Go.Vk
