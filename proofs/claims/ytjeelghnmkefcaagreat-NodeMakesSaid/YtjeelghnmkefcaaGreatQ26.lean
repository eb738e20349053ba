/- Part of the proof: Ns1 Na1 Na2. -/
import Derived.Test.YtjeelghnmkefcaaGreatQ05
import Derived.Test.YtjeelghnmkefcaaGreatQ22
import Derived.Test.YtjeelghnmkefcaaGreatQ24
import Derived.Test.YtjeelghnmkefcaaGreatQ25
import Derived.Laws.StructEq
import Derived.Deep.CutRange
import Derived.Deep.RegionLaw
set_option linter.unusedVariables false
set_option maxHeartbeats 16000000
set_option maxRecDepth 100000
namespace Go.Vk
theorem TS.puts_raw (T:TS) (b:Nat) (data:List UInt8) (k:Nat):(T.puts b data).2.raw k=if k=b/\(T.puts b data).1=0 then data else T.raw k:=by
 unfold TS.puts
 by_cases h1:T.raw b=data
 ·rw [if_pos h1]
  split
  ·rename_i x;rw [x.1,h1]
  ·rfl
 ·rw [if_neg h1]
  by_cases h2:b∈T.put
  ·rw [if_pos h2];simp [TS.lay]
  ·rw [if_neg h2]
   by_cases h3:T.put.length=16
   ·rw [if_pos h3];simp
   ·rw [if_neg h3];simp [TS.lay]
theorem TS.puts_ne (T:TS) (b:Nat) (data:List UInt8) {k:Nat} (h:k≠b):(T.puts b data).2.raw k=T.raw k:=by
 rw [TS.puts_raw,if_neg (λ x=>h x.1)]
theorem TS.take_raw (T:TS) (G:Geom) (nd:Bool) {k:Nat} (hk:2<=k):(T.take G nd).2.raw k=T.raw k:=by
 have:k≠nd.toNat:=by cases nd<;>(simp;omega)
 unfold TS.take
 split
 ·unfold TS.takeX
  split
  ·exact T.puts_ne _ _ this
  ·rfl
 ·rfl
theorem TS.drop_raw (T:TS) (G:Geom) (nd:Bool) (n:Int) {k:Nat} (hk:2<=k):(T.drop G nd n).2.raw k=T.raw k:=by
 have:k≠nd.toNat:=by cases nd<;>(simp;omega)
 unfold TS.drop
 split
 ·split
  ·rfl
  ·unfold TS.dropX
   split
   ·exact T.puts_ne _ _ this
   ·rfl
 ·rfl
theorem TS.clear_raw (T:TS) (G:Geom) {k:Nat} (hk:2<=k):(T.clear G).2.raw k=T.raw k:=by
 unfold TS.clear
 split
 ·unfold TS.clearX
  split
  ·rw [TS.puts_ne _ _ _ (by omega),TS.puts_ne _ _ _ (by omega)]
  ·rw [TS.puts_ne _ _ _ (by omega)]
 ·rfl
theorem TS.spoilN_raw (T:TS) (n:Int) (k:Nat):(T.spoilN n).2.raw k=T.raw k:=by
 unfold TS.spoilN
 split
 ·split<;>rfl
 ·rfl
structure Aa8 (B:TB) (T:TS) (G:Geom):Prop where
 n:AfA B.R T G
 s:∀ k,1<=k->k<=G.n->B.sl[k - 1]? = some (T.slot k)
 w:∀ k,1<=k->k<=G.n->B.was[k - 1]? = some (acD (T.old (nblk k)) (nix k))
 ls:B.sl.length=G.n
 lw:B.was.length=G.n
section
variable {B:TB} {T T':TS} {G:Geom} {R':RP} {b:List UInt8}
theorem alE (k:Nat):2<=nblk k:=by unfold nblk;omega
theorem Aa8.slot (h:Aa8 B T G) {k:Nat} (h1:1<=k) (h2:k<=G.n):B.slot k=T.slot k:=by
 unfold TB.slot
 rw [aEL,h.s k h1 h2];rfl
theorem Aa8.bits (h:Aa8 B T G) (hs:AfA R' T' G) (hr:∀ k,2<=k->T'.raw k=T.raw k) (ho:T'.old=T.old):Aa8 { B with R:=R' } T' G:=
 ⟨hs,λ k h1 h2=>by
  rw [show T'.slot k=T.slot k by unfold TS.slot;rw [hr _ (alE k)]]
  exact h.s k h1 h2,λ k h1 h2=>by rw [ho];exact h.w k h1 h2,h.ls,h.lw⟩
theorem aDB {j k:Nat} (hj:1<=j) (hk:1<=k) (h:j≠k) (hb:nblk j=nblk k):nix j≠nix k:=by
 unfold nblk at hb;unfold nix;omega
theorem Aa8.put (h:Aa8 B T G) {k:Nat} (h1:1<=k) (h2:k<=G.n) (hb:b.length=128) (hr:(T.raw (nblk k)).length=512):(B.put k b).1=(T.laySl k b).1/\Aa8 (B.put k b).2 (T.laySl k b).2 G:=by
 have hs:=h.slot h1 h2
 have a1:=ayK hr hb (agS k)
 have a0:=agY hr hb (agS k)
 unfold TB.put TS.laySl
 rw [hs]
 by_cases he:T.slot k=b
 ·have e:Go.Vk.lay (T.raw (nblk k)) (128*nix k) b=T.raw (nblk k):=a1.2 he
  rw [if_pos he,e]
  unfold TS.puts
  rw [if_pos rfl]
  exact ⟨rfl,h⟩
 ·have a2:T.raw (nblk k)≠Go.Vk.lay (T.raw (nblk k)) (128*nix k) b:=λ x=>he (a1.1 x.symm)
  rw [if_neg he]
  obtain ⟨a,n⟩:=h.n.putsT (nblk k) (alE k) _ a2
  refine ⟨a,⟨n,λ j j1 j2=>?_,λ j j1 j2=>?_,?_,h.lw⟩⟩
  ·dsimp only
   unfold TS.slot
   rw [TS.puts_raw,a]
   by_cases hz:(T.puts (nblk k) (Go.Vk.lay (T.raw (nblk k)) (128*nix k) b)).1=0
   ·rw [if_pos hz]
    by_cases e:j=k
    ·subst e
     rw [if_pos ⟨rfl,hz⟩,List.getElem?_set_self (by have:=h.ls;omega),a0]
    ·rw [aE1 (by omega),h.s j j1 j2]
     by_cases eb:nblk j=nblk k
     ·rw [if_pos ⟨eb,hz⟩,alL hr hb (agS j) (agS k) (aDB j1 h1 e eb)]
      unfold TS.slot;rw [eb]
     ·rw [if_neg (λ x=>eb x.1)];rfl
   ·rw [if_neg hz,if_neg (λ x=>hz x.2)]
    exact h.s j j1 j2
  ·rw [(T.puts_like _ _).2.2.1]
   exact h.w j j1 j2
  ·dsimp only
   split
   ·rw [aEV];exact h.ls
   ·exact h.ls
theorem Aa8.thrown (h:Aa8 B T G) (c:Nat):Aa8 (B.thrown c) (T.thrown c) G:=by
 unfold TB.thrown TS.thrown
 split
 ·exact h.bits (h.n.spoil 6).2 (λ k _=>T.spoilN_raw 6 k) (T.spoilN_like 6).2.2.1
 ·exact h
theorem Aa8.state (h:Aa8 B T G):B.R.state=T.st:=h.n.state
theorem Aa8.ranged (h:Aa8 B T G) (k:Int):B.ranged k=T.ranged G k:=by
 unfold TB.ranged TS.ranged
 rw [h.state,h.n.nodes]
theorem TS.ranged_zero {k:Int} (h:T.ranged G k=0):T.st=0/\1<=k.toNat/\k.toNat<=G.n/\(k.toNat:Int)=k:=by
 unfold TS.ranged at h
 by_cases hs:T.st=0
 ·rw [if_pos hs] at h
  by_cases hk:k<1∨(G.n:Int)<k
  ·rw [if_pos hk] at h;cases h
  ·exact ⟨hs,by omega,by omega,by omega⟩
 ·rw [if_neg hs] at h;exact absurd h hs
theorem Aa8.load (h:Aa8 B T G) (k:Int):(B.load k).1=(T.load G k).1/\Aa8 (B.load k).2 (T.load G k).2 G:=by
 unfold TB.load TS.load
 rw [h.ranged]
 by_cases hz:T.ranged G k=0
 ·obtain ⟨_,a,b,_⟩:=TS.ranged_zero hz
  rw [if_pos hz,if_pos hz,h.slot a b]
  exact ⟨rfl,h.thrown _⟩
 ·rw [if_neg hz,if_neg hz]
  exact ⟨rfl,h⟩
theorem Aa8.save (h:Aa8 B T G) (k:Int) {n:Nd} (hn:(encN n).length=128) (hr:∀ k,k<=G.n->(T.raw (nblk k)).length=512):(B.save k n).1=(T.save G k n).1/\Aa8 (B.save k n).2 (T.save G k n).2 G:=by
 unfold TB.save TS.save
 rw [h.ranged]
 by_cases hz:T.ranged G k=0
 ·obtain ⟨_,a,b,_⟩:=TS.ranged_zero hz
  rw [if_pos hz,if_pos hz,h.slot a b]
  by_cases hf:Ac4 n/\n.kind≠0
  ·rw [if_pos hf,if_pos hf]
   by_cases hr0:(rdN (T.slot k.toNat)).1=0
   ·rw [if_pos hr0,if_pos hr0]
    by_cases hk:(rdN (T.slot k.toNat)).2.kind=n.kind
    ·rw [if_pos hk,if_pos hk]
     exact h.put a b hn (hr _ b)
    ·rw [if_neg hk,if_neg hk]
     exact ⟨rfl,h⟩
   ·rw [if_neg hr0,if_neg hr0]
    exact ⟨rfl,h.thrown _⟩
  ·rw [if_neg hf,if_neg hf]
   exact ⟨rfl,h⟩
 ·rw [if_neg hz,if_neg hz]
  exact ⟨rfl,h⟩
theorem Aa8.free (h:Aa8 B T G) (k:Int) (a0:(T.raw 1).length=512) (hh:G.n<=4095) (hr:∀ k,k<=G.n->(T.raw (nblk k)).length=512):(B.free (T.raw 1) k).1=(T.free G k).1/\Aa8 (B.free (T.raw 1) k).2 (T.free G k).2 G:=by
 unfold TB.free TS.free
 rw [h.ranged]
 by_cases hz:T.ranged G k=0
 ·obtain ⟨_,a,b,_⟩:=TS.ranged_zero hz
  rw [if_pos hz,if_pos hz,h.slot a b]
  by_cases hr0:(rdN (T.slot k.toNat)).1=0
  ·rw [if_pos hr0,if_pos hr0]
   by_cases hk:(rdN (T.slot k.toNat)).2.owned=0
   ·rw [if_pos hk,if_pos hk]
    obtain ⟨d1,d2⟩:=h.n.drop true k a0 hh
    have d1':B.R.dropE true (T.raw 1) k=(T.drop G true k).1:=d1
    have h':Aa8 { B with R:=B.R.drop true (T.raw 1) k } (T.drop G true k).2 G:=h.bits d2 (λ j hj=>T.drop_raw G true k hj) (T.drop_like G true k).2.2.1
    rw [d1']
    by_cases hd:(T.drop G true k).1=0
    ·rw [if_pos hd,if_pos hd]
     exact h'.put a b (aaF _) (by rw [T.drop_raw G true k (alE _)];exact hr _ b)
    ·rw [if_neg hd,if_neg hd]
     exact ⟨rfl,h'⟩
   ·rw [if_neg hk,if_neg hk]
    exact ⟨rfl,h⟩
  ·rw [if_neg hr0,if_neg hr0]
   exact ⟨rfl,h.thrown _⟩
 ·rw [if_neg hz,if_neg hz]
  exact ⟨rfl,h⟩
theorem TS.take_node (h0:T.st=0) (h:(T.take G true).1.2=0):1<=(T.take G true).1.1/\(T.take G true).1.1<=G.n:=by
 unfold TS.take at h ⊢
 rw [if_pos h0] at h ⊢
 unfold TS.takeX at h ⊢
 cases hf:abA (T.raw true.toNat) (xLo G true) (xHi G true) with
 | none=>rw [hf] at h;cases h
 | some i=>
  rw [hf] at h
  obtain ⟨_,a2,_,_⟩:=acL hf
  dsimp only at h ⊢
  rw [if_pos h]
  have:xHi G true=G.n:=rfl
  have:true.toNat=1:=rfl
  omega
theorem Aa8.make (h:Aa8 B T G) (kind parent:Int) (a0:(T.raw 1).length=512) (hh:G.n<=4095) (he:(encN (acY kind parent)).length=128) (hr:∀ k,k<=G.n->(T.raw (nblk k)).length=512):(B.make (T.raw 1) kind parent).1=(T.make G kind parent).1/\Aa8 (B.make (T.raw 1) kind parent).2 (T.make G kind parent).2 G:=by
 unfold TB.make TS.make
 rw [h.state,h.n.nodes]
 by_cases hs:T.st=0
 ·rw [if_pos hs,if_pos hs]
  by_cases ha:argE G.n kind parent=0
  ·rw [if_pos ha,if_pos ha]
   obtain ⟨d1,d2⟩:=h.n.take true a0 (by have:xHi G true=G.n:=rfl;omega)
   have d1':B.R.takeA true (T.raw 1)=(T.take G true).1:=d1
   have h':Aa8 { B with R:=B.R.take true (T.raw 1) } (T.take G true).2 G:=h.bits d2 (λ j hj=>T.take_raw G true hj) (T.take_like G true).2.2.1
   rw [d1']
   by_cases ht:(T.take G true).1.2=0
   ·rw [if_pos ht,if_pos ht]
    obtain ⟨t1,t2⟩:=TS.take_node hs ht
    obtain ⟨p1,p2⟩:=h'.put t1 t2 he (by rw [T.take_raw G true (alE _)];exact hr _ t2)
    rw [p1]
    exact ⟨rfl,p2⟩
   ·rw [if_neg ht,if_neg ht]
    exact ⟨rfl,h'⟩
  ·rw [if_neg ha,if_neg ha]
   exact ⟨rfl,h⟩
 ·rw [if_neg hs,if_neg hs]
  exact ⟨rfl,h⟩
theorem aqR {f g:Nat->List UInt8} (kind:Int) (n:Nat) (h:∀ k,1<=k->k<=n->f k=g k):aeC f kind n=aeC g kind n:=by
 unfold aeC
 refine List.filter_congr λ x hx=>?_
 obtain ⟨i,hi,rfl⟩:=List.mem_map.1 hx
 rw [h (i+1) (by omega) (by have:=List.mem_range.1 hi;omega)]
theorem ak2 {f g:Nat->List UInt8}:∀ (n:Nat),(∀ k,1<=k->k<=n->f k=g k)->acT f n=acT g n
 | 0,_=>rfl
 | n+1,h=>by
  rw [aeZ,aeZ,ak2 n (λ k a b=>h k a (by omega)),h (n+1) (by omega) (by omega)]
theorem Aa8.all (h:Aa8 B T G) (kind:Int):(B.all kind).1=(T.all G kind).1/\Aa8 (B.all kind).2 (T.all G kind).2 G:=by
 have e:∀ k,1<=k->k<=G.n->B.slot k=T.slot k:=λ k a b=>h.slot a b
 unfold TB.all TS.all
 rw [h.state,h.n.nodes,aqR kind G.n e,ak2 G.n e]
 by_cases hs:T.st=0
 ·rw [if_pos hs,if_pos hs]
  by_cases hk:kind<0∨3<kind
  ·rw [if_pos hk,if_pos hk];exact ⟨rfl,h⟩
  ·rw [if_neg hk,if_neg hk]
   by_cases hb:acT T.slot G.n=true
   ·rw [if_pos hb,if_pos hb];exact ⟨rfl,h.thrown 6⟩
   ·rw [if_neg hb,if_neg hb];exact ⟨rfl,h⟩
 ·rw [if_neg hs,if_neg hs];exact ⟨rfl,h⟩
theorem Aa8.blk (h:Aa8 B T G) {b:Nat} (h2:2<=b) (hb:4*(b - 2)+4<=G.n) (hr:(T.raw b).length=512):B.blk b=T.raw b:=by
 have e:∀ j,j<4->B.slot (4*(b - 2)+(j+1))=acD (T.raw b) j:=λ j hj=>by
  rw [h.slot (by omega) (by omega)]
  unfold TS.slot nblk nix
  rw [show 2+(4*(b - 2)+(j+1) - 1) / 4=b by omega,show (4*(b - 2)+(j+1) - 1) % 4=j by omega]
 unfold TB.blk
 rw [e 0 (by omega),e 1 (by omega),e 2 (by omega),e 3 (by omega)]
 exact ay2 hr
theorem Aa8.putRaw (h:Aa8 B T G) {b:Nat} (h2:2<=b) (hb:4*(b - 2)+4<=G.n) (hr:(T.raw b).length=512) {data:List UInt8}:(B.putRaw b data).1=(T.putB b data).1/\Aa8 (B.putRaw b data).2 (T.putB b data).2 G:=by
 unfold TB.putRaw TS.putB
 rw [h.state,h.blk h2 hb hr]
 by_cases hs:T.st=0
 ·rw [if_pos hs,if_pos hs]
  by_cases he:T.raw b=data
  ·rw [if_pos he]
   unfold TS.puts
   rw [if_pos he]
   exact ⟨rfl,h⟩
  ·rw [if_neg he]
   obtain ⟨a,n⟩:=h.n.putsT b h2 _ he
   refine ⟨a,⟨n,λ j j1 j2=>?_,λ j j1 j2=>?_,?_,h.lw⟩⟩
   ·dsimp only
    unfold TS.slot
    rw [TS.puts_raw,a]
    by_cases hz:(T.puts b data).1=0
    ·rw [if_pos hz]
     have hl:=h.ls
     by_cases eb:nblk j=b
     ·rw [if_pos ⟨eb,hz⟩]
      unfold nblk at eb
      have hj:j - 1=4*(b - 2)+nix j:=by unfold nix;omega
      have h4:=agS j
      rw [hj]
      generalize nix j=i at *
      match i,h4 with
      | 0,_=>rw [aE1 (by omega),aE1 (by omega),aE1 (by omega)];exact List.getElem?_set_self (by omega)
      | 1,_=>rw [aE1 (by omega),aE1 (by omega)];exact List.getElem?_set_self (by rw [aEV];omega)
      | 2,_=>rw [aE1 (by omega)];exact List.getElem?_set_self (by rw [aEV,aEV];omega)
      | 3,_=>exact List.getElem?_set_self (by rw [aEV,aEV,aEV];omega)
     ·rw [if_neg (λ x=>eb x.1)]
      unfold nblk at eb
      rw [aE1 (by omega),aE1 (by omega),aE1 (by omega),aE1 (by omega)]
      exact h.s j j1 j2
    ·rw [if_neg hz,if_neg (λ x=>hz x.2)]
     exact h.s j j1 j2
   ·rw [(T.puts_like _ _).2.2.1]
    exact h.w j j1 j2
   ·dsimp only
    split
    ·simp only [aEV];exact h.ls
    ·exact h.ls
 ·rw [if_neg hs,if_neg hs]
  exact ⟨rfl,h⟩
theorem Aa8.eat (h:Aa8 B T G) {b:Nat} (hb:2+G.n / 4<=b) (h4:G.n % 4=0) {data:List UInt8} (a0:T.raw b≠data):B.R.putsE b=(T.puts b data).1/\Aa8 { B with R:=B.R.puts b } (T.puts b data).2 G:=by
 obtain ⟨a,n⟩:=h.n.putsT b (by omega) _ a0
 refine ⟨a,⟨n,λ j j1 j2=>?_,λ j j1 j2=>?_,h.ls,h.lw⟩⟩
 ·unfold TS.slot
  rw [TS.puts_ne _ _ _ (show nblk j≠b by unfold nblk;omega)]
  exact h.s j j1 j2
 ·rw [(T.puts_like _ _).2.2.1]
  exact h.w j j1 j2
structure ApZ (B:TB) (old:Nat->List UInt8) (G:Geom):Prop where
 ob:B.R.oldB=aaZ (old 0)
 on:B.R.oldN=aaZ (old 1)
 w:∀ k,1<=k->k<=G.n->B.was[k - 1]? = some (acD (old (nblk k)) (nix k))
 lw:B.was.length=G.n
 data:B.R.data=G.data
 blocks:B.R.blocks=G.blocks
 nodes:B.R.nodes=G.n
 dead:B.R.dead=false
theorem Aa8.olds (h:Aa8 B T G) (hd:T.dd=false):ApZ B T.old G:=⟨h.n.ob,h.n.on,h.w,h.lw,h.n.data,h.n.blocks,h.n.nodes,h.n.dead.trans hd⟩
theorem Aa8.oldc (h:Aa8 B T G) (hd:T.dd=false):ApZ ⟨B.R.commit,B.sl,B.sl⟩ T.raw G:=⟨h.n.nb,h.n.nn,h.s,h.ls,h.n.data,h.n.blocks,h.n.nodes,h.n.dead.trans hd⟩
theorem ApZ.begin {old:Nat->List UInt8} (h:ApZ B old G) (L:LM) (wr tk:Nat):Aa8 ⟨B.R.begin,B.was,B.was⟩ ⟨old,[],0,old,L,wr,false,tk⟩ G:=
 ⟨⟨h.ob,h.on,rfl,rfl,rfl,h.dead,h.data,h.blocks,h.nodes,h.ob,h.on⟩,h.w,h.w,h.lw,h.lw⟩
end
end Go.Vk
namespace Go.Vk
open Go.RowKit Go.Proofs
open Tryz (prog)
def ndL (n:Nd):List Int:=n.kind :: n.links :: n.parent :: n.size :: n.owned :: n.ptr
def ndC (n:Nd):List Value:=(ndL n).map (.int .i64)
def ndV (n:Nd):Value:=.agg (ndC n).toArray
def ndO (n:Nd):Obj:=.cells (ndC n).toArray 39 (0,0)
theorem aaM {n:Nd} (h:n.ptr.length=12):(ndC n).length=17:=by simp [ndC,ndL,h]
theorem abJ (n:Nd):∀ v∈ndC n,v.oneCell'=true:=by
 intro v hv
 obtain ⟨x,_,rfl⟩:=List.mem_map.1 hv
 rfl
theorem aBG (n:Nd) (i:Nat):(ndC n)[i]? = ((ndL n)[i]?).map (.int .i64):=aEZ
section
variable {P:Program} (w:World)
theorem aiZ (d:Nat) {xs ys:Array Value} {f:Field} {fs:List Field} (hn:f.name ≠ "_") {q:IntKind} (hu:P.underlying f.type=some (.int q)) {x y:Int} (hx:xs[f.offset]? = some (.int q x)) (hy:ys[f.offset]? = some (.int q y)) :
  (Op.eqFields (d+1) xs ys (f :: fs)).run P w=if x=y then (Op.eqFields (d+1) xs ys fs).run P w else .ok false w:=by
 have p1:=run_part_plain (P:=P) w (afR hu) hx
 have p2:=run_part_plain (P:=P) w (afR hu) hy
 have e:=run_equalIn_int (P:=P) w d f.type q q x y hu
 simp only [Op.eqFields,hn,ne_eq,not_false_eq_true,if_true,Sem.run_bind,p1,p2,e,Result.andThen_ok]
 by_cases h:x=y
 ·simp [h]
 ·simp [h]
theorem aB2 (d:Nat) {e:TypeId} {q:IntKind} (hu:P.underlying e=some (.int q)) (xs ys:List Int) (hl:xs.length=ys.length):∀ m k,k+m=xs.length ->
  (Op.eqItems (d+1) e 1 (xs.map (Value.int q)).toArray (ys.map (Value.int q)).toArray (List.range' k m)).run P w=.ok (decide (xs.drop k=ys.drop k)) w:=by
 intro m
 induction m with
 | zero=>
  intro k hk
  have e1:xs.drop k=[]:=List.drop_eq_nil_of_le (by omega)
  have e2:ys.drop k=[]:=List.drop_eq_nil_of_le (by omega)
  simp [Op.eqItems,e1,e2]
 | succ m ih=>
  intro k hk
  have h1:k<xs.length:=by omega
  have h2:k<ys.length:=by omega
  have p1:=run_part_plain (P:=P) w (afR hu) (xs:=(xs.map (Value.int q)).toArray) (off:=k*1) (v:=.int q xs[k]) (by simp [h1])
  have p2:=run_part_plain (P:=P) w (afR hu) (xs:=(ys.map (Value.int q)).toArray) (off:=k*1) (v:=.int q ys[k]) (by simp [h2])
  have e:=run_equalIn_int (P:=P) w d e q q xs[k] ys[k] hu
  rw [List.range'_succ]
  simp only [Op.eqItems,Sem.run_bind,p1,p2,e,Result.andThen_ok]
  rw [aEX h1,aEX h2]
  by_cases hh:xs[k]=ys[k]
  ·simp only [hh,beq_self_eq_true,Bool.not_true,Bool.false_eq_true,if_false]
   rw [ih (k+1) (by omega)]
   simp only [List.cons.injEq,true_and]
  ·simp only [beq_eq_false_iff_ne.2 hh,Bool.not_false,if_true,Sem.run_pure]
   rw [decide_eq_false (λ e=>hh (List.cons.inj e).1)]
theorem ayV (d:Nat) {xs ys:Array Value} {f:Field} {fs:List Field} (hn:f.name ≠ "_") {n:Nat} {e:TypeId} (ht:P.underlying f.type=some (.array n e)) {i j:TypeInfo} (hi:P.info? e=some i) (hc:P.cellsOf e=1) (hj:P.info? f.type=some j) (a0:P.cellsOf f.type=n) {q:IntKind} (hu:P.underlying e=some (.int q)) {x y:List Int}
  (hx:xs.extract f.offset (f.offset+n)=(x.map (Value.int q)).toArray) (hy:ys.extract f.offset (f.offset+n)=(y.map (Value.int q)).toArray) (a1:x.length=n) (a2:y.length=n) :
  (Op.eqFields (d+2) xs ys (f :: fs)).run P w=if x=y then (Op.eqFields (d+2) xs ys fs).run P w else .ok false w:=by
 have p1:(part f.type xs f.offset).run P w=.ok (.agg (x.map (Value.int q)).toArray) w:=by simp [part,isAgg,run_underlying ht,run_sizeOf w hj,a0,hx]
 have p2:(part f.type ys f.offset).run P w=.ok (.agg (y.map (Value.int q)).toArray) w:=by simp [part,isAgg,run_underlying ht,run_sizeOf w hj,a0,hy]
 have e:(Op.equalIn (d+2) f.type (.agg (x.map (Value.int q)).toArray) (.agg (y.map (Value.int q)).toArray)).run P w=.ok (decide (x=y)) w:=by
  rw [run_equalIn_array w (d+1) _ _ ht hi,hc,List.range_eq_range',aB2 w d hu x y (by omega) n 0 (by omega)]
  rfl
 simp only [Op.eqFields,hn,ne_eq,not_false_eq_true,if_true,Sem.run_bind,p1,p2,e,Result.andThen_ok]
 by_cases h:x=y
 ·simp [h]
 ·simp [h]
end
theorem ayC:((prog).fieldsOf 39).toList.map (λ f=>(f.name,f.type,f.offset))=[("Kind",3,0),("Links",3,1),("Parent",3,2),("Size",3,3),("Owned",3,4),("Direct",37,5),("Single",3,15),("Double",3,16)]:=by kernel_rfl
theorem aDD {a b:Nd} (ha:a.ptr.length=12) (hb:b.ptr.length=12):a=b↔a.kind=b.kind/\a.links=b.links/\a.parent=b.parent/\a.size=b.size/\a.owned=b.owned/\a.ptr.take 10=b.ptr.take 10/\a.ptr[10]=b.ptr[10]/\a.ptr[11]=b.ptr[11]:=by
 obtain ⟨a1,a2,a3,a4,a5,a6⟩:=a
 obtain ⟨b1,b2,b3,b4,b5,b6⟩:=b
 dsimp only at ha hb ⊢
 rw [Nd.mk.injEq]
 constructor
 ·rintro ⟨rfl,rfl,rfl,rfl,rfl,rfl⟩;exact ⟨rfl,rfl,rfl,rfl,rfl,rfl,rfl,rfl⟩
 ·rintro ⟨rfl,rfl,rfl,rfl,rfl,h6,h7,h8⟩
  refine ⟨rfl,rfl,rfl,rfl,rfl,?_⟩
  refine List.ext_getElem (by omega) λ i h1 h2=>?_
  by_cases hi:i<10
  ·have e1:(a6.take 10)[i]'(by rw [aEM];omega)=a6[i]:=List.getElem_take ..
   have e2:(b6.take 10)[i]'(by rw [aEM];omega)=b6[i]:=List.getElem_take ..
   rw [← e1,← e2]
   simp only [h6]
  ·by_cases hj:i=10
   ·subst hj;exact h7
   ·obtain rfl:i=11:=by omega
    exact h8
theorem abF {n:Nd} (h:n.ptr.length=12):(ndC n).toArray[0]? = some (I n.kind)/\(ndC n).toArray[1]? = some (I n.links)/\(ndC n).toArray[2]? = some (I n.parent)/\(ndC n).toArray[3]? = some (I n.size)/\(ndC n).toArray[4]? = some (I n.owned) /\
  (ndC n).toArray[15]? = some (I n.ptr[10])/\(ndC n).toArray[16]? = some (I n.ptr[11])/\(ndC n).toArray.extract 5 (5+10)=((n.ptr.take 10).map (Value.int .i64)).toArray:=by
 refine ⟨by simp [ndC,ndL],by simp [ndC,ndL],by simp [ndC,ndL],by simp [ndC,ndL],by simp [ndC,ndL],by simp [ndC,ndL,h],by simp [ndC,ndL,h],?_⟩
 apply Array.ext'
 simp [ndC,ndL,Array.toList_extract,List.extract]
theorem apA:(prog).stoodInHeld 39=false/\(prog).underlying 39=some (.struct ((prog).fieldsOf 39))/\(prog).underlying 3=some (.int .i64)/\(prog).underlying 37=some (.array 10 3)/\(prog).cellsOf 3=1/\(prog).cellsOf 37=10/\((prog).info? 3).isSome=true/\((prog).info? 37).isSome=true:=by
 refine ⟨by kernel_rfl,by kernel_rfl,by kernel_rfl,by kernel_rfl,by kernel_rfl,by kernel_rfl,by kernel_rfl,by kernel_rfl⟩
theorem aqH (w:World) {a b:Nd} (ha:a.ptr.length=12) (hb:b.ptr.length=12):(Op.equalIn 10000 39 (ndV a) (ndV b)).run prog w=.ok (decide (a=b)) w:=by
 have hf:=ayC
 obtain ⟨m1,m2,m3,m4,m5,m6,m7,m8⟩:=apA
 obtain ⟨i,hi⟩:=Option.isSome_iff_exists.1 m7
 obtain ⟨j,hj⟩:=Option.isSome_iff_exists.1 m8
 obtain ⟨x0,x1,x2,x3,x4,x5,x6,x7⟩:=abF ha
 obtain ⟨y0,y1,y2,y3,y4,y5,y6,y7⟩:=abF hb
 unfold ndV
 rw [show (10000:Nat)=9999+1 from rfl,run_equalIn_agg w 9999 39 _ _ m2 m1]
 generalize ((prog).fieldsOf 39).toList=L at hf
 rcases L with _|⟨f0,_|⟨f1,_|⟨f2,_|⟨f3,_|⟨f4,_|⟨f5,_|⟨f6,_|⟨f7,_|⟨f8,L⟩⟩⟩⟩⟩⟩⟩⟩⟩<;>simp only [List.map_cons,List.map_nil,List.cons.injEq,Prod.mk.injEq,reduceCtorEq,and_false,and_true] at hf
 ·obtain ⟨⟨n0,t0,o0⟩,⟨n1,t1,o1⟩,⟨n2,t2,o2⟩,⟨n3,t3,o3⟩,⟨n4,t4,o4⟩,⟨n5,t5,o5⟩,⟨n6,t6,o6⟩,⟨n7,t7,o7⟩⟩:=hf
  rw [show (9999:Nat)=9998+1 from rfl]
  rw [aiZ w 9998 (by rw [n0];decide) (by rw [t0];exact m3) (by rw [o0];exact x0) (by rw [o0];exact y0)]
  rw [aiZ w 9998 (by rw [n1];decide) (by rw [t1];exact m3) (by rw [o1];exact x1) (by rw [o1];exact y1)]
  rw [aiZ w 9998 (by rw [n2];decide) (by rw [t2];exact m3) (by rw [o2];exact x2) (by rw [o2];exact y2)]
  rw [aiZ w 9998 (by rw [n3];decide) (by rw [t3];exact m3) (by rw [o3];exact x3) (by rw [o3];exact y3)]
  rw [aiZ w 9998 (by rw [n4];decide) (by rw [t4];exact m3) (by rw [o4];exact x4) (by rw [o4];exact y4)]
  rw [show (9998+1:Nat)=9997+2 from rfl]
  rw [ayV w 9997 (n:=10) (e:=3) (by rw [n5];decide) (by rw [t5];exact m4) hi m5 (by rw [t5];exact hj) (by rw [t5];exact m6) m3 (by rw [o5];exact x7) (by rw [o5];exact y7) (by rw [aEM];omega) (by rw [aEM];omega)]
  rw [show (9997+2:Nat)=9998+1 from rfl]
  rw [aiZ w 9998 (by rw [n6];decide) (by rw [t6];exact m3) (by rw [o6];exact x5) (by rw [o6];exact y5)]
  rw [aiZ w 9998 (by rw [n7];decide) (by rw [t7];exact m3) (by rw [o7];exact x6) (by rw [o7];exact y6)]
  have hd:decide (a=b)=decide (a.kind=b.kind/\a.links=b.links/\a.parent=b.parent/\a.size=b.size/\a.owned=b.owned/\a.ptr.take 10=b.ptr.take 10/\a.ptr[10]=b.ptr[10]/\a.ptr[11]=b.ptr[11]):=decide_eq_decide.2 (aDD ha hb)
  rw [hd]
  have hz:(Op.eqFields (9998+1) (ndC a).toArray (ndC b).toArray []).run prog w=.ok true w:=by simp [Op.eqFields]
  rw [hz]
  by_cases c0:a.kind=b.kind
  ·by_cases c1:a.links=b.links
   ·by_cases c2:a.parent=b.parent
    ·by_cases c3:a.size=b.size
     ·by_cases c4:a.owned=b.owned
      ·by_cases c5:a.ptr.take 10=b.ptr.take 10
       ·by_cases c6:a.ptr[10]=b.ptr[10]
        ·by_cases c7:a.ptr[11]=b.ptr[11]
         ·simp [c0,c1,c2,c3,c4,c5,c6,c7]
         ·simp [c0,c1,c2,c3,c4,c5,c6,c7]
        ·simp [c0,c1,c2,c3,c4,c5,c6]
       ·simp [c0,c1,c2,c3,c4,c5]
      ·simp [c0,c1,c2,c3,c4]
     ·simp [c0,c1,c2,c3]
    ·simp [c0,c1,c2]
   ·simp [c0,c1]
  ·simp [c0]
theorem arT (w:World) {a b:Nd} (ha:a.ptr.length=12) (hb:b.ptr.length=12):(binOp .eql 39 (ndV a) (ndV b)).run prog w=.ok (.bool (decide (a=b))) w:=by
 have h:=aqH w ha hb
 unfold ndV at h ⊢
 rw [run_eql_struct,h]
 rfl
theorem acJ:∃ d,(prog).underlying 39=some d/\d.isRow=true:=⟨_,apA.2.1,rfl⟩
theorem aaK:((prog).info? 39).map (·.size)=some 17:=by kernel_rfl
theorem aeL (w:World) (n:Nd):(Instr.box 39 (ndV n)).run prog w=.ok ↑w.heap.size (w.alloc (ndO n)):=by kernel_rfl
def btw (v lo hi:Int):Bool:=decide (lo<=v/\v<=hi)
theorem awO (v lo hi:Int) (w:World):Calls prog 228 #[I v,I lo,I hi] w λ e w'=>e=U (.bool (btw v lo hi))/\w=w':=by
 by_cases h1:lo<=v
 ·by_cases h2:v<=hi
  ·have hb:btw v lo hi=true:=decide_eq_true ⟨h1,h2⟩
   generalize btw v lo hi=b at hb ⊢
   replace hb:=hid hb
   go_enter Tryz.func228,Tryz.ntmps228
   go_wp2
   go_ret
   exact ⟨by rw [hb.out];rfl,rfl⟩
  ·have hb:btw v lo hi=false:=decide_eq_false (λ x=>h2 x.2)
   generalize btw v lo hi=b at hb ⊢
   replace hb:=hid hb
   go_enter Tryz.func228,Tryz.ntmps228
   go_wp2
   go_ret
   exact ⟨by rw [hb.out];rfl,rfl⟩
 ·have hb:btw v lo hi=false:=decide_eq_false (λ x=>h1 x.1)
  generalize btw v lo hi=b at hb ⊢
  replace hb:=hid hb
  go_enter Tryz.func228,Tryz.ntmps228
  go_wp2
  go_ret
  exact ⟨by rw [hb.out];rfl,rfl⟩
def fitA (n:Nd):Bool:=btw n.kind 1 3 && (btw n.links 0 64 && (btw n.size 0 8459264 && btw n.owned 0 2048))
def fitP (n:Nd):Bool:=if n.kind=2 then btw n.parent 1 1024 else decide (n.parent=0)
def fitQ (n:Nd) (k:Nat):Bool:=(n.ptr.take k).all λ x=>btw x 0 2047
theorem aDS {n:Nd} (h0:n≠Nd.zero):(fitA n && fitP n && fitQ n n.ptr.length)=decide (Ac4 n):=by
 rw [Bool.eq_iff_iff]
 simp only [Bool.and_eq_true,decide_eq_true_eq,fitA,fitQ,List.take_length,List.all_eq_true,btw]
 constructor
 ·rintro ⟨⟨⟨a,b,c,d⟩,e⟩,f⟩
  refine .inr ⟨a,b,c,d,λ k=>?_,λ k=>?_,λ x hx=>by have:=f x hx;omega⟩
  ·unfold fitP at e;rw [if_pos k] at e;simpa [btw] using e
  ·unfold fitP at e;rw [if_neg k] at e;simpa using e
 ·rintro (x|⟨a,b,c,d,e,f,g⟩)
  ·exact absurd x h0
  ·refine ⟨⟨⟨a,b,c,d⟩,?_⟩,λ x hx=>by have:=g x hx;omega⟩
   unfold fitP
   by_cases k:n.kind=2
   ·rw [if_pos k];simpa [btw] using e k
   ·rw [if_neg k];simpa using f k
theorem avZ {n:Nd} {k:Nat} (hk:k<n.ptr.length):fitQ n (k+1)=(fitQ n k && btw n.ptr[k] 0 2047):=by
 unfold fitQ
 rw [aE6 hk,List.all_append]
 simp
section
variable {P:Program} {w:World} {ops:Array Oper} {rest:List Oper} {o:Oper} {a:Act} {K:Act->World->Prop} {Q:Exit->Act->World->Prop}
theorem asG (s x:Operand) (t:TypeId) (ho:o.op=.call { callee:=.builtin .append,args:=#[s,x],argTypes:=#[t,t] })
  (e:TypeId) (i:TypeInfo) (z:Value) (bytes:Nat) (ht:P.underlying t=some (.slice e)) (hi:P.info? e=some i) (hz:i.zero=some z) (a0:i.size=1) (a3:i.bytes=bytes)
  (g off n c g2 off2 m c2:Nat) (hs:a.eval s=.slice (some ⟨g,off,none⟩) n c) (hx:a.eval x=.slice (some ⟨g2,off2,none⟩) m c2)
  (olds news:List Value) (a4:olds.length=n) (a5:news.length=m) (a1:∀ j v,olds[j]? = some v->w.cell? ((⟨g,off,none⟩:Addr).add j)=some v) (a2:∀ j v,news[j]? = some v->w.cell? ((⟨g2,off2,none⟩:Addr).add j)=some v)
  (hc:c<n+m) (hl:n+m<=1048576) (a7:(n+m)*bytes<=140737488355328)
  (nm:Nat) (a6:n+m=nm)
  (h:∀ cap w',(∀ j v,(olds++news)[j]? = some v->w'.cell? ⟨w.heap.size,j,none⟩=some v)->AaA NoF w w'->K (a.put o.dst (.slice ↑w.heap.size nm cap)) w'):o.wp P a w K Q:=by
 have hr:=run_append_grow (P:=P) w t o.type e i z ht hi hz ⟨g,off,none⟩ n c olds (by rw [a4,a0];omega) a1 ⟨g2,off2,none⟩ m c2 news (by rw [a5,a0];omega) a2 hc (by omega)
  (growslice_fits (by omega) (by rw [a3];omega))
 subst a6
 unfold Oper.wp execOp
 simp only [ho,resolve,invoke,builtin,Sem.run_bind,Sem.run_pure,Result.andThen_ok,List.map_toArray,List.map_cons,List.map_nil,hs,hx,hr]
 refine h _ _ (λ j v hj=>?_) ⟨rfl,rfl,rfl,by simp,λ q hq _=>Below.heap_alloc w.drew _ q hq⟩
 have hb:=Blk.new w.drew (.cells (olds.toArray++news.toArray++Builtin.zeroCells z.cells (grownCap w (n+m) c e - (n+m))) e (0,0))
 refine (hb.cell j).trans ?_
 rw [← Array.getElem?_toList,Array.toList_append,Array.toList_append]
 rw [List.getElem?_append_left (by
  have:=(List.getElem?_eq_some_iff.1 hj).1
  simpa using this)]
 exact hj
end
end Go.Vk
