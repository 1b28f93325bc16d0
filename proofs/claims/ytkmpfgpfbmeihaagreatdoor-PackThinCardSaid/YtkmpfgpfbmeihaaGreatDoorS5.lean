/-
  Texts of this proof, one behind the other: PkLaw, PkLaw2, Take, Put, Read, HuffC, HuffD, HuffM, HuffR.
-/
import Derived.Test.YtkmpfgpfbmeihaaGreatDoorS4
import Derived.OwnWalk
import Derived.Laws.OwnMore
set_option maxHeartbeats 16000000
set_option maxRecDepth 100000
set_option linter.unusedVariables false
set_option linter.unusedSimpArgs false
namespace Go.Proofs.YtkmpfgpfbmeihaaGreatDoor.pk
open Go lib
structure Ent where
 kind:Nat
 at_:Nat
 size:Nat
 crc:Nat
 data:List UInt8
 base:List UInt8
 off:Nat
def phF (bs:List UInt8):Nat→Nat→Nat→Nat→Except Nat (Nat×Nat×Nat)
 | 0,_,_,_=>.error 3
 | f+1,i,kind,size=>match bs[i]? with
  | none=>.error 4
  | some c=>
   if i=0 then
    if c.toNat/16%8=0∨c.toNat/16%8=5 then .error 3
    else if 128≤c.toNat then phF bs f 1 (c.toNat/16%8) (c.toNat%16) else .ok (c.toNat/16%8,c.toNat%16,1)
   else if 128≤c.toNat then phF bs f (i+1) kind (size+c.toNat%128*2^(7*i-3))
   else if 2147483647<size+c.toNat%128*2^(7*i-3) then .error 3
   else if 65536<size+c.toNat%128*2^(7*i-3) then .error 5
   else .ok (kind,size+c.toNat%128*2^(7*i-3),i+1)
def phead (bs:List UInt8):Except Nat (Nat×Nat×Nat):=phF bs 5 0 0 0
def pbF (bs:List UInt8):Nat→Nat→Nat→Except Nat (Nat×Nat)
 | 0,_,_=>.error 3
 | f+1,i,v=>match bs[i]? with
  | none=>.error 4
  | some c=>if c.toNat<128 then .ok ((if 0<i then (v+1)*128 else 0)+c.toNat%128,i+1) else pbF bs f (i+1) ((if 0<i then (v+1)*128 else 0)+c.toNat%128)
def pback (bs:List UInt8):Except Nat (Nat×Nat):=pbF bs 5 0 0
def pbase (bs:List UInt8) (at_ kind p:Nat):Except Nat (List UInt8×Nat×Nat):=
 if kind=6 then match pback (bs.drop p) with
  | .error e=>.error e
  | .ok (v,k)=>if v<1∨at_<v then .error 3 else .ok ([],at_-v,p+k)
 else if kind=7 then if bs.length-p<20 then .error 4 else .ok (hexb ((bs.drop p).take 20),0,p+20)
 else .ok ([],0,p)
def pentry (bs:List UInt8) (at_:Nat):Except Nat (Ent×Nat):=
 match phead (bs.drop at_) with
 | .error e=>.error e
 | .ok (kind,size,n)=>match pbase bs at_ kind (at_+n) with
  | .error e=>.error e
  | .ok (base,off,q)=>match inf.izlib (bs.drop q) 65536 with
   | .error e=>.error e
   | .ok (out,k)=>if out.length=size then .ok (⟨kind,at_,size,crc.crc ((bs.drop at_).take (q+k-at_)),out,base,off⟩,q+k) else .error 3
def pents (bs:List UInt8):Nat→Nat→List Ent→Except Nat (List Ent×Nat)
 | 0,at_,l=>.ok (l,at_)
 | n+1,at_,l=>match pentry bs at_ with
  | .error e=>.error e
  | .ok (x,p)=>pents bs n p (l++[x])
def begin8:List UInt8:=[80,65,67,75,0,0,0,2]
def pread (bs:List UInt8):Except Nat (List Ent×List UInt8):=
 if 1048576<bs.length then .error 5
 else if bs.take 8≠begin8.take bs.length then .error 3
 else if bs.length<12 then .error 4
 else if 4096<crc.getb ((bs.drop 8).take 4) then .error 5
 else match pents bs (crc.getb ((bs.drop 8).take 4)) 12 [] with
  | .error e=>.error e
  | .ok (l,at_)=>if bs.length-at_<20 then .error 4
   else if (bs.drop at_).take 20≠sha.sha1 (bs.take at_) then .error 6
   else if at_+20<bs.length then .error 3
   else .ok (l,hexb (sha.sha1 (bs.take at_)))
structure Obj where
 kind:Int
 body:List UInt8
 id:List UInt8
 at_:Int
 crc:Nat
structure Kn where
 kind:Int
 body:List UInt8
 id:List UInt8
def oid (kind:Int) (body:List UInt8):List UInt8:=hexb (sha.sha1 (obj.header kind body.length++body))
def whole (r:Ent) (kind:Int) (body:List UInt8):Obj:=⟨kind,body,oid kind body,r.at_,r.crc⟩
abbrev St:=Option (Except Nat (Obj×Nat))
def over (r:Ent) (kind:Int) (base:List UInt8) (d:Nat):Except Nat (Obj×Nat):=
 if 50<d+1 then .error 3 else if (delta.apply base r.data 65536).2=0 then .ok (whole r kind (delta.apply base r.data 65536).1,d+1) else .error (delta.apply base r.data 65536).2
def atOf (l:List Ent) (i off:Nat):Option Nat:=(List.range i).find? λk=>match l[k]? with
 | some y=>y.at_==off
 | none=>false
def idIs (id:List UInt8):St→Bool
 | some (.ok (o,_))=>o.id==id
 | _=>false
def first1 (l:List Ent) (i:Nat) (x:Ent):St:=
 if x.kind=6 then (match atOf l i x.off with
  | none=>some (.error 3)
  | some _=>none)
 else if x.kind=7 then none else some (.ok (whole x x.kind x.data,0))
def firsts (l:List Ent):List St:=(List.range l.length).map λi=>match l[i]? with
 | some x=>first1 l i x
 | none=>none
def onto (x:Ent):St→St
 | none=>none
 | some (.error e)=>some (.error e)
 | some (.ok (o,d))=>some (over x o.kind o.body d)
def try1 (l:List Ent) (W:List St) (i:Nat) (x:Ent):St:=
 if x.kind=6 then (match atOf l i x.off with
  | none=>none
  | some k=>onto x (W[k]?.getD none))
 else onto x ((W.find? (idIs x.base)).getD none)
def pass (l:List Ent):Nat→Nat→List St→Bool→List St×Bool
 | 0,_,W,more=>(W,more)
 | n+1,i,W,more=>match l[i]?,W[i]? with
  | some x,some none=>(match try1 l W i x with
   | none=>pass l n (i+1) W more
   | some s=>pass l n (i+1) (W.set i (some s)) true)
  | _,_=>pass l n (i+1) W more
def kfind (kn:List Kn) (id:List UInt8):Option Kn:=kn.find? λk=>k.id==id&&oid k.kind k.body==id
def ask (l:List Ent) (kn:List Kn):Nat→Nat→List St→Option (List St)
 | 0,_,_=>none
 | n+1,i,W=>match l[i]?,W[i]? with
  | some x,some none=>if x.kind=7 then (match kfind kn x.base with
    | some k=>some (W.set i (some (over x k.kind k.body 0)))
    | none=>ask l kn n (i+1) W) else ask l kn n (i+1) W
  | _,_=>ask l kn n (i+1) W
def resF (l:List Ent) (kn:List Kn):Nat→List St→List St
 | 0,W=>W
 | f+1,W=>if (pass l l.length 0 W false).2 then resF l kn f (pass l l.length 0 W false).1 else match ask l kn l.length 0 (pass l l.length 0 W false).1 with
  | some W2=>resF l kn f W2
  | none=>(pass l l.length 0 W false).1
def gather:List St→Except Nat (List Obj)
 | []=>.ok []
 | none::_=>.error 61
 | some (.error e)::_=>.error e
 | some (.ok (o,_))::t=>match gather t with
  | .error e=>.error e
  | .ok r=>.ok (o::r)
def resolve (l:List Ent) (kn:List Kn):Except Nat (List Obj):=gather (resF l kn (l.length+1) (firsts l))
theorem qqu (bs:List UInt8):∀(f i kind size:Nat) {k s n:Nat},phF bs f i kind size = .ok (k,s,n)→i<n∧n≤i+f∧n≤bs.length∧s≤65536
 | 0,i,kind,size,k,s,n,h=>by cases h
 | f+1,i,kind,size,k,s,n,h=>by
  rw[phF]at h;split at h
  ·cases h
  ·rename_i c hc;have hlt:=(qa9.1 hc).1;split at h
   ·split at h
    ·cases h
    ·split at h
     ·obtain⟨h1,h2,h3,h4⟩:=qqu bs f _ _ _ h;exact⟨by omega,by omega,h3,h4⟩
     ·simp only[qa6,qa4]at h;omega
   ·split at h
    ·obtain⟨h1,h2,h3,h4⟩:=qqu bs f _ _ _ h;exact⟨by omega,by omega,h3,h4⟩
    ·split at h
     ·cases h
     ·split at h
      ·cases h
      ·simp only[qa6,qa4]at h;obtain⟨_,h2,h3⟩:=h;exact⟨by omega,by omega,by omega,by omega⟩
theorem zdp (bs:List UInt8):∀(f i v:Nat) {x n:Nat},pbF bs f i v = .ok (x,n)→i<n∧n≤bs.length
 | 0,i,v,x,n,h=>by cases h
 | f+1,i,v,x,n,h=>by
  rw[pbF]at h;split at h
  ·cases h
  ·rename_i c hc;have hlt:=(qa9.1 hc).1;split at h
   ·simp only[qa6,qa4]at h;omega
   ·obtain⟨h1,h2⟩:=zdp bs f _ _ h;exact⟨by omega,h2⟩
theorem qtz {bs:List UInt8} {at_ kind p:Nat} {base:List UInt8} {off q:Nat} (hp:p≤bs.length) (h:pbase bs at_ kind p = .ok (base,off,q)):p≤q∧q≤bs.length∧base.length≤40∧off≤at_:=by
 unfold pbase at h;split at h
 ·split at h
  ·cases h
  ·rename_i v k hb;obtain⟨h1,h2⟩:=zdp _ _ _ _ hb;rw[qav]at h2;split at h
   ·cases h
   ·simp only[qa6,qa4]at h;obtain⟨rfl,rfl,rfl⟩:=h;exact⟨by omega,by omega,by simp,by omega⟩
 ·split at h
  ·split at h
   ·cases h
   ·simp only[qa6,qa4]at h;obtain⟨rfl,rfl,rfl⟩:=h;exact⟨by omega,by omega,by rw[hexb_length,qaq];omega,by omega⟩
  ·simp only[qa6,qa4]at h;obtain⟨rfl,rfl,rfl⟩:=h;exact⟨by omega,hp,by simp,by omega⟩
def undone:List St→Nat
 | []=>0
 | none::t=>undone t+1
 | some _::t=>undone t
theorem qlx:∀W:List St,undone W≤W.length
 | []=>qae _
 | none::t=>by have:=qlx t;simp only[undone,qao];omega
 | some _::t=>by have:=qlx t;simp only[undone,qao];omega
theorem qj6:∀(W:List St) (i:Nat) (s:Except Nat (Obj×Nat)),W[i]?=some none→undone (W.set i (some s))+1=undone W
 | [],i,s,h=>by simp at h
 | x::t,0,s,h=>by
  simp only[qac,qaw]at h;subst h;rfl
 | x::t,i+1,s,h=>by
  simp only[qaf]at h;have:=qj6 t i s h;cases x with
  | none=>simp only[qbx,undone];omega
  | some y=>simp only[qbx,undone];omega
theorem qg8 (l:List Ent):∀(n i:Nat) (W:List St) (more:Bool),(pass l n i W more).1.length=W.length∧undone (pass l n i W more).1≤undone W∧((pass l n i W more).2=true→more=true∨undone (pass l n i W more).1<undone W)
 | 0,i,W,more=>⟨rfl,qae _,λh=>.inl h⟩
 | n+1,i,W,more=>by
  rw[pass];split
  ·rename_i x hx hW;split
   ·exact qg8 l n _ _ _
   ·rename_i s hs;obtain⟨h1,h2,h3⟩:=qg8 l n (i+1) (W.set i (some s)) true;have h4:=qj6 W i s hW;refine⟨by rw[h1,List.length_set],by omega,λ_=>.inr (by omega)⟩
  ·exact qg8 l n _ _ _
theorem qil (l:List Ent) (kn:List Kn):∀(n i:Nat) (W:List St) {W2:List St},ask l kn n i W=some W2→W2.length=W.length∧undone W2<undone W
 | 0,i,W,W2,h=>by cases h
 | n+1,i,W,W2,h=>by
  rw[ask]at h;split at h
  ·rename_i x hx hW;split at h
   ·split at h
    ·rename_i k hk;simp only[qaw]at h;have h4:=qj6 W i (over x k.kind k.body 0) hW;subst h;exact⟨by rw[List.length_set],by omega⟩
    ·exact qil l kn n _ _ h
   ·exact qil l kn n _ _ h
  ·exact qil l kn n _ _ h
theorem qhd (l:List Ent):(firsts l).length=l.length:=by unfold firsts;simp
theorem qok (l:List Ent) (i:Nat) (x:Ent) (h:l[i]?=some x):(firsts l)[i]?=some (first1 l i x):=by have hi:=(qa9.1 h).1;unfold firsts;rw[qbl,qwg hi];simp only[qfr,h]
theorem qxp (l:List Ent) (n i:Nat) (W:List St) (more:Bool) (x:Ent) (hx:l[i]?=some x) (s:St) (hW:W[i]?=some s) :
  pass l (n+1) i W more=if s=none then (match try1 l W i x with
   | none=>pass l n (i+1) W more
   | some s=>pass l n (i+1) (W.set i (some s)) true) else pass l n (i+1) W more:=by
 cases s with
 | none=>rw[pass,hx,hW];simp<;>rfl
 | some s=>rw[pass,hx,hW];simp
end Go.Proofs.YtkmpfgpfbmeihaaGreatDoor.pk
namespace Go.Proofs.YtkmpfgpfbmeihaaGreatDoor.bits
open Go Go.RowKit lib bm
def RdT (T:TypeId) (w:World) (p:Nat) (F:List Nat) (bs:List UInt8) (at_:Nat):Prop:=
 ∃ao cap,w.heap[p]?=some (.cells #[.slice ao bs.length cap,.int .i64 at_] T (0,0))∧Cs w ao (bs.map bv)∧F=p::blk ao∧
  p∉blk ao∧bs.length≤140737488351232∧at_≤8*bs.length∧bs.length≤cap∧cap≤maxLen∧(ao=none→cap=0)
abbrev Rd (w:World) (p:Nat) (F:List Nat) (bs:List UInt8) (at_:Nat):Prop:=RdT 264 w p F bs at_
theorem qej (p:Nat) (F:List Nat) (bs:List UInt8) (at_:Nat) (n:Int) (w:World) (hR:Rd w p F bs at_) (hn0:0≤n) (hn2:n≤32) (hn3:at_+n≤8*bs.length) :
  Calls Tryz.prog 165 #[.pointer (some ⟨p,0,none⟩),.int .i64 n] w λe w'=>
   e = .returned (.tuple #[.int .u32 (num bs/2^at_%2^n.toNat:Nat),.bool true])∧Rd w' p F bs (at_+n.toNat)∧Fr [p] w w':=by
 obtain⟨ao,cap,hr,hcs,rfl,hpb,hlen,hat,hcap,hmax⟩:=hR;obtain⟨n,rfl⟩:=qds hn0;have h1:decide ((n:Int)<0)=false:=by simp
 have h2:decide (32<(n:Int))=false:=by simp;omega
 have h3:decide (8*(bs.length:Int)-at_<(n:Int))=false:=by simp;omega
 have c0:=cell_of hr 0;have c1:=cell_of hr 1;simp only[qag,qac,qaf]at c0 c1;have Hr:=zhd hr;clear hr;go_enter Tryz.func165,Tryz.ntmps165;go_wp2;go_quiet (fail);clear c0 c1;go_wp2;go_loopw [6,7] (λv i wr=>∃k:Nat,k≤n∧i = .int .i64 k∧v = .int .u32 (num bs/2^at_%2^k:Nat)∧
   wr.heap[p]?=some (.cells #[.slice ao bs.length cap,.int .i64 (at_+k:Nat)] 264 (0,0))∧Fr [p] w wr)
  (λ_ i _=>n-(intOf i).toNat)
 case atStart=>exact⟨0,by omega,rfl,by simp[Nat.mod_one],by simpa using Hr.out,Fr.drewN _ _ _⟩
 case round=>
  obtain⟨k,hk,rfl,rfl,hr',hb⟩:=hrel;by_cases hkn:k<n
  ·obtain⟨g,o,rfl,hc⟩:=hcs.at (by simp;omega);have hq:(at_+k)/8<bs.length:=by omega
   have cd:wr.cell? ⟨g,o+(at_+k)/8,none⟩=some (bv (bs.getD ((at_+k)/8) 0)):=by refine hb.cell (hc _ _ ?_) (by simpa[blk,eq_comm] using hpb);simp[List.getD,hq]
   unfold bv at cd;have c0:=cell_of hr' 0;have c1:=cell_of hr' 1;have f1:=qau hr' 1;simp only[qag,qac,qaf]at c0 c1;have Hr':=zhd hr';clear hr' hc;have hby:(bs.getD ((at_+k)/8) 0).toNat<256:=qbc _;generalize hbn:(bs.getD ((at_+k)/8) 0).toNat=bn at cd hby;have Hbn:=zhd hbn;clear hbn;have hv:num bs/2^at_%2^k<4294967296:=by refine qat (qgs _ (qbt _)) ?_;exact qa3 (by omega) (show k≤32 by omega)
   generalize hvn:num bs/2^at_%2^k=vn at hv ⊢;have Hvn:=zhd hvn;clear hvn;go_wp2;all_goals
    go_quiet (fail)
    go_wp2
    go_roundw
    case rel=>
     first
     | exact⟨k+(n-k),by omega,int_eq (by omega),int_eq (qqb bs at_ k (n-k) vn bn hq (by omega) (by omega) Hvn.out Hbn.out),
       (qax (w:=wr.drewN nq) Hr'.out _).trans (by simp;omega),(hb.drewsN nq).setCell (by simp) _⟩
     | exact⟨k+(8-(at_+k)%8),by omega,int_eq (by omega),int_eq (qqb bs at_ k (8-(at_+k)%8) vn bn hq (by omega) (by omega) Hvn.out Hbn.out),
       (qax (w:=wr.drewN nq) Hr'.out _).trans (by simp;omega),(hb.drewsN nq).setCell (by simp) _⟩
    case measure=>simp[intOf];omega
  ·obtain rfl:k=n:=by omega
   have hcs':Cs wr ao (bs.map bv):=hcs.fr hb (by intro x hx;simp;rintro rfl;exact hpb hx);have Hr':=zhd hr';clear hr' hcs;go_wp2;go_ret2;exact⟨by simp,⟨ao,cap,by simpa using Hr'.out,hcs',rfl,hpb,hlen,by simp;omega,hcap,hmax⟩,hb⟩
theorem qgb (p:Nat) (F:List Nat) (bs:List UInt8) (at_:Nat) (n:Int) (w:World) (hR:Rd w p F bs at_) (hn:n<0∨32<n∨8*bs.length<at_+n) :
  Calls Tryz.prog 165 #[.pointer (some ⟨p,0,none⟩),.int .i64 n] w λe w'=>
   e = .returned (.tuple #[.int .u32 0,.bool false])∧Rd w' p F bs at_∧Fr [] w w':=by
 obtain⟨ao,cap,hr,hcs,rfl,hpb,hlen,hat,hcap,hmax⟩:=hR;have c0:=cell_of hr 0;have c1:=cell_of hr 1;simp only[qag,qac,qaf]at c0 c1;have Hr:=zhd hr;clear hr;have done:∀m,Rd (w.drewN m) p (p::blk ao) bs at_:=λm=>⟨ao,cap,Hr.out,hcs,rfl,hpb,hlen,hat,hcap,hmax⟩
 have Hd:=zhd done;clear done;by_cases a1:n<0
 ·have h1:decide (n<0)=true:=by simp;omega
  go_enter Tryz.func165,Tryz.ntmps165;go_wp2;go_quiet (fail);go_wp2;go_ret2;exact⟨rfl,Hd.out _,Fr.drewN _ _ _⟩
 ·have h1:decide (n<0)=false:=by simp;omega
  by_cases a2:32<n
  ·have h2:decide (32<n)=true:=by simp;omega
   go_enter Tryz.func165,Tryz.ntmps165;go_wp2;go_quiet (fail);go_wp2;go_ret2;exact⟨rfl,Hd.out _,Fr.drewN _ _ _⟩
  ·have h2:decide (32<n)=false:=by simp;omega
   have h3:decide (8*(bs.length:Int)-at_<n)=true:=by simp;omega
   go_enter Tryz.func165,Tryz.ntmps165;go_wp2;go_quiet (fail);go_wp2;go_ret2;exact⟨rfl,Hd.out _,Fr.drewN _ _ _⟩
theorem sliceU8:SliceTy Tryz.prog 23 5 (.int .u8 0) 1 1:=SliceTy.of Tryz.underlying23 (by kernel_rfl) rfl (by decide)
def Wv (w:World) (p:Nat) (v:Value) (M L:Nat):Prop:=
 w.heap[p]?=some (.cells #[v,.int .u64 (M/2^(8*(L/8)):Nat),.int .i64 (L%8:Nat)] 245 (0,0))∧
  w.ownsRow 0 5 1 v (L/8) ((dig (L/8) M).map bv)∧v.ownBlock≠some p∧M<2^L
def Wr (w:World) (p:Nat) (F:List Nat) (M L:Nat):Prop:=∃v,Wv w p v M L∧F=p::v.ownBlock.toList
theorem quy (W:Nat):Value.int .u8 (IntKind.u8.wrap (W:Int))=bv (UInt8.ofNat W):=by unfold bv;rw[IntKind.wrap_u8',qcy];exact int_eq (by omega)
theorem zfs (q N:Nat):(dig (q+1) N).map bv=(dig q N).map bv++[Value.int .u8 (IntKind.u8.wrap ((N/2^(8*q):Nat):Int))]:=by rw[qur,qbe,quy];rfl
theorem za6 (K q:Nat):K-8*q-8=K-8*(q+1):=by omega
theorem zcv (N q:Nat):N/2^(8*q)/2^8=N/2^(8*(q+1)):=by rw[qgy,<-qci,qhl]
theorem zgb (p:Nat) (F:List Nat) (M L:Nat) (x:Nat) (n:Int) (w:World) (hW:Wr w p F M L) (hx:x<4294967296) (hL:L≤562949953421312) :
  Calls Tryz.prog 247 #[.pointer (some ⟨p,0,none⟩),.int .u32 x,.int .i64 n] w λe w'=>
   e = .returned (.tuple #[])∧Fr F w w'∧∃F',Wr w' p F' (M+2^L*(x%2^(min n.toNat 32))) (L+min n.toNat 32)∧∀y∈F',y∈F∨w.heap.size≤y:=by
 obtain⟨v,⟨hr,hown,hpb,hM⟩,rfl⟩:=hW;have c0:=cell_of hr 0;have c1:=cell_of hr 1;have c2:=cell_of hr 2;simp only[qag,qac,qaf]at c0 c1 c2;have f1:=qau hr 1;have f2:=qau hr 2;have Hr:=zhd hr;clear hr;obtain⟨W,hW⟩:∃W:Nat,W=M/2^(8*(L/8)):=⟨_,rfl⟩;rw[<-hW]at c1;have HW:=zhd hW;clear hW;go_enter Tryz.func247,Tryz.ntmps247;go_upto_region 0 with fail;obtain⟨m,hm,hm32⟩:∃m:Nat,m=min n.toNat 32∧m≤32:=⟨_,rfl,by omega⟩;have Hm:=zhd hm;clear hm;go_cut [2] (λn2 wc=>n2 = .int .i64 m∧w=wc);case first=>go_wp2;all_goals (go_meet;exact⟨int_eq (by have:=Hm.out;omega),rfl⟩)
 case rest=>
 obtain⟨rfl,rfl⟩:=hcut;go_upto_region 1 with fail;have hl8:L%8<8:=by omega
 go_cut [] (λwc=>wc.heap[p]?=some (.cells #[v,.int .u64 ((M+2^L*(x%2^m))/2^(8*(L/8)):Nat),.int .i64 (L%8:Nat)] 245 (0,0))∧Fr [p] w wc);case first=>
  go_region;all_goals go_wp2
  go_meet;refine⟨(qax Hr.out _).trans ?_,((Fr.refl _ w).setCell (by simp) _).drew⟩;have e:=zbn M L x m hM hx hm32;rw[<-HW.out]at e;rw[e];rfl
 case rest=>
 obtain⟨hr1,fr1⟩:=hcut;clear c2 f2;have c2:=cell_of hr1 2;have f2:=qau hr1 2;simp only[qag,qac,qaf]at c2;go_upto_region 2 with fail;go_cut [] (λwz=>wz.heap[p]?=some (.cells #[v,.int .u64 ((M+2^L*(x%2^m))/2^(8*(L/8)):Nat),.int .i64 (L%8+m:Nat)] 245 (0,0))∧Fr [p] w wz);case first=>have Hr1:=zhd hr1;clear hr1;go_wp2;go_meet;exact⟨(qax Hr1.out _).trans rfl,fr1.setCell (by simp) _⟩
 case rest=>
 obtain⟨hr2,fr2⟩:=hcut;have hN:=zgc M L x m hM;have hdig:dig (L/8) (M+2^L*(x%2^m))=dig (L/8) M:=by rw[show 2^L=2^(8*(L/8))*2^(L%8) from by rw[<-qci,qla],qc4,qs6]
 rw[<-hdig]at hown;clear hdig;have Hm':=zhd Hm;clear hr1 c2 f2 Hm Hr c0 c1 f1;obtain⟨N,hNe⟩:=zex (M+2^L*(x%2^m));rw[<-hNe]at hr2 hN hown;have HN:=zhd hNe;clear hNe;have hK:L/8*8≤L+m:=by omega
 have own2:=qa7 (hown) fr2 (by intro k hk;simp;rintro rfl;exact hpb hk);have HM:=zhd hM;have HR2:=zhd hr2;clear hM hr2 hown;go_wp2;go_loopg [] 5 (λk wr=>∃(u:Value) (q:Nat),k+q=L/8+5∧L/8≤q∧8*q≤L+m∧
  wr.heap[p]?=some (.cells #[u,.int .u64 (N/2^(8*q):Nat),.int .i64 (L+m-8*q:Nat)] 245 (0,0))∧
  wr.ownsRow 0 5 1 u q ((dig q N).map bv)∧u.ownBlock≠some p∧Fr (p::v.ownBlock.toList) w wr∧(∀y,u.ownBlock=some y→v.ownBlock=some y∨w.heap.size≤y))
 case atStart=>exact⟨v,L/8,by omega,by omega,by omega,by rw[HR2.out,show L+m-8*(L/8)=L%8+m from by omega],own2,hpb,fr2.mono (by simp),λy hy=>.inl hy⟩
 case round=>
  obtain⟨u,q,hgk,hq1,hq2,hr,hown,hub,hfr,hown'⟩:=hrel;have c0:=cell_of hr 0;have c1:=cell_of hr 1;have c2:=cell_of hr 2;simp only[qag,qac,qaf]at c0 c1 c2;have f0:=qau hr 0;have f1:=qau hr 1;have f2:=qau hr 2;have Hr:=zhd hr;clear hr;by_cases hlt:8≤L+m-8*q
  ·obtain⟨W,hW⟩:∃W:Nat,W=N/2^(8*q):=⟨_,rfl⟩;rw[<-hW]at c1;have HW:=zhd hW;clear hW;have hps:p<wr.heap.size:=lt_of_block Hr.out;have ea:p≠wr.heap.size:=Nat.ne_of_lt hps;go_upto_region 5 with fail;go_cut [] (λwz=>∃u',wz.heap[p]?=some (.cells #[u',.int .u64 (N/2^(8*q):Nat),.int .i64 (L+m-8*q:Nat)] 245 (0,0))∧
      wz.ownsRow 0 5 1 u' (q+1) ((dig (q+1) N).map bv)∧u'.ownBlock≠some p∧Fr (p::v.ownBlock.toList) w wz∧(∀y,u'.ownBlock=some y→v.ownBlock=some y∨w.heap.size≤y))
   case first=>
    go_region_law (refine step_append sliceU8 rfl (.tmp 51) (.tmp 57) rfl u q ((dig q N).map bv) _ (by rfl) (by rfl) (by first|exact hown.alloc _|exact hown.drew.alloc _) _ 1 1 _ (by rfl) (by decide) (by simp) (by exact qdp _ _ _ _ (qay _ _)) (by rfl) (by simp[Value.oneCell']) (by omega) (by unfold maxLen;omega) ?_;intro ao1 cap1 w1 A1;have hb1:=A1.fr.blk (qcx _ Hr.out) (by simpa using hub);have g0:=cell_of hb1 0;have g1:=qau hb1 0;simp only[qag,qac]at g0);all_goals go_wp2
    all_goals go_meet
    all_goals
     have hsz:=hfr.size
     have hat:=A1.at_
     simp only[World.size_drew,qa1]at hat
     have hne:(Value.slice ao1 (q+1) cap1).ownBlock≠some p:=by
      intro h
      rcases hat p (by rw[<-qby ao1 (q+1) cap1,h];simp) with h|h
      ·exact hub (by simpa using h)
      ·omega
     refine⟨_,(qax hb1 _).trans rfl,?_,hne,?_,?_⟩
     ·rw[zfs,<-HW.out]
      exact ownsRow_setCell_other A1.own hne _
     ·refine Fr.setCell (((hfr.alloc _).drew).step A1.fr ?_) (by simp) _
      intro k hk
      rcases hown' k (by simpa using hk) with h|h
      ·left;simp[h]
      ·right;exact h
     ·intro y hy
      rcases hat y (by rw[<-qby ao1 (q+1) cap1,hy];simp) with h|h
      ·exact hown' y (by simpa using h)
      ·right;omega
   case rest=>
   obtain⟨u',hr',own',hub',fr',ob'⟩:=hcut;clear c0 c1 c2 f0 f1 f2 hown hub hfr hown' ea hps;have c1:=cell_of hr' 1;have c2:=cell_of hr' 2;simp only[qag,qac,qaf]at c1 c2;have f1:=qau hr' 1;have f2:=qau hr' 2;have Hr':=zhd hr';clear hr';rw[<-HW.out]at c1;go_wp2;go_roundg (gk-1);case measure=>omega
   case rel=>
    refine⟨u',q+1,by omega,by omega,by omega,(qax (qax Hr'.out _) _).trans ?_,ownsRow_setCell_other (ownsRow_setCell_other own' hub' _) hub' _,hub',Fr.setCell (fr'.setCell (by simp) _) (by simp) _,ob'⟩;rw[<-zcv,<-HW.out,<-za6];have e1:((W:Int)/256)=((W/2^8:Nat):Int):=by omega
    have e2:((L+m-8*q:Nat):Int)-8=((L+m-8*q-8:Nat):Int):=by omega
    rw[e1,e2];rfl
  ·obtain rfl:q=(L+m)/8:=by omega
   have Ho:=zhd hown;clear hown;go_wp2;go_end0;refine⟨rfl,hfr,p::u.ownBlock.toList,?_,?_⟩
   ·rw[<-Hm'.out.out,<-HN.out];refine⟨u,⟨?_,Ho.out,hub,hN⟩,rfl⟩;rw[Hr.out,show L+m-8*((L+m)/8)=(L+m)%8 from by omega]
   ·intro y hy;rcases qbh.1 hy with rfl|hy
    ·simp
    ·rcases hown' y (by simpa using hy) with h|h
     ·left;simp[h]
     ·right;exact h
theorem qc0 (bs:List UInt8):∀u∈bs.map bv,u.oneCell'=true:=by intro u hu;obtain⟨b,_,rfl⟩:=qcj.1 hu;rfl
theorem zat (p:Nat) (F:List Nat) (bs:List UInt8) (at_:Nat) (w:World) (hR:Rd w p F bs at_) :
  Calls Tryz.prog 136 #[.pointer (some ⟨p,0,none⟩)] w λe w'=>e = .returned (.int .i64 ((at_+7)/8:Nat))∧w=w':=by
 obtain⟨ao,cap,hr,hcs,rfl,hpb,hlen,hat,hcap,hmax⟩:=hR;have c1:=cell_of hr 1;simp only[qag,qac,qaf]at c1;clear hr;go_enter Tryz.func136,Tryz.ntmps136;go_wp2;go_ret;exact⟨zdl (int_eq (by omega)),rfl⟩
theorem zhc {T:TypeId} {w w':World} {p:Nat} {F:List Nat} {bs:List UInt8} {a a':Nat} (h:RdT T w p F bs a) (hf:Fr [p] w w')
  (hh:∀ao cap,w.heap[p]?=some (.cells #[.slice ao bs.length cap,.int .i64 a] T (0,0))→w'.heap[p]?=some (.cells #[.slice ao bs.length cap,.int .i64 a'] T (0,0))) (ha:a'≤8*bs.length):RdT T w' p F bs a':=by
 obtain⟨ao,cap,hr,hcs,rfl,hpb,hlen,hat,hcap,hmax⟩:=h;exact⟨ao,cap,hh ao cap hr,hcs.fr hf (by intro x hx;simp;rintro rfl;exact hpb hx),rfl,hpb,hlen,ha,hcap,hmax⟩
theorem qsd {T:TypeId} {w w':World} {p:Nat} {F S:List Nat} {bs:List UInt8} {a:Nat} (h:RdT T w p F bs a) (hf:Fr S w w') (hn:∀x∈F,x∉S):RdT T w' p F bs a:=by obtain⟨ao,cap,hr,hcs,rfl,hpb,hlen,hat,hcap,hmax⟩:=h;exact⟨ao,cap,hf.blk hr (hn p (by simp)),hcs.fr hf (by intro x hx;exact hn x (by simp[hx])),rfl,hpb,hlen,hat,hcap,hmax⟩
theorem qrx (p:Nat) (F:List Nat) (bs:List UInt8) (at_:Nat) (w:World) (hR:Rd w p F bs at_) :
  Calls Tryz.prog 204 #[.pointer (some ⟨p,0,none⟩)] w λe w'=>e = .returned (.tuple #[])∧Rd w' p F bs ((at_+7)/8*8)∧Fr [p] w w':=by
 have hR':=zhd hR;obtain⟨ao,cap,hr,hcs,rfl,hpb,hlen,hat,hcap,hmax⟩:=hR;have c1:=cell_of hr 1;have f1:=qau hr 1;simp only[qag,qac,qaf]at c1;clear hr;go_enter Tryz.func204,Tryz.ntmps204;go_wp2;go_end0;refine⟨rfl,zhc hR'.out ((Fr.refl _ w).setCell (by simp) _) (λao cap h=>(qax h _).trans ?_) (by omega),(Fr.refl _ w).setCell (by simp) _⟩;have e:((at_:Int)+7)/8*8=((at_+7)/8*8:Nat):=by omega
 rw[e];rfl
theorem qtx (ao:Option Addr) (cap:Nat) (bs:List UInt8) (w:World) (hcs:Cs w ao (bs.map bv)) (hcap:bs.length≤cap) (hnone:ao=none→cap=0) (hlen:bs.length≤140737488351232) :
  Calls Tryz.prog 133 #[.slice ao bs.length cap] w λe w'=>∃p F,e = .returned (.pointer (some ⟨p,0,none⟩))∧Rd w' p F bs 0∧Fr [] w w'∧∀x∈F,w.heap.size≤x∧x<w'.heap.size:=by
 go_enter Tryz.func133,Tryz.ntmps133;go_wp2_with (refine qba sliceU8 rfl _ _ rfl (.slice none 0 0) 0 [] [] rfl rfl (qch _ _ _ _) _ _ _ (bs.map bv) rfl hcap hnone hcs (by simp) (qc0 bs) (by omega) (by unfold maxLen;omega) ?_;intro ao1 cap1 w1 A1;simp only[qbg,qb4]at A1);go_ret;have hb:∀x∈blk ao1,x=w.heap.size∧x<w1.heap.size:=λx hx=>⟨by simpa using A1.at_ x hx,A1.lt x hx⟩
 have hcs1:Cs (w1.alloc (.cells #[.slice ao1 bs.length cap1,.int .i64 0] 264)) ao1 (bs.map bv):=(qd4 A1.own).belowAll (qnl ((Fr.refl _ _).alloc _));refine⟨w1.heap.size,_,rfl,⟨ao1,cap1,qay _ _,hcs1,rfl,λh=>?_,hlen,by omega,A1.le,A1.max,A1.nil⟩,A1.fr.alloc _,λx hx=>?_⟩
 ·have:=(hb _ h).2;omega
 ·rw[qa1];rcases qbh.1 hx with rfl|hx
  ·exact⟨A1.fr.size,by omega⟩
  ·have:=hb _ hx;omega
theorem qli (ao:Option Addr) (cap:Nat) (bs:List UInt8) (w:World) (hcs:Cs w ao (bs.map bv)) (hcap:bs.length≤cap) (hnone:ao=none→cap=0) (hlen:bs.length≤140737488351232) :
  Calls Tryz.prog 133 #[.slice ao bs.length cap] w λe w'=>∃p F,e = .returned (.pointer (some ⟨p,0,none⟩))∧Rd w' p F bs 0∧Fr [] w w'∧∀x∈F,w.heap.size≤x:=
 (qtx ao cap bs w hcs hcap hnone hlen).mono λ_ _ ⟨p,F,h1,h2,h3,h4⟩=>⟨p,F,h1,h2,h3,λx hx=>(h4 x hx).1⟩
def BytesGood (p:Nat) (F:List Nat) (bs:List UInt8) (at_ n:Nat) (w:World) (e:Ending) (w':World):Prop:=
 ∃ao',e = .returned (.tuple #[.slice ao' n n,.bool true])∧Fresh w' w.heap.size 5 ao' (((bs.drop ((at_+7)/8)).take n).map bv)∧(ao'=none→n=0)∧
    (∀x∈blk ao',w.heap.size≤x)∧Rd w' p F bs ((at_+7)/8*8+8*n)∧Fr [p] w w'
theorem qoq (p:Nat) (F:List Nat) (bs:List UInt8) (at_:Nat) (n:Int) (w:World) (hR:Rd w p F bs at_) (hn0:0≤n) (hn:n≤bs.length-((at_+7)/8:Nat)) :
  Calls Tryz.prog 185 #[.pointer (some ⟨p,0,none⟩),.int .i64 n] w (BytesGood p F bs at_ n.toNat w):=by
 obtain⟨n,rfl⟩:=qds hn0;have h1:decide ((n:Int)<0)=false:=by simp
 go_enter Tryz.func185,Tryz.ntmps185;go_upto_region 1 with fail;go_cut [] (λw1=>Rd w1 p F bs ((at_+7)/8*8)∧Fr [p] w w1);case first=>go_wp2_with (go_at_call 204;refine (qrx p F bs at_ _ hR).mono ?_;rintro e w' ⟨rfl,hR1,fr1⟩);go_meet;exact⟨hR1,fr1⟩
 case rest=>
 obtain⟨hR1,fr1⟩:=hcut;clear hR;have HR1:=zhd hR1;obtain⟨ao,cap,hr,hcs,rfl,hpb,hlen,hat,hcap,hmax⟩:=hR1;have c0:=cell_of hr 0;have c1:=cell_of hr 1;have f1:=qau hr 1;simp only[qag,qac,qaf]at c0 c1;have Hr:=zhd hr;clear hr;have h2:decide ((bs.length:Int)-(at_+7)/8<(n:Int))=false:=by simp;omega
 generalize hA:(at_+7)/8=A at *;go_upto_region 2 with fail;go_cut [25] (λs25 w2=>s25 = .bool false∧Rd w2 p (p::blk ao) bs (A*8)∧Fr [p] w w2);case first=>go_quiet (fail);go_wp2;go_meet;exact⟨by simpa using hn,⟨ao,cap,Hr.out,hcs,rfl,hpb,hlen,hat,hcap,hmax⟩,fr1.drewsN _⟩
 case rest=>
 obtain⟨rfl,hR2,fr2⟩:=hcut;clear c0 c1 f1 Hr hcs fr1 HR1 hat;obtain⟨ao,cap,hr,hcs,hF,hpb,hlen,hat,hcap,hmax⟩:=hR2;have c0:=cell_of hr 0;have c1:=cell_of hr 1;have f1:=qau hr 1;simp only[qag,qac,qaf]at c0 c1;have Hr:=zhd hr;clear hr;go_wp2;refine qcu 17 (by kernel_rfl) (by kernel_rfl) ?_;simp only[qah,qan,qad,qaj];repeat (go_big_quiet_step (fail))
 refine wpQuiet_nil ?_;have hcut:=hcs.cut cap A (A+n) (by omega) (by simp;omega) (by simpa using hcap);go_wp2_with (refine qba sliceU8 rfl _ _ rfl (.slice none 0 0) 0 [] [] rfl rfl (qch _ _ _ _) (cutAt ao cap A) (A+n-A) (cap-A) _ rfl (by omega) (λh=>by have:=hmax.2 (qv7 h);omega) hcut (by simp;omega) (by rw[<-qti,<-qlc];exact qc0 _) (by omega) (by unfold maxLen;omega) ?_;intro ao1 cap1 w1 A1;simp only[qbg,qb4]at A1;have hle1:n≤cap1:=(by have:=A1.le;omega);have hb1:=A1.fr.blk (w:=wc.drew) Hr.out (by simp);have d1:=cell_of hb1 1;have g1:=qau hb1 1;simp only[qag,qac,qaf]at d1);all_goals
  go_ret2
  have e0:A+n-A=n:=by omega
  rw[e0,<-qti,<-qlc]at A1
  have hne:p∉blk ao1:=λh=>by
   have h1:=A1.at_ p h
   have h2:=lt_of_block Hr.out
   simp at h1
   omega
  have hsz:=fr2.size
  have fr3:Fr [] wc w1:=(Fr.drew1 [] wc).trans A1.fr
  have fr4:Fr [p] w (w1.setCell ⟨p,1,none⟩ (.int .i64 (A*8+8*n))):=(fr2.trans (fr3.mono (by simp))).setCell (by simp) _
  have hown:=ownsRow_setCell_other (a:=⟨p,1,none⟩) A1.own (λh=>hne (by rw[<-qby ao1 n cap1,h];simp)) (.int .i64 (A*8+8*n))
  unfold BytesGood
  rw[hA]
  have hblk:∀x∈blk ao1,w.heap.size≤x:=λx hx=>by
   have:=A1.at_ x hx
   simp at this
   omega
  refine⟨ao1,rfl,qgo hown hblk,λh=>?_,hblk,⟨ao,cap,(qax hb1 _).trans ?_,(hcs.fr fr3 (by simp)).fr ((Fr.refl [p] w1).setCell (by simp) _) (by intro x hx;simp;rintro rfl;exact hpb hx),(by first|exact hF|rfl),hpb,hlen,by omega,hcap,hmax⟩,fr4⟩
  ·have:=A1.nil h
   omega
  ·have e:((A:Int)*8+8*(n:Int))=((A*8+8*n:Nat):Int):=by omega
   rw[e]
   rfl
theorem qrs (p:Nat) (F:List Nat) (bs:List UInt8) (at_:Nat) (n:Int) (w:World) (hR:Rd w p F bs at_) (hn:n<0∨bs.length-((at_+7)/8:Nat)<n) :
  Calls Tryz.prog 185 #[.pointer (some ⟨p,0,none⟩),.int .i64 n] w λe w'=>
   e = .returned (.tuple #[.slice none 0 0,.bool false])∧Rd w' p F bs ((at_+7)/8*8)∧Fr [p] w w':=by
 go_enter Tryz.func185,Tryz.ntmps185;go_upto_region 1 with fail;go_cut [] (λw1=>Rd w1 p F bs ((at_+7)/8*8)∧Fr [p] w w1);case first=>go_wp2_with (go_at_call 204;refine (qrx p F bs at_ _ hR).mono ?_;rintro e w' ⟨rfl,hR1,fr1⟩);go_meet;exact⟨hR1,fr1⟩
 case rest=>
 obtain⟨hR1,fr1⟩:=hcut;clear hR;obtain⟨ao,cap,hr,hcs,rfl,hpb,hlen,hat,hcap,hmax⟩:=hR1;have c0:=cell_of hr 0;have c1:=cell_of hr 1;simp only[qag,qac,qaf]at c0 c1;have Hr:=zhd hr;clear hr;have done:∀m,Rd (wc.drewN m) p (p::blk ao) bs ((at_+7)/8*8):=λm=>⟨ao,cap,Hr.out,hcs,rfl,hpb,hlen,hat,hcap,hmax⟩
 have Hd:=zhd done;clear done;by_cases a1:n<0
 ·have h1:decide (n<0)=true:=by simp;omega
  go_upto_region 2 with fail;go_quiet (fail);go_wp2;go_ret2;exact⟨rfl,Hd.out _,fr1.drewsN _⟩
 ·have h1:decide (n<0)=false:=by simp;omega
  have h2:decide ((bs.length:Int)-(at_+7)/8<n)=true:=by simp;omega
  go_upto_region 2 with fail;go_quiet (fail);go_wp2;go_ret2;exact⟨rfl,Hd.out _,fr1.drewsN _⟩
end Go.Proofs.YtkmpfgpfbmeihaaGreatDoor.bits
namespace Go.Proofs.YtkmpfgpfbmeihaaGreatDoor.huf
open Go Go.RowKit lib bm bl
theorem zdi (p:Nat) (F:List Nat) (bs:List UInt8) (at_ n:Nat) (w:World) (h:bits.Rd w p F bs at_) (hn:n≤32) (hl:at_+n≤8*bs.length) :
  Calls Tryz.prog 165 #[.pointer (some ⟨p,0,none⟩),.int .i64 n] w λe w'=>e = .returned (.tuple #[.int .u32 (bval (((bytesBits bs).drop at_).take n):Nat),.bool true])∧bits.Rd w' p F bs (at_+n)∧Fr [p] w w':=by
 have h1:=bits.qej p F bs at_ n w h (by omega) (by omega) (by omega);rw[qdm,zbu bs at_ n hl]at h1;exact h1
structure Ri (w:World) (a:Option Addr) (cap:Nat) (xs:List Nat):Prop where
 cs:Cs w a (xs.map λx=>.int .i64 (x:Nat))
 le:xs.length≤cap
 max:cap≤maxLen
 nil:a=none→cap=0
theorem Ri.fr {w w':World} {a:Option Addr} {cap:Nat} {xs:List Nat} (h:Ri w a cap xs) (f:Fr [] w w'):Ri w' a cap xs:=⟨h.cs.fr f (by simp),h.le,h.max,h.nil⟩
theorem Ri.at {w:World} {a:Option Addr} {cap:Nat} {xs:List Nat} (h:Ri w a cap xs) {i:Nat} (hi:i<xs.length):∃g o,a=some ⟨g,o,none⟩∧w.cell? ⟨g,o+i,none⟩=some (.int .i64 (xs[i]:Nat)):=by obtain⟨g,o,rfl,hc⟩:=h.cs.at (by simp;omega);exact⟨g,o,rfl,hc i _ (by simp[hi])⟩
theorem qew:∀a b:List Nat,weight (a++b)=weight a+weight b
 | [],b=>by simp[weight]
 | x::a,b=>by rw[qdk,weight,weight,qew a b];omega
theorem qlw:∀l:List Nat,weight l≤16384*l.length
 | []=>qa5 _
 | x::l=>by
  have:=qlw l;have h:(if x=0 then 0 else 2^(15-x))≤16384:=by
   split
   ·omega
   ·exact qar (qa3 (by decide) (show 15-x≤14 by omega)) (by decide)
  rw[weight,qao];omega
theorem qng (a:Option Addr) (cap:Nat) (ls:List Nat) (w:World) (h:Ri w a cap ls) (hle:∀l∈ls,l≤15) (hlen:ls.length≤100000) :
  Calls Tryz.prog 217 #[.slice a ls.length cap] w λe w'=>e = .returned (.tuple #[.int .i64 (weight ls:Nat),.bool true])∧w=w':=by
 obtain⟨L,hL⟩:=zex ls.length;rw[<-hL]at hlen ⊢;have H:=zhd3 h hle hL;clear h hle hL;go_enter Tryz.func217,Tryz.ntmps217;go_upto_block 0 with fail;go_wp2;go_loopg [4,6,9] L (λk s4 s6 s9 wr=>∃i:Nat,s9 = .int .i64 (i:Nat)∧s4 = .int .i64 (weight (ls.take i):Nat)∧i+k=L∧w=wr);case atStart=>exact⟨0,rfl,rfl,by omega,rfl⟩
 case round=>
  obtain⟨i,rfl,rfl,hik,rfl⟩:=hrel;by_cases hi:i<L
  ·obtain⟨k,rfl⟩:∃k,gk=k+1:=⟨gk-1,by omega⟩;have hil:i<ls.length:=by rw[<-H.out.2.2];exact hi
   obtain⟨g,o,rfl,hc⟩:=H.out.1.at hil;have h15:=H.out.2.1 _ (qdj hil);have hw:=qew (ls.take i) [ls[i]];rw[<-qca hil]at hw;have hwl:=qlw (ls.take i);rw[qaq]at hwl;generalize ls[i]=x at *;generalize hW:weight (ls.take i)=W at *;generalize hW2:weight (ls.take (i+1))=W2 at *;have hWb:W≤1638400000:=by omega
   by_cases h0:x=0
   ·subst h0;have e:W2=W:=by rw[hw];simp[weight]
    have HE:=zhd2 e hW2;clear e hw hwl hW hW2;go_wp2;go_roundg k;case measure=>omega
    case rel=>exact⟨i+1,by go_num,by rw[HE.l1,HE.o0],by omega,rfl⟩
   ·have hx:1≤x:=by omega
    obtain⟨y,hy⟩:=zex (15-x);have e1:(15:Int)-(x:Int)=(y:Int):=by omega
    have hp:2^y≤16384:=qar (qa3 (by decide) (show y≤14 by omega)) (by decide);have e:W2=W+2^y:=by rw[hw,hy];simp[weight,h0]
    obtain⟨z,hz⟩:=zex (2^y);rw[<-hz]at hp e;have e2:(2:Int)^y=(z:Int):=by rw[hz];exact qeh y
    have HE:=zhd2 e hW2;have hy14:y≤14:=by omega
    clear e hw hwl hW hW2 hz hy;go_wp2;go_roundg k;case measure=>omega
    case rel=>exact⟨i+1,by go_num,by rw[HE.l1,HE.o0];first|go_num|rfl,by omega,rfl⟩
  ·obtain rfl:i=L:=by omega
   have hW:weight (ls.take i)=weight ls:=by rw[qbd (by rw[<-H.out.2.2];exact qae _)]
   have HW:=zhd hW;clear hW;go_wp2;go_ret2;exact⟨by rw[<-HW.out];rfl,rfl⟩
theorem qrk (a:Option Addr) (cap:Nat) (ls:List Nat) (w:World) (h:Ri w a cap ls) (hle:∀l∈ls,l≤15) (hlen:ls.length≤100000) :
  Calls Tryz.prog 208 #[.slice a ls.length cap] w λe w'=>e = .returned (.bool (decide (weight ls=32768)))∧w=w':=by
 have hc:=zhd (qng a cap ls w h hle hlen);clear h hle;go_enter Tryz.func208,Tryz.ntmps208;go_wp2_with (go_at_call 217;refine hc.out.mono ?_;rintro e w' ⟨rfl,rfl⟩);go_ret;refine⟨zdl (zfx ?_),rfl⟩;first
  | (rw[Bool.eq_iff_iff];simp;omega)
  | simp
theorem qqh (ls:List Nat) (hle:∀l∈ls,l≤15) (hw:weight ls≤32768) (l:Nat) (hl:l≤15):nxt ls l≤32768:=by have h1:=qmu ls l hl;have h2:=qo5 ls (show l≤16 by omega);rw[qhs ls hle]at h2;have h3:nxt ls l*1≤nxt ls l*2^(15-l):=Nat.mul_le_mul_left _ (qbt _);omega
def cw (ls:List Nat) (l i j:Nat):Nat:=if lenAt ls j≠0∧(lenAt ls j<l∨(lenAt ls j=l∧j<i)) then code ls j else 0
def codeAt (ls:List Nat) (j:Nat):Nat:=if lenAt ls j=0 then 0 else code ls j
def codesOf (ls:List Nat):List Nat:=(List.range ls.length).map (codeAt ls)
theorem qzl {ls:List Nat} {l i j:Nat} (h:j≠i∨lenAt ls i≠l):cw ls l (i+1) j=cw ls l i j:=by
 unfold cw;congr 1;rw[eq_iff_iff];constructor
 ·rintro⟨h1,h2|⟨h2,h3⟩⟩
  ·exact⟨h1,.inl h2⟩
  ·refine⟨h1,.inr ⟨h2,?_⟩⟩;rcases qb8 j i with k|k
   ·exact k
   ·obtain rfl:j=i:=by omega
    rcases h with h|h
    ·exact absurd rfl h
    ·exact absurd h2 h
 ·rintro⟨h1,h2|⟨h2,h3⟩⟩
  ·exact⟨h1,.inl h2⟩
  ·exact⟨h1,.inr ⟨h2,by omega⟩⟩
theorem zgx {ls:List Nat} {l i:Nat} (h0:l≠0) (h:lenAt ls i=l):cw ls l (i+1) i=nxt ls l+(ls.take i).count l:=by unfold cw;rw[if_pos ⟨by omega,.inr ⟨h,by omega⟩⟩,code,h]
theorem zft {ls:List Nat} {l j:Nat} (h0:l≠0) (hj:j<ls.length):cw ls l ls.length j=cw ls (l+1) 0 j:=by
 unfold cw;congr 1;rw[eq_iff_iff];constructor
 ·rintro⟨h1,h2|⟨h2,h3⟩⟩
  ·exact⟨h1,.inl (by omega)⟩
  ·exact⟨h1,.inl (by omega)⟩
 ·rintro⟨h1,h2|⟨h2,h3⟩⟩
  ·rcases qb8 (lenAt ls j) l with k|k
   ·exact⟨h1,.inl k⟩
   ·exact⟨h1,.inr ⟨by omega,hj⟩⟩
  ·omega
theorem zgy {ls:List Nat} {j:Nat} (hle:lenAt ls j≤15):cw ls 16 0 j=codeAt ls j:=by
 unfold cw codeAt;by_cases h:lenAt ls j=0
 ·rw[if_pos h,if_neg (λhc=>hc.1 h)]
 ·rw[if_neg h,if_pos ⟨h,.inl (by omega)⟩]
theorem zcy (ls:List Nat) (j:Nat):cw ls 1 0 j=0:=by unfold cw;rw[if_neg];rintro⟨h1,h2|⟨h2,h3⟩⟩<;>omega
theorem u32sTy:SliceTy Tryz.prog 147 32 (.int .u32 0) 1 4:=SliceTy.of Tryz.underlying147 (by kernel_rfl) rfl (by decide)
def Cw (w:World) (ls:List Nat) (Q l i:Nat):Prop:=∃A,w.heap[Q]?=some (.cells A 32 (0,0))∧A.size=ls.length∧∀j,j<ls.length→A[j]?=some (.int .u32 (cw ls l i j:Nat))
theorem zfu {w:World} {ls:List Nat} {Q:Nat} (h:w.ownsRow 0 32 1 (.slice (some ⟨Q,0,none⟩) ls.length ls.length) ls.length (madeCells (Value.int .u32 0).cells (ls.length*1)).toList):Cw w ls Q 1 0:=by
 obtain⟨o1,o2⟩:=h;rcases o2 with⟨o2,_⟩|⟨g,c',cur,o2,_,hg,_,_,hsz,ht⟩
 ·cases o2
 ·simp only[qbp,qaw,qcz,and_true,true_and]at o2;obtain⟨rfl,rfl⟩:=o2;refine⟨cur,hg,by omega,λj hj=>?_⟩;rw[zcy];have hj':j<cur.toList.length:=by simp;omega
  have h1:cur.toList[j]?=(madeCells (Value.int .u32 0).cells (ls.length*1)).toList[j]?:=by rw[<-ht,qbs,if_pos (by omega)]
  rw[<-qbz,h1,show (Value.int .u32 0).cells=#[.int .u32 0] from rfl,toList_madeCells_one,qld,if_pos (by omega)];rfl
def CodesGood (w:World) (ls:List Nat) (e:Ending) (w':World):Prop:=
 ∃g,e = .returned (.tuple #[.slice (some ⟨g,0,none⟩) ls.length ls.length,.int .i64 0])∧Cs w' (some ⟨g,0,none⟩) ((codesOf ls).map λx=>.int .u32 (x:Nat))∧w.heap.size≤g∧g<w'.heap.size∧Fr [] w w'
theorem qjw (a:Option Addr) (cap:Nat) (ls:List Nat) (w:World) (h:Ri w a cap ls) (hle:∀l∈ls,l≤15) (hlen:ls.length≤400) (hw:weight ls≤32768) :
  Calls Tryz.prog 205 #[.slice a ls.length cap] w (CodesGood w ls):=by
 obtain⟨L,hL⟩:=zex ls.length;have hc:=qng a cap ls w h hle (by omega);rw[<-hL]at hlen hc ⊢;obtain⟨W,hW⟩:=zex (weight ls);rw[<-hW]at hc hw;have H:=zhd5 h hle hL hc hW;obtain⟨hu,⟨ti,hi',hz',hs',hb'⟩,hcz,hp⟩:=u32sTy;clear h hle hL hc hW;have d1:decide ((400:Int)<L)=false:=by simp;omega
 have d2:decide ((32768:Int)<W)=false:=by simp;omega
 go_enter Tryz.func205,Tryz.ntmps205;go_upto_block 1 with (first|(go_at_call 217;refine H.out.2.2.2.1.mono ?_;rintro e w' ⟨rfl,rfl⟩)|(refine wpList_make_full _ rfl _ _ 147 rfl 0 32 ti (.int .u32 0) 1 hu hi' hz' hs' .i64 .i64 (L:Nat) (L:Nat) L rfl rfl rfl rfl (by rw[hb'];omega) (by unfold maxLen;omega) (by omega) ?_;intro w3 own3 grow3;have H3:=zhd2 own3 grow3;clear own3 grow3));obtain⟨Q,hQ⟩:=zex w.heap.size;rw[<-hQ]at H3 ⊢;have hst:Cw w3 ls Q 1 0:=zfu (by rw[<-H.out.2.2.1];exact H3.o0);have f3:Fr [] w w3:=(Fr.refl [] w).grown H3.l1 (λk hk=>by cases hk);have HS:=zhd3 hst f3 hQ;clear hst f3 hQ H3 hu hi' hz' hs' hb' hcz hp d1 d2;go_wp2;go_loopg [7,8,9,10,38] 15 (λk s7 s8 s9 s10 s38 wr=>∃l nx:Nat,s8 = .int .i64 (l:Nat)∧s7 = .int .u32 (nx:Nat)∧l+k=16∧1≤l∧2*nx=nxt ls l∧Cw wr ls Q l 0∧Fr [] w wr);case atStart=>exact⟨1,0,rfl,rfl,rfl,qae _,rfl,HS.o0,HS.o1⟩
 case round=>
  obtain⟨l,nx,rfl,rfl,hlk,hl1,hnx,hcw,hf⟩:=hrel;by_cases hl:l≤15
  ·obtain⟨k,rfl⟩:∃k,gk=k+1:=⟨gk-1,by omega⟩;have hb:=qqh ls H.out.2.1 (by rw[<-H.out.2.2.2.2];exact hw) l hl;obtain⟨wo,rfl⟩:∃wo:World,wo=wr:=⟨_,rfl⟩;obtain⟨n2,hn2⟩:=zex (nxt ls l);rw[<-hn2]at hnx hb;have HX:=zhd5 hcw hf hn2 hnx hlk;have hnxb:nx≤16384:=by omega
   have e2:(nx:Int)*2=(n2:Int):=by omega
   clear hcw hf hn2 hnx hlk;go_upto_block 3 with fail;clear e2;go_wp2;go_loopg [7,9,10,38] L (λk s7 s9 s10 s38 wr=>∃i y:Nat,s38 = .int .i64 (i:Nat)∧s7 = .int .u32 (y:Nat)∧i+k=L∧y=n2+(ls.take i).count l∧Cw wr ls Q l i∧Fr [] w wr);case atStart=>exact⟨0,n2,rfl,rfl,by omega,by simp,HX.o0,HX.o1⟩
   case round=>
    obtain⟨i,y,rfl,rfl,hik,hy,hcw,hf⟩:=hrel;have hcl:=qr0 (a:=l) (l:=ls.take i);rw[qaq]at hcl;have hyb:y≤40000:=by omega
    by_cases hi:i<L
    ·obtain⟨k2,rfl⟩:∃k2,gk=k2+1:=⟨gk-1,by omega⟩;have hil:i<ls.length:=by rw[<-H.out.2.2.1];exact hi
     obtain⟨g,o,rfl,hc⟩:=(H.out.1.fr hf).at hil;have hla:lenAt ls i=ls[i]:=by unfold lenAt;rw[qai hil];rfl
     have hct:=qe5 ls i l hil;rw[hla]at hct;obtain⟨A,hA,hAs,hAt⟩:=hcw;have zA:=qau hA i;obtain⟨x0,hx0⟩:∃x,wr.cell? ⟨Q,i,none⟩=some x:=⟨_,by rw[cell_of hA];exact hAt i hil⟩;have f2:Fr [Q] wr (wr.setCell ⟨Q,i,none⟩ (.int .u32 y)):=(Fr.refl [Q] wr).setCell (by simp) _;obtain⟨v,hv⟩:=zex (ls[i]);rw[<-hv]at hc hla hct;have HI:=zhd7 (And.intro hla hct) (And.intro hA (And.intro hAs hAt)) hf hy hik f2 hv;clear hla hct hA hAs hAt hf hy hik f2 hv hcl;by_cases hvl:v=l
     ·have d1:((v:Int)==(l:Int))=true:=by simp;omega
      go_wp2;go_roundg k2;case measure=>have:=HI.out.2.2.2.2.1;omega
      case rel=>
       obtain⟨⟨hla,hct⟩,⟨hA,hAs,hAt⟩,hf,hy,hik,f2,_⟩:=HI.out;rw[if_pos hvl]at hct;refine⟨i+1,y+1,by go_num,by go_num,by omega,by omega,⟨_,qax hA _,by simp[hAs],λj hj=>?_⟩,hf.step f2 (λz hz=>.inr (by simp at hz;rw[hz,HS.l2];exact qae _))⟩;by_cases e:j=i
       ·subst e;rw[qal (by omega),zgx (by omega) (by rw[hla,hvl]),hy,HX.o2]
       ·rw[qaa (by omega),qzl (.inl e)];exact hAt j hj
     ·have d1:((v:Int)==(l:Int))=false:=by simp;omega
      go_wp2;go_roundg k2;case measure=>have:=HI.out.2.2.2.2.1;omega
      case rel=>obtain⟨⟨hla,hct⟩,⟨hA,hAs,hAt⟩,hf,hy,hik,f2,_⟩:=HI.out;rw[if_neg hvl]at hct;exact⟨i+1,y,by go_num,by go_num,by omega,by omega,⟨A,hA,hAs,λj hj=>by rw[qzl (.inr (by rw[hla];exact hvl))];exact hAt j hj⟩,hf⟩
    ·obtain rfl:i=L:=by omega
     have ht:ls.take i=ls:=qbd (by rw[<-H.out.2.2.1];exact qae _);rw[ht]at hy;have HI:=zhd3 hcw hf hy;clear hcw hf hy hcl ht hik;go_wp2;go_roundg k;case measure=>have:=HX.l4;omega
     case rel=>
      have hlk:=HX.l4;obtain⟨⟨A,hA,hAs,hAt⟩,hf,hy⟩:=HI.out;refine⟨l+1,y,by go_num,rfl,by omega,by omega,?_,⟨A,hA,hAs,λj hj=>?_⟩,hf⟩
      ·rw[nxt,if_neg (by omega),<-HX.o2,hy]
      ·rw[<-zft (by omega) hj,<-H.out.2.2.1];exact hAt j hj
  ·obtain rfl:l=16:=by omega
   obtain⟨A,hA,hAs,hAt⟩:=hcw;have HI:=zhd4 hA hAs hAt hf;clear hA hAs hAt hf hnx hlk;go_wp2;go_ret2;obtain⟨hA,hAs,hAt,hf⟩:=HI.out;unfold CodesGood;rw[<-H.out.2.2.1];refine⟨Q,rfl,.inr ⟨Q,0,rfl,λj v hv=>?_⟩,by rw[HS.l2];exact qae _,lt_of_block hA,hf⟩;have hj:j<ls.length:=by have:=(qa9.1 hv).1;simpa[codesOf] using this
   rw[qbg,cell_of hA,hAt j hj,zgy (H.out.2.1 _ (qfj hj))];rw[<-hv];simp[codesOf,hj]
open bits
def symn (ls:List Nat) (l:Nat):Nat:=if l=0 then 0 else (syms ls l ls.length).length
structure Tab (w:World) (P D:Nat) (ls:List Nat) (first:Nat→Nat) (sa:Nat→Option Addr) (sc:Nat→Nat):Prop where
 box:∃A,w.heap[P]?=some (.cells A 309 (0,0))∧A.size=33∧(∀l,l<16→A[l]?=some (.int .u32 (first l:Nat)))∧(∀l,l<16→A[16+l]?=some (.slice (sa l) (symn ls l) (sc l)))∧A[32]?=some (.int .i64 (D:Nat))
 fst:∀l,0<symn ls l→first l=nxt ls l
 top:∀s,s<ls.length→lenAt ls s≤D
 low:D≤15
 low':∀l,first l≤32768
 syms:∀l,l<16→0<l→Ri w (sa l) (sc l) (syms ls l ls.length)
 len:ls.length≤400
theorem Tab.cells {w:World} {P D:Nat} {ls:List Nat} {first:Nat→Nat} {sa:Nat→Option Addr} {sc:Nat→Nat} (h:Tab w P D ls first sa sc) :
  (∀l,l<16→w.cell? ⟨P,l,none⟩=some (.int .u32 (first l:Nat)))∧(∀l,l<16→w.cell? ⟨P,16+l,none⟩=some (.slice (sa l) (symn ls l) (sc l)))∧w.cell? ⟨P,32,none⟩=some (.int .i64 D):=by
 obtain⟨A,hA,_,h1,h2,h3⟩:=h.box;exact⟨λl hl=>by rw[cell_of hA];exact h1 l hl,λl hl=>by rw[cell_of hA];exact h2 l hl,by rw[cell_of hA];exact h3⟩
theorem Tab.fr {w w':World} {P D:Nat} {ls:List Nat} {first:Nat→Nat} {sa:Nat→Option Addr} {sc:Nat→Nat} (h:Tab w P D ls first sa sc) (f:Fr [] w w'):Tab w' P D ls first sa sc:=by obtain⟨A,hA,h1⟩:=h.box;exact⟨⟨A,f.blk hA (by simp),h1⟩,h.fst,h.top,h.low,h.low',λl h1 h2=>(h.syms l h1 h2).fr f,h.len⟩
theorem qwz (ls:List Nat) (l:Nat):symn ls l≤ls.length:=by
 unfold symn;split
 ·omega
 ·have:=qfd (λs=>lenAt ls s==l) (List.range ls.length);rw[qh3]at this;exact this
theorem qvo {ls:List Nat} {n v l:Nat} (h:0<l):meets ls n v l=(decide (0<symn ls l)&&(decide (nxt ls l<(v+1)*2^(l-n))&&decide (v*2^(l-n)<nxt ls l+symn ls l))):=by unfold meets symn;rw[if_neg (by omega)]
theorem zbx (P D:Nat) (ls:List Nat) (first:Nat→Nat) (sa:Nat→Option Addr) (sc:Nat→Nat) (v n:Nat) (w:World) (h:Tab w P D ls first sa sc) (hn:n≤15) (hv:v<2^n) :
  Calls Tryz.prog 218 #[.pointer (some ⟨P,0,none⟩),.int .u32 v,.int .i64 n] w λe w'=>e = .returned (.bool (hmore ls n v))∧Fr [] w w':=by
 have H:=zhd2 h hv;have hD:=h.low;have hlen:=h.len;clear h hv;go_enter Tryz.func218,Tryz.ntmps218;go_upto_block 0 with fail;go_wp2;go_loopg [7,8,9,10] 16 (λk s7 s8 s9 s10 wr=>∃(l:Nat),s7 = .int .i64 (l:Nat)∧l+k=17+n∧n<l∧Fr [] w wr∧∀m,n<m→m<l→meets ls n v m=false);case atStart=>exact⟨n+1,by go_num,by omega,by omega,Fr.refl [] w,λm h1 h2=>by omega⟩
 case round=>
  obtain⟨l,rfl,hlk,hnl,hf,hno⟩:=hrel;obtain⟨hc1,hc2,hc3⟩:=(H.out.1.fr hf).cells;have HF:=zhd hf;clear hf;by_cases hl:l≤D
  ·obtain⟨k,rfl⟩:∃k,gk=k+1:=⟨gk-1,by omega⟩;have hm:=qvo (ls:=ls) (n:=n) (v:=v) (l:=l) (by omega);have hpl:(v+1)*2^(l-n)≤32768:=by have h1:(v+1)*2^(l-n)≤2^n*2^(l-n):=qcr _ H.out.2;rw[<-qci,show n+(l-n)=l by omega]at h1;exact qar h1 (qar (qa3 (by decide) (show l≤15 by omega)) (by decide))
   have c1:=hc1 l (by omega);have c2:=hc2 l (by omega);obtain⟨f1,hf1⟩:=zex (first l);obtain⟨m1,hm1⟩:=zex (symn ls l);obtain⟨x1,hx1⟩:=zex ((v+1)*2^(l-n));obtain⟨x0,hx0⟩:=zex (v*2^(l-n));have hf1l:f1≤32768:=by rw[hf1];exact H.out.1.low' l
   have hm1l:m1≤400:=by rw[hm1];have:=qwz ls l;omega
   rw[<-hx1,<-hx0,<-hm1]at hm;rw[<-hf1]at c1;rw[<-hm1]at c2;rw[<-hx1]at hpl;have hx01:x0≤x1:=by rw[hx0,hx1];exact qcr _ (by omega)
   have hfn:0<m1→f1=nxt ls l:=λh0=>by rw[hf1];exact H.out.1.fst l (by omega)
   have HI:=zhd7 hno hm hfn hx1 hx0 hf1 hm1;clear hno hm hfn hf1 hm1 hc1 hc2;have hln:(n:Int)≤l:=by omega
   go_upto_region 5 with fail;have e0:(v:Int)*2^(l-n)%4294967296=(x0:Nat):=by
    have:((v:Int)*2^(l-n))=(x0:Nat):=by rw[hx0];push_cast;rfl
    rw[this];omega
   have hv1:v+1≤32768:=qar H.out.2 (qar (qa3 (by decide) hn) (by decide));have e1:((v:Int)+1)*2^(l-n)%4294967296=(x1:Nat):=by
    have:(((v:Int)+1)*2^(l-n))=(x1:Nat):=by rw[hx1];push_cast;rfl
    rw[this];omega
   clear hx0 hx1;go_quiet (fail);rw[e0,e1];clear e0 e1;have b0:decide ((0:Int)<(m1:Int))=decide (0<m1):=by simp
   have b1:decide ((f1:Int)<(x1:Int))=decide (f1<x1):=by simp
   have b2:decide ((x0:Int)<(f1:Int)+m1)=decide (x0<f1+m1):=by rw[decide_eq_decide];omega
   have next:(meets ls n v l=false)→∀m,n<m→m<l+1→meets ls n v m=false:=λh m h1 h2=>by
    rcases Nat.lt_succ_iff_lt_or_eq.1 h2 with h3|h3
    ·exact HI.o0 m h1 h3
    ·rw[h3];exact h
   have HN:=zhd next
   clear next
   by_cases p0:0<m1
   ·have p0':=decide_eq_true p0;rw[p0']at b0;by_cases p1:f1<x1
    ·rw[decide_eq_true p1]at b1;by_cases p2:x0<f1+m1
     ·rw[decide_eq_true p2]at b2;go_wp2;go_ret;refine⟨?_,?_⟩
      ·rw[qvn hnl (by rw[HI.o1,<-HI.o2 p0];simp[p0,p1,p2])];rfl
      ·exact HF.out.trans (Fr.drewN [] _ _)
     ·rw[decide_eq_false p2]at b2;go_wp2;go_roundg k;case measure=>omega
      case rel=>exact⟨l+1,by go_num,by omega,by omega,HF.out.trans (Fr.drewN [] _ _),HN.out (by rw[HI.o1,<-HI.o2 p0];simp[p2])⟩
    ·rw[decide_eq_false p1]at b1;go_wp2;go_roundg k;case measure=>omega
     case rel=>exact⟨l+1,by go_num,by omega,by omega,HF.out.trans (Fr.drewN [] _ _),HN.out (by rw[HI.o1,<-HI.o2 p0];simp[p1])⟩
   ·rw[decide_eq_false p0]at b0;go_wp2;go_roundg k;case measure=>omega
    case rel=>exact⟨l+1,by go_num,by omega,by omega,HF.out.trans (Fr.drewN [] _ _),HN.out (by rw[HI.o1];simp[p0])⟩
  ·have d0:decide ((l:Int)≤D)=false:=by simp;omega
   go_wp2;go_ret;exact⟨by rw[qsq H.out.1.top λm h1 h2=>hno m h1 (by omega)];rfl,HF.out⟩
end Go.Proofs.YtkmpfgpfbmeihaaGreatDoor.huf
namespace Go.Proofs.YtkmpfgpfbmeihaaGreatDoor.huf
open Go Go.RowKit lib bm bl
theorem Tab.frS {S:List Nat} {w w':World} {P D:Nat} {ls:List Nat} {first:Nat→Nat} {sa:Nat→Option Addr} {sc:Nat→Nat} (h:Tab w P D ls first sa sc) (f:Fr S w w') (hP:P∉S) (hs:∀l,l<16→0<l→∀x∈blk (sa l),x∉S):Tab w' P D ls first sa sc:=by obtain⟨A,hA,h1⟩:=h.box;exact⟨⟨A,f.blk hA hP,h1⟩,h.fst,h.top,h.low,h.low',λl h1 h2=>⟨(h.syms l h1 h2).cs.fr f (hs l h1 h2),(h.syms l h1 h2).le,(h.syms l h1 h2).max,(h.syms l h1 h2).nil⟩,h.len⟩
theorem za2 {ls:List Nat} {first:Nat→Nat} {n v:Nat} (hf:0<symn ls n→first n=nxt ls n) (h:¬(0<n∧first n≤v∧v-first n<symn ls n)):hsym ls n v=none:=by
 refine qy0 ?_;by_cases h0:n=0
 ·exact .inl h0
 ·right;by_cases hs:0<symn ls n
  ·have:=hf hs;unfold symn at h hs;rw[if_neg h0]at h hs;omega
  ·unfold symn at hs;rw[if_neg h0]at hs;omega
theorem qrw (b:Bool):b2n b<2:=by cases b<;>decide
theorem qx2 (v:Nat) (b:Bool) (hv:v<65536):bits .or .u32 ((v:Int)*2) (b2n b:Nat)=((2*v+b2n b:Nat):Int):=by
 have hb:b2n b<2:=by cases b<;>decide
 have e:(v:Int)*2=((v*2:Nat):Int):=by omega
 have h1:=qk5 (b2n b) v 1 (by simpa using hb);rw[e,u32_or_nat (v*2) (b2n b) (by omega) (by omega),Nat.or_comm,show v*2=v*2^1 from rfl,h1];congr 1;omega
theorem qli (P D:Nat) (ls:List Nat) (first:Nat→Nat) (sa:Nat→Option Addr) (sc:Nat→Nat) (p:Nat) (F:List Nat) (bs:List UInt8) (at_:Nat) (w:World) (h:Tab w P D ls first sa sc) (hr:bits.Rd w p F bs at_)
  (hP:P≠p) (hs:∀l,l<16→0<l→∀x∈blk (sa l),x≠p) (s m c:Nat) (hres:hread ls 15 0 0 ((bytesBits bs).drop at_)=(s,m,c)) :
  Calls Tryz.prog 206 #[.pointer (some ⟨P,0,none⟩),.pointer (some ⟨p,0,none⟩)] w λe w'=>e = .returned (.tuple #[.int .i64 s,.int .i64 c])∧bits.Rd w' p F bs (at_+m)∧Fr [p] w w':=by
 have hlen:=h.len;have H:=zhd5 h hr hP hs hres;clear h hr hP hs hres;go_enter Tryz.func206,Tryz.ntmps206;go_upto_block 0 with fail;go_wp2;go_loopg [6,7,8,9,10] 16 (λk s6 s7 s8 s9 s10 wr=>∃(n v:Nat),s6 = .int .u32 (v:Nat)∧s7 = .int .i64 (n:Nat)∧n+k=16∧0<k∧v<2^n∧bits.Rd wr p F bs (at_+n)∧Fr [p] w wr∧hread ls (15-n) n v ((bytesBits bs).drop (at_+n))=(s,m,c));case atStart=>exact⟨0,0,rfl,rfl,by omega,by omega,by decide,H.o1,Fr.refl [p] w,H.l4⟩
 case round=>
  obtain⟨n,v,rfl,rfl,hnk,hk0,hv,hrd,hf,hres⟩:=hrel;obtain⟨k,rfl⟩:∃k,gk=k+1:=⟨gk-1,by omega⟩;have hT:=H.o0.frS hf (by simpa using H.o2) (λl h1 h2 x hx=>by simpa using H.o3 l h1 h2 x hx);obtain⟨hc1,hc2,hc3⟩:=hT.cells;have c1:=hc1 n (by omega);have c2:=hc2 n (by omega);have hvb:v<65536:=qat hv (qar (qa3 (by decide) (show n≤15 by omega)) (by decide));obtain⟨f1,hf1⟩:=zex (first n);obtain⟨m1,hm1⟩:=zex (symn ls n);have hf1l:f1≤32768:=by rw[hf1];exact hT.low' n
  have hm1l:m1≤400:=by rw[hm1];have:=qwz ls n;omega
  have hfs:=hT.fst n;rw[<-hf1,<-hm1]at hfs;rw[<-hf1]at c1;rw[<-hm1]at c2;have HR:=zhd8 hv hrd hf hres hT hfs hf1 hm1;clear hv hrd hf hres hT hfs hf1 hm1 hc1 hc2 hc3;by_cases hit:0<n∧f1≤v∧v-f1<m1
  ·obtain⟨i0,i1,i2⟩:=hit;obtain⟨y,rfl⟩:∃y,v=f1+y:=⟨v-f1,by omega⟩;have hy:y<m1:=by omega
   have hnz:n≠0:=by omega
   have hm2:(syms ls n ls.length).length=m1:=by rw[HR.out.2.2.2.2.2.2.2];unfold symn;rw[if_neg hnz]
   obtain⟨g,o,ha,hcl⟩:=(HR.out.2.2.2.2.1.syms n (by omega) i0).at (i:=y) (by omega);obtain⟨z,hz⟩:∃z,z=(syms ls n ls.length)[y]'(by omega):=⟨_,rfl⟩;rw[<-hz]at hcl;rw[ha]at c2;have hh:hsym ls n (f1+y)=some z:=by have e:=HR.out.2.2.2.2.2.1 (by omega);refine qyz i0 (by omega) ?_;rw[show f1+y-nxt ls n=y by omega,qai (by omega),hz]
   have hres:=HR.out.2.2.2.1;rw[qgx hh]at hres;obtain⟨rfl,rfl,rfl⟩:z=s∧n=m∧0=c:=by simpa using hres
   have b0:decide ((0:Int)<n)=true:=by simpa using i0
   have b1:decide ((f1:Int)≤(f1:Int)+y)=true:=by simp;omega
   have b2:decide ((y:Int)<m1)=true:=by simp;omega
   have b3:(f1:Int)+y-f1=y:=by omega
   clear i0 i1 i2 hm2 hz hh hres ha;go_upto_region 6 with fail;go_quiet (fail);go_wp2;go_ret2;exact⟨rfl,bits.qsd HR.out.2.1 (Fr.drewN [] _ _) (by simp),HR.out.2.2.1.trans (Fr.drewN [p] _ _)⟩
  ·have hn0:hsym ls n v=none:=za2 (first:=first) (by rw[<-HR.out.2.2.2.2.2.2.1,<-HR.out.2.2.2.2.2.2.2];exact HR.out.2.2.2.2.2.1) (by rw[<-HR.out.2.2.2.2.2.2.1,<-HR.out.2.2.2.2.2.2.2];exact hit);have HM:=zhd hn0;clear hn0;go_upto_region 5 with fail;go_cut [44] from 21 to 44 (λs44 wc=>s44 = .bool false∧wr=wc)
   case first=>
    by_cases i0:0<n
    ·have b0:decide ((0:Int)<n)=true:=by simpa using i0
     by_cases i1:f1≤v
     ·have b1:decide ((f1:Int)≤v)=true:=by simpa using i1
      have b2:decide ((v:Int)-f1<m1)=false:=by simp;omega
      clear hit;go_wp2;go_meet;case rel=>exact⟨rfl,rfl⟩
     ·have b1:decide ((f1:Int)≤v)=false:=by simpa using i1
      clear hit;go_wp2;go_meet;case rel=>exact⟨rfl,rfl⟩
    ·have b0:decide ((0:Int)<n)=false:=by simpa using i0
     clear hit;go_wp2;go_meet;case rel=>exact⟨rfl,rfl⟩
   case rest=>
    obtain⟨rfl,rfl⟩:=hcut;have HMore:=zhd (zbx P D ls first sa sc v n wr HR.out.2.2.2.2.1 (by omega) HR.out.1);go_upto_region 7 with fail;go_cut [69] from 61 to 69 (λs69 wc=>s69 = .bool (n==15||!hmore ls n v)∧Fr [] wr wc)
    case first=>
     by_cases i0:n=15
     ·have b0:((n:Int)==15)=true:=by simp;omega
      have b1:(n==15||!hmore ls n v)=true:=by simp[i0]
      clear hit;go_wp2;go_meet;case rel=>exact⟨by rw[b1],Fr.refl [] _⟩
     ·have b0:((n:Int)==15)=false:=by simp;omega
      have b1:(n==15||!hmore ls n v)=!hmore ls n v:=by simp[i0]
      clear hit;go_wp2_with (go_at_call 218;refine HMore.out.mono ?_;rintro e w2 ⟨rfl,f2⟩;have H2:=zhd f2;clear f2);go_meet;case rel=>exact⟨by rw[b1],H2.out⟩
    case rest=>
     obtain⟨rfl,f2⟩:=hcut;have H2:=zhd f2;clear f2;have h2:Fr [p] w wc:=HR.out.2.2.1.trans (H2.out.mono (by simp));have r2:bits.Rd wc p F bs (at_+n):=bits.qsd HR.out.2.1 H2.out (by simp);have H3:=zhd2 h2 r2;clear h2 r2;by_cases e1:(n==15||!hmore ls n v)=true
     ·have hres:hread ls (15-n) n v ((bytesBits bs).drop (at_+n))=(0,n,3):=by
       by_cases h15:n=15
       ·subst h15;exact qm7 HM.out
       ·refine qko HM.out ?_;simpa[h15] using e1
      rw[HR.out.2.2.2.1]at hres;obtain⟨rfl,rfl,rfl⟩:s=0∧m=n∧c=3:=by simpa using hres
      rw[e1];clear hit hres;go_wp2;go_ret2;exact⟨rfl,H3.l1,H3.o0⟩
     ·have e1':(n==15||!hmore ls n v)=false:=by simpa using e1
      have h15:n≠15:=by intro h;simp[h]at e1
      have hmr:hmore ls n v=true:=by simp at e1;exact e1.2
      rw[e1'];by_cases hq:at_+n+1≤8*bs.length
      ·have htk:=zdi p F bs (at_+n) 1 wc H3.l1 (by decide) hq;have hlb:(bytesBits bs).length=8*bs.length:=by simp[qb1]
       obtain⟨b,t,hbt⟩:∃b t,(bytesBits bs).drop (at_+n)=b::t:=by
        cases hd:(bytesBits bs).drop (at_+n) with
        | nil=>have:=congrArg List.length hd;rw[qav,hlb]at this;simp at this;omega
        | cons b t=>exact⟨b,t,rfl⟩
       have ht:(bytesBits bs).drop (at_+(n+1))=t:=by rw[<-qcb,<-qep,hbt];rfl
       have hbv:bval (((bytesBits bs).drop (at_+n)).take 1)=b2n b:=by rw[hbt];cases b<;>rfl
       rw[hbv]at htk;have hres:=HR.out.2.2.2.1;rw[show 15-n=(15-(n+1))+1 by omega,hbt,qig HM.out hmr,<-ht]at hres;have HK:=zhd2 htk hres;clear htk hlb hbt ht hbv hres hit;go_upto_region 10 with (go_at_call 165;refine HK.out.1.mono ?_;rintro e w5 ⟨rfl,r5,f5⟩;have H5:=zhd2 r5 f5;clear r5 f5);go_wp2;have hor:=qx2 v b hvb;rw[hor];go_roundg k;case measure=>omega
       case rel=>exact⟨n+1,2*v+b2n b,rfl,by go_num,by omega,by omega,by rw[qcs];have:=HR.out.1;have:=qrw b;omega,H5.o0,H3.o0.trans H5.l1,HK.out.2⟩
      ·have htk:=bits.qgb p F bs (at_+n) 1 wc H3.l1 (by omega);have hd:(bytesBits bs).drop (at_+n)=[]:=qc3 (by rw[qb1];omega);have hres:=HR.out.2.2.2.1;rw[show 15-n=(14-n)+1 by omega,hd,qkm HM.out hmr]at hres;obtain⟨rfl,rfl,rfl⟩:0=s∧n=m∧4=c:=by simpa using hres
       have HK:=zhd htk;clear htk hd hres hit;go_upto_region 10 with (go_at_call 165;refine HK.out.mono ?_;rintro e w5 ⟨rfl,r5,f5⟩;have H5:=zhd2 r5 f5;clear r5 f5);go_wp2;go_ret2;exact⟨rfl,H5.o0,H3.o0.trans (H5.l1.mono (by simp))⟩
end Go.Proofs.YtkmpfgpfbmeihaaGreatDoor.huf
