/-
  Texts of this proof, one behind the other: OwnB, RGet, DeltaLaw, PkLaw, RShaLaw, Sha2, ObjId, LoHead, LoParse, LoFile, MapP, FsMap, FsA.
-/
import Derived.Test.YtbabjlohkniciaaGreatDoorV16
import Derived.Test.YtbabjlohkniciaaGreatDoorV18
import Derived.Laws.CopyRow
import Derived.Laws.RangeAny
set_option maxHeartbeats 16000000
set_option maxRecDepth 100000
set_option linter.unusedVariables false
set_option linter.unusedSimpArgs false
namespace Go.Proofs.YtbabjlohkniciaaGreatDoor.lib
open Go Go.RowKit
theorem qq6 {w:World} {b:Nat} {c:Array Value} {t:TypeId} {f:Nat×Nat} (h:w.heap[b]?=some (.cells c t f)) (hf:f=(0,0)∨c.size≤f.1) (o:Nat) (ho:o<c.size):w.frozen? ⟨b,o,none⟩=false:=by
 rcases hf with rfl|hf
 ·exact qay h o
 ·simp[World.frozen?,h];intro h1;omega
section
variable {P : Program}
theorem qe8 (g o:Nat) (t:TypeId) (f:Nat×Nat):∀(vs:List Value) (i:Nat) (cur:Array Value) (w:World),w.heap[g]?=some (.cells cur t f)→(f=(0,0)∨cur.size≤f.1)→o+i+vs.length≤cur.size→(∀v∈vs,v.oneCell'=true)→
  (storeCells ⟨g,o,none⟩ vs i).run P w = .ok () (w.setRow g (cur.toList.take (o+i)++vs++cur.toList.drop (o+i+vs.length)).toArray)
 | [],i,cur,w,hg,_,_,_=>by
  simp only[storeCells,qb0,qbb,qb5,qep,Array.toArray_toList];rw[setRow_self w g cur t f hg];rfl
 | v::rest,i,cur,w,hg,hf,hl,h1=>by
  have hi:o+i<cur.size:=by simp at hl;omega
  have hadd:(⟨g,o,none⟩:Addr).add i=⟨g,o+i,none⟩:=by unfold Addr.add;split<;>simp_all
  have hcell:w.cell? ⟨g,o+i,none⟩=some cur[o+i]:=by simp[World.cell?,hg,hi]
  have hfro:w.frozen? ⟨g,o+i,none⟩=false:=qq6 hg hf _ hi;have hst:(store ((⟨g,o,none⟩:Addr).add i) v).run P w = .ok () (w.setRow g (cur.setIfInBounds (o+i) v)):=by rw[hadd,run_store P w _ v _ (h1 v (by simp)),hcell];simp[hfro,setCell_eq_setRow w g (o+i) cur t f v hg]
  have ih:=qe8 g o t f rest (i+1) (cur.setIfInBounds (o+i) v) (w.setRow g (cur.setIfInBounds (o+i) v)) (setRow_heap w g cur _ t _ hg) (by rw[Array.size_setIfInBounds];exact hf) (by simp at hl ⊢;omega) (λx hx=>h1 x (by simp[hx]));simp only[storeCells,qus,hst,Result.andThen_ok,ih,setRow_setRow];congr 3;have e:=list_seg_step cur.toList (o+i) v rest (by simp at hl ⊢;omega);simpa[Array.toList_setIfInBounds,qcu] using e
end
def OwnB (w:World) (e:TypeId) (a:Option Addr) (cap:Nat) (xs:List Value):Prop:=
 (a=none∧cap=0∧xs=[])∨∃g o cur f,a=some ⟨g,o,none⟩∧w.heap[g]?=some (.cells cur e f)∧(f=(0,0)∨cur.size≤f.1)∧xs.length≤cap∧cap≤maxLen∧o+cap≤cur.size∧(cur.toList.drop o).take xs.length=xs
theorem Own.b {w:World} {e:TypeId} {a:Option Addr} {cap:Nat} {xs:List Value} (h:Own w e a cap xs):OwnB w e a cap xs:=by
 rcases h with h|⟨g,o,cur,rfl,hg,r⟩
 ·exact .inl h
 ·exact .inr ⟨g,o,cur,_,rfl,hg,.inl rfl,r⟩
theorem OwnB.shape {w:World} {e:TypeId} {a:Option Addr} {cap:Nat} {xs:List Value} (h:OwnB w e a cap xs):xs.length≤cap∧cap≤maxLen∧(a=none→cap=0):=by
 rcases h with⟨_,rfl,rfl⟩|⟨g,o,cur,f,rfl,_,_,h1,h2,_⟩
 ·exact⟨qag _,qba _,λ_=>rfl⟩
 ·exact⟨h1,h2,λh=>by cases h⟩
theorem OwnB.cs {w:World} {e:TypeId} {a:Option Addr} {cap:Nat} {xs:List Value} (h:OwnB w e a cap xs):Cs w a xs:=by
 rcases h with⟨_,_,rfl⟩|⟨g,o,cur,f,rfl,hg,_,h1,h2,h3,h4⟩
 ·exact .inl rfl
 ·refine .inr ⟨g,o,rfl,λj v hv=>?_⟩;rw[cell_of hg,<-qci];rw[<-h4,qbl]at hv;split at hv
  ·simpa using hv
  ·cases hv
theorem OwnB.fr {S:List Nat} {w w':World} {e:TypeId} {a:Option Addr} {cap:Nat} {xs:List Value} (h:OwnB w e a cap xs) (f:Fr S w w') (hn:∀x∈blk a,x∉S):OwnB w' e a cap xs:=by
 rcases h with h|⟨g,o,cur,z,rfl,hg,r⟩
 ·exact .inl h
 ·exact .inr ⟨g,o,cur,z,rfl,f.blk hg (hn g (by simp[blk])),r⟩
theorem OwnB.lt {w:World} {e:TypeId} {a:Option Addr} {cap:Nat} {xs:List Value} (h:OwnB w e a cap xs):∀x∈blk a,x<w.heap.size:=by
 rcases h with⟨rfl,_⟩|⟨g,o,cur,f,rfl,hg,r⟩
 ·simp[blk]
 ·intro x hx;simp[blk]at hx;rw[hx];exact lt_of_block hg
theorem OwnB.rd {w:World} {e:TypeId} {a:Option Addr} {cap:Nat} {bs:List UInt8} (h:OwnB w e a cap (bs.map bv)):Rd w a cap bs:=by obtain⟨h1,h2,h3⟩:=h.shape;exact⟨h.cs,by simpa using h1,h2,h3⟩
section
variable {P : Program} {w : World} {t e : TypeId} {z : Value} {bytes : Nat}
structure MoreB (w w':World) (e:TypeId) (a a':Option Addr) (cap':Nat) (xs:List Value):Prop where
 own:OwnB w' e a' cap' xs
 fr:Fr (blk a) w w'
 at_:∀x∈blk a',x∈blk a∨w.heap.size≤x
theorem qot (T:SliceTy P t e z 1 bytes) (ty:TypeId) (a:Option Addr) (n cap:Nat) (xs:List Value) (hown:OwnB w e a cap xs) (hn:xs.length=n)
  (ao:Option Addr) (m c:Nat) (news:List Value) (hmc:m≤c) (hnone:ao=none→c=0) (hc:Cs w ao news) (hl:news.length=m) (h1:∀u∈news,u.oneCell'=true)
  (hby:(n+m)*bytes≤140737488355328) (h63:n+m≤maxLen) :
  ∃a' cap' w',(Builtin.append_ #[t,t] ty #[.slice a n cap,.slice ao m c]).run P w = .ok (.slice a' (n+m) cap') w'∧MoreB w w' e a a' cap' (xs++news):=by
 subst hn;have hcs:=hown.cs;rcases hown with⟨rfl,rfl,rfl⟩|⟨g,o,cur,f,rfl,hg,kf,k1,k2,k3,k4⟩
 ·obtain⟨a',cap',w',hr,A⟩:=qhg (P:=P) T ty none 0 0 [] (Own.nil w e) rfl ao m c news hmc hnone hc hl h1 (by simpa using hby) (by simpa using h63);exact⟨a',cap',w',hr,A.own.b,A.fr,A.at_⟩
 ·by_cases hm0:m=0
  ·subst hm0;obtain rfl:news=[]:=qbs hl;obtain⟨hu,⟨i,hi,hz,hs,hbt⟩,hcz,hp⟩:=T;refine⟨some ⟨g,o,none⟩,cap,w,?_,by rw[qb0];exact .inr ⟨g,o,cur,f,rfl,hg,kf,k1,k2,k3,k4⟩,Fr.refl _ _,λx hx=>.inl hx⟩;cases ao with
   | none=>
    have hc0:=hnone rfl;simp[Builtin.append_,run_underlying hu,sizeOf,typeInfo,hi,Builtin.lenOf,k1,Builtin.firstCells,storeCells]
   | some b=>have hf:=run_firstCells_some (P:=P) w i.size 0 b 0 c [] (by simp) (by simp);simp[Builtin.append_,run_underlying hu,sizeOf,typeInfo,hi,Builtin.lenOf,k1,hf,storeCells]
  ·by_cases hroom:xs.length+m≤cap
   ·obtain⟨hu,⟨i,hi,hz,hs,hbt⟩,hcz,hp⟩:=T;obtain⟨g',o',rfl,hcn⟩:=hc.at (by omega);have hn':=qxy hcn;have hf:=run_firstCells_some (P:=P) w i.size m ⟨g',o',none⟩ m c news (by rw[hs];omega) hn';have hst:=qe8 (P:=P) g (o+xs.length*i.size) e f news 0 cur w hg kf (by rw[hs];omega) h1;simp only[qb5]at hst;refine⟨some ⟨g,o,none⟩,cap,_,?_,⟨.inr ⟨g,o,_,f,rfl,setRow_heap w g cur (cur.toList.take (o+xs.length*i.size)++news++cur.toList.drop (o+xs.length*i.size+news.length)).toArray e f hg,?_,by rw[qab,hl];exact hroom,k2,?_,?_⟩,⟨rfl,rfl,rfl,by simp,λk _ hk=>setRow_other w g k _ (λe=>hk (by simp[blk,e]))⟩,λx hx=>.inl hx⟩⟩
    ·simp[Builtin.append_,run_underlying hu,sizeOf,typeInfo,hi,Builtin.lenOf,hroom,hf,Addr.add_lit,hst]
    ·refine kf.imp id λk=>?_
     simp only[List.size_toArray,qab,qar,qau,quz,hs];omega
    ·simp only[List.size_toArray,qab,qar,qau,quz,hs];omega
    ·simp only[hs,qdi];rw[qfq (by simp;omega),qfq (by simp;omega),List.drop_take,Nat.add_sub_cancel_left,k4,qab,hl];rw[qc2 (by simp[hl]),qa9 (by simp[hl])]
   ·obtain⟨cap',w',hr,A⟩:=qgn (P:=P) T ty (some ⟨g,o,none⟩) xs.length cap xs hcs (by omega) k1 (by simp) ao m c news hc (by omega) (by omega) hby h63;obtain⟨o1,_⟩:=qi1 A.own;exact⟨_,cap',w',hr,o1.b,A.fr.mono (by simp),λx hx=>.inr (Nat.le_of_eq (by have:=A.at_ x hx;simp at this;exact this.symm))⟩
theorem qgk (T:SliceTy P t e z 1 bytes) {ops:Array Oper} {rest:List Oper} {o:Oper} {A:Act} {Q:Exit→Act→World→Prop} (hgd:o.guard=none) (s x:Operand)
  (ho:o.op = .call { callee:=.builtin .append,args:=#[s,x],argTypes:=#[t,t] })
  (a:Option Addr) (n cap:Nat) (xs:List Value) (hs:A.eval s = .slice a n cap) (hown:OwnB w e a cap xs) (hn:xs.length=n)
  (ao:Option Addr) (m c:Nat) (news:List Value) (hx:A.eval x = .slice ao m c) (hmc:m≤c) (hnone:ao=none→c=0) (hc:Cs w ao news) (hl:news.length=m) (h1:∀u∈news,u.oneCell'=true)
  (hby:(n+m)*bytes≤140737488355328) (h63:n+m≤maxLen)
  (h:∀a' cap' w',MoreB w w' e a a' cap' (xs++news)→wpList P ops Q rest (A.put o.dst (.slice a' (n+m) cap')) w'):wpList P ops Q (o::rest) A w:=
 wpList_plain hgd λ_ hK=>by obtain⟨a',cap',w',hr,h2⟩:=qot (P:=P) T o.type a n cap xs hown hn ao m c news hmc hnone hc hl h1 hby h63;unfold Oper.wp execOp;simp only[ho,resolve,invoke,builtin,qus,Sem.run_pure,Result.andThen_ok,List.map_toArray,qak,qap,hs,hx,hr];exact hK _ _ (h a' cap' w' h2)
theorem qjl {ops:Array Oper} {rest:List Oper} {o:Oper} {a:Act} {Q:Exit→Act→World→Prop} {src dst:TypeId} (hs:P.underlying src=some .string) (hd:P.underlying dst=some (.slice e)) (he:P.underlying e=some (.int .u8))
  (hgd:o.guard=none) (x:Operand) (ho:o.op = .convert src dst x) (bs:List UInt8) (hx:a.eval x = .string (str bs)) (hm:bs.length≤maxLen)
  (h:∀cap w',bs.length≤cap→OwnB w' e (some ⟨w.heap.size,0,none⟩) cap (bs.map bv)→Fr [] w w'→w.heap.size<w'.heap.size→wpList P ops Q rest (a.put o.dst (.slice (some ⟨w.heap.size,0,none⟩) bs.length cap)) w'):wpList P ops Q (o::rest) a w:=by
 have hr:=run_bytes_of_string (P:=P) w src dst e (str bs) hs hd he;have hsz:(str bs).size=bs.length:=by simp[str,ByteArray.size]
 rw[hsz]at hr;have h1:=grownCap_ge w bs.length 0 e;have h2:=grownCap_le_maxLen w bs.length 0 e hm;generalize grownCap w bs.length 0 e=cap at *;refine wpList_plain hgd λK hK=>?_
 unfold Oper.wp execOp;simp only[ho,hx,qus,Result.andThen_ok,Sem.run_pure,hr];have hb:=qa4 w.drew (.cells (bytesRow (str bs) cap) e ((bytesRow (str bs) cap).size,(bytesRow (str bs) cap).size+1));have hrow:(bytesRow (str bs) cap).toList.take bs.length=bs.map bv∧(bytesRow (str bs) cap).size=cap:=by
  constructor
  ·unfold bytesRow;rw[Array.toList_append,qc2 (by simp[str]),qa9 (by simp[str])];simp[str,bv]
  ·unfold bytesRow;simp;omega
 refine hK _ _ (h cap _ h1 (.inr ⟨w.heap.size,0,_,_,rfl,hb,.inr (qag _),by simpa using h1,h2,by rw[hrow.2];omega,?_⟩) ((Fr.drew1 [] w).alloc _) (by rw[qav];exact Nat.lt_succ_self _));rw[qaj,qa8];exact hrow.1
end
end Go.Proofs.YtbabjlohkniciaaGreatDoor.lib
namespace Go.Proofs.YtbabjlohkniciaaGreatDoor.crc
open Go Go.RowKit lib
def getb (bs:List UInt8):Nat:=bs.foldl (λn b=>256*n+b.toNat) 0
theorem qxe (bs:List UInt8):getb bs<256^bs.length:=by
 have:∀(bs:List UInt8) (n k:Nat),n<256^k→bs.foldl (λn b=>256*n+b.toNat) n<256^(k+bs.length):=by
  intro bs;induction bs with
  | nil=>intro n k h;exact h
  | cons b t ih=>intro n k h;rw[List.foldl_cons,qam,show k+(t.length+1)=(k+1)+t.length by omega];refine ih _ _ ?_;have:=qbo b;rw[qcr];omega
 have h:=this bs 0 0 (by decide);rwa [qbe]at h
theorem qzg (a:Option Addr) (cap:Nat) (bs:List UInt8) (w:World) (h:lib.Rd w a cap bs) (hlen:bs.length≤4):Calls Tryz.prog 61 #[.slice a bs.length cap] w λe w'=>e = .returned (.int .u64 (getb bs:Nat))∧Fr [] w w':=by
 obtain⟨L,hL⟩:=zex bs.length;have hl4:L≤4:=by omega
 have HI:=zhd2 h hL;rw[<-hL];clear h hL hlen;go_enter Tryz.func61,Tryz.ntmps61;go_wp2;go_loopg [3,4] L (λk s3 s4 wr=>∃i n:Nat,s4 = .int .i64 (i:Nat)∧s3 = .int .u64 (n:Nat)∧i+k=L∧n=getb (bs.take i)∧Fr [] w wr);case atStart=>exact⟨0,0,rfl,rfl,by omega,rfl,Fr.refl _ _⟩
 case round=>
  obtain⟨i,n,rfl,rfl,hik,he,hf⟩:=hrel;have hn:n<4294967296:=by
   have h1:=qxe (bs.take i);rw[<-he]at h1;have h2:256^(bs.take i).length≤256^4:=qax (by decide) (by rw[qar];omega);have h3:256^4=4294967296:=by decide
   omega
  have H:=zhd2 he hf;clear he hf;by_cases hi:i<L
  ·obtain⟨k,rfl⟩:∃k,gk=k+1:=⟨gk-1,by omega⟩;have hil:i<bs.length:=by rw[<-HI.out.2];exact hi
   obtain⟨g,o,rfl,hc⟩:=(HI.out.1.fr H.out.2).at hil;have hT:getb (bs.take (i+1))=256*n+bs[i].toNat:=by unfold getb at *;rw[qbc hil,List.foldl_append,H.out.1];rfl
   have hb:=qbo bs[i];generalize bs[i].toNat=b at *;have HT:=zhd hT;clear hT hil;go_wp2;go_roundg k;case measure=>omega
   case rel=>exact⟨i+1,256*n+b,by go_num,by go_num,by omega,by rw[HT.out],H.out.2⟩
  ·obtain rfl:i=L:=by omega
   have hg:getb bs=n:=by rw[H.out.1,HI.out.2,List.take_length]
   have HG:=zhd hg;clear hg;go_wp2;go_ret;exact⟨by rw[HG.out];rfl,H.out.2⟩
end Go.Proofs.YtbabjlohkniciaaGreatDoor.crc
namespace Go.Proofs.YtbabjlohkniciaaGreatDoor.delta
open Go Go.RowKit lib
def rdn:Nat→Nat→Nat→List UInt8→Nat×List UInt8×Nat
 | 0,_,_,_=>(0,[],3)
 | _+1,_,_,[]=>(0,[],4)
 | f+1,i,n,c::r=>if c.toNat<128 then (if 2147483647<n+c.toNat%128*128^i then (0,[],3) else (n+c.toNat%128*128^i,r,0)) else rdn f (i+1) (n+c.toNat%128*128^i) r
def rd (d:List UInt8):Nat×List UInt8×Nat:=rdn 5 0 0 d
def sizes (d:List UInt8):Nat×Nat×List UInt8×Nat:=
 if (rd d).2.2=0 then (if (rd (rd d).2.1).2.2=0 then ((rd d).1,(rd (rd d).2.1).1,(rd (rd d).2.1).2.1,0) else (0,0,[],(rd (rd d).2.1).2.2)) else (0,0,[],(rd d).2.2)
def pl (op:Nat):Nat→Nat→Nat→Nat→List UInt8→Option (Nat×Nat×List UInt8)
 | 0,_,p,n,d=>some (p,(if n=0 then 65536 else n),d)
 | f+1,i,p,n,d=>if op/2^i%2=0 then pl op f (i+1) p n d else match d with
  | []=>none
  | c::r=>if i<4 then pl op f (i+1) (p+c.toNat*256^i) n r else pl op f (i+1) p (n+c.toNat*256^(i-4)) r
def app (base:List UInt8) (tn:Nat):Nat→List UInt8→List UInt8→List UInt8×Nat
 | _,[],out=>if out.length<tn then ([],3) else (out,0)
 | 0,_::_,_=>([],3)
 | f+1,c::r,out=>if 128≤c.toNat then match pl (c.toNat-128) 7 0 0 0 r with
   | none=>([],4)
   | some (p,n,rest)=>if base.length<p∨base.length-p<n∨tn-out.length<n then ([],3) else app base tn f rest (out++(base.drop p).take n)
  else if c.toNat=0∨tn-out.length<c.toNat then ([],3) else if r.length<c.toNat then ([],4) else app base tn f (r.drop c.toNat) (out++r.take c.toNat)
def apply (base d:List UInt8) (bound:Int):List UInt8×Nat:=
 if (sizes d).2.2.2≠0 then ([],(sizes d).2.2.2) else if (sizes d).1≠base.length then ([],3) else if bound.toNat<(sizes d).2.1 then ([],5) else app base (sizes d).2.1 (sizes d).2.2.1.length (sizes d).2.2.1 []
end Go.Proofs.YtbabjlohkniciaaGreatDoor.delta
namespace Go.Proofs.YtbabjlohkniciaaGreatDoor.pk
open Go lib
structure Ent where
 kind:Nat
 at_:Nat
 size:Nat
 crc:Nat
 data:List UInt8
 base:List UInt8
 off:Nat
def phF (bs:List UInt8):Nat→Nat→Nat→Nat→Except Nat (Nat×Nat×Nat)
 | 0,_,_,_=>.error 3
 | f+1,i,kind,size=>match bs[i]? with
  | none=>.error 4
  | some c=>
   if i=0 then
    if c.toNat/16%8=0∨c.toNat/16%8=5 then .error 3
    else if 128≤c.toNat then phF bs f 1 (c.toNat/16%8) (c.toNat%16) else .ok (c.toNat/16%8,c.toNat%16,1)
   else if 128≤c.toNat then phF bs f (i+1) kind (size+c.toNat%128*2^(7*i-3))
   else if 2147483647<size+c.toNat%128*2^(7*i-3) then .error 3
   else if 65536<size+c.toNat%128*2^(7*i-3) then .error 5
   else .ok (kind,size+c.toNat%128*2^(7*i-3),i+1)
def phead (bs:List UInt8):Except Nat (Nat×Nat×Nat):=phF bs 5 0 0 0
structure Obj where
 kind:Int
 body:List UInt8
 id:List UInt8
 at_:Int
 crc:Nat
structure Kn where
 kind:Int
 body:List UInt8
 id:List UInt8
def oid (kind:Int) (body:List UInt8):List UInt8:=hexb (sha.sha1 (obj.header kind body.length++body))
def whole (r:Ent) (kind:Int) (body:List UInt8):Obj:=⟨kind,body,oid kind body,r.at_,r.crc⟩
abbrev St:=Option (Except Nat (Obj×Nat))
def over (r:Ent) (kind:Int) (base:List UInt8) (d:Nat):Except Nat (Obj×Nat):=
 if 50<d+1 then .error 3 else if (delta.apply base r.data 65536).2=0 then .ok (whole r kind (delta.apply base r.data 65536).1,d+1) else .error (delta.apply base r.data 65536).2
def atOf (l:List Ent) (i off:Nat):Option Nat:=(List.range i).find? λk=>match l[k]? with
 | some y=>y.at_==off
 | none=>false
def idIs (id:List UInt8):St→Bool
 | some (.ok (o,_))=>o.id==id
 | _=>false
def first1 (l:List Ent) (i:Nat) (x:Ent):St:=
 if x.kind=6 then (match atOf l i x.off with
  | none=>some (.error 3)
  | some _=>none)
 else if x.kind=7 then none else some (.ok (whole x x.kind x.data,0))
def firsts (l:List Ent):List St:=(List.range l.length).map λi=>match l[i]? with
 | some x=>first1 l i x
 | none=>none
def onto (x:Ent):St→St
 | none=>none
 | some (.error e)=>some (.error e)
 | some (.ok (o,d))=>some (over x o.kind o.body d)
def try1 (l:List Ent) (W:List St) (i:Nat) (x:Ent):St:=
 if x.kind=6 then (match atOf l i x.off with
  | none=>none
  | some k=>onto x (W[k]?.getD none))
 else onto x ((W.find? (idIs x.base)).getD none)
def pass (l:List Ent):Nat→Nat→List St→Bool→List St×Bool
 | 0,_,W,more=>(W,more)
 | n+1,i,W,more=>match l[i]?,W[i]? with
  | some x,some none=>(match try1 l W i x with
   | none=>pass l n (i+1) W more
   | some s=>pass l n (i+1) (W.set i (some s)) true)
  | _,_=>pass l n (i+1) W more
def kfind (kn:List Kn) (id:List UInt8):Option Kn:=kn.find? λk=>k.id==id&&oid k.kind k.body==id
def ask (l:List Ent) (kn:List Kn):Nat→Nat→List St→Option (List St)
 | 0,_,_=>none
 | n+1,i,W=>match l[i]?,W[i]? with
  | some x,some none=>if x.kind=7 then (match kfind kn x.base with
    | some k=>some (W.set i (some (over x k.kind k.body 0)))
    | none=>ask l kn n (i+1) W) else ask l kn n (i+1) W
  | _,_=>ask l kn n (i+1) W
def resF (l:List Ent) (kn:List Kn):Nat→List St→List St
 | 0,W=>W
 | f+1,W=>if (pass l l.length 0 W false).2 then resF l kn f (pass l l.length 0 W false).1 else match ask l kn l.length 0 (pass l l.length 0 W false).1 with
  | some W2=>resF l kn f W2
  | none=>(pass l l.length 0 W false).1
def gather:List St→Except Nat (List Obj)
 | []=>.ok []
 | none::_=>.error 61
 | some (.error e)::_=>.error e
 | some (.ok (o,_))::t=>match gather t with
  | .error e=>.error e
  | .ok r=>.ok (o::r)
def resolve (l:List Ent) (kn:List Kn):Except Nat (List Obj):=gather (resF l kn (l.length+1) (firsts l))
end Go.Proofs.YtbabjlohkniciaaGreatDoor.pk
namespace Go.Proofs.YtbabjlohkniciaaGreatDoor.sha
open Go Go.RowKit lib bm
theorem qyw (p q:List UInt8) (i:Nat) (h:i+3<p.length):word (p++q) i=word p i:=by unfold word;rw[qcc (by omega),qcc (by omega),qcc (by omega),qcc (by omega)]
theorem qos (p q:List UInt8) (h:64≤p.length):∀t,sched (p++q) t=sched p t
 | 0=>rfl
 | t+1=>by
  have e:∀x,sched x (t+1)=sched x t++[if t<16 then word x (4*t) else rol (bits .xor .u32 (bits .xor .u32 (bits .xor .u32 ((sched x t)[t-3]?.getD 0) ((sched x t)[t-8]?.getD 0)) ((sched x t)[t-14]?.getD 0)) ((sched x t)[t-16]?.getD 0)) 1]:=λ_=>rfl
  refine (e _).trans (Eq.trans ?_ (e _).symm);have ih:=qos p q h t;generalize sched (p++q) t=a at *;subst ih;refine congrArg (λz=>sched p t++[z]) ?_;by_cases ht:t<16
  ·rw[if_pos ht,if_pos ht];exact qyw p q _ (by omega)
  ·rw[if_neg ht,if_neg ht]
theorem qvq (p q:List UInt8) (h:64≤p.length) (t:Nat) (s:H5):round (p++q) t s=round p t s:=by unfold round;rw[qos p q h]
theorem ql9 (p q:List UInt8) (h:64≤p.length) (s:H5):∀t,rounds (p++q) t s=rounds p t s
 | 0=>rfl
 | t+1=>by rw[rounds,rounds,ql9 p q h s t,qvq p q h]
theorem qzv (p q:List UInt8) (h:64≤p.length) (s:H5):mixH s (p++q)=mixH s p:=by unfold mixH;rw[ql9 p q h]
theorem qhu:∀(f g:Nat) (h:H5) (p:List UInt8),p.length≤f→p.length≤g→blocks f h p=blocks g h p
 | 0,0,h,p,_,_=>rfl
 | 0,g+1,h,p,h1,_=>by rw[blocks,blocks,if_neg (by omega)]
 | f+1,0,h,p,_,h2=>by rw[blocks,blocks,if_neg (by omega)]
 | f+1,g+1,h,p,h1,h2=>by
  rw[blocks,blocks];split
  ·exact qhu f g _ _ (by rw[qau];omega) (by rw[qau];omega)
  ·rfl
theorem qfi:∀(f F:Nat) (h:H5) (p q:List UInt8),p.length≤f→(p++q).length≤F→blocks F h (p++q)=blocks (leftOf f p++q).length (blocks f h p) (leftOf f p++q)
 | 0,F,h,p,q,h1,h2=>by
  rw[leftOf,blocks];exact qhu _ _ _ _ h2 (qag _)
 | f+1,F,h,p,q,h1,h2=>by
  by_cases h64:64≤p.length
  ·rw[leftOf,if_pos h64,show blocks (f+1) h p=blocks f (mixH h p) (p.drop 64) by rw[blocks,if_pos h64]];obtain⟨F',rfl⟩:∃F',F=F'+1:=⟨F-1,by rw[qab]at h2;omega⟩;rw[blocks,if_pos (by rw[qab];omega),qzv p q h64,qfq h64];exact qfi f F' _ _ q (by rw[qau];omega) (by rw[qab,qau];rw[qab]at h2;omega)
  ·rw[leftOf,if_neg h64,show blocks (f+1) h p=h by rw[blocks,if_neg h64]];exact qhu _ _ _ _ h2 (qag _)
theorem qg6:∀(f:Nat) (p:List UInt8),(leftOf f p).length%64=p.length%64
 | 0,p=>by rw[leftOf]
 | f+1,p=>by
  rw[leftOf];split
  ·rw[qg6 f,qau];omega
  ·rfl
theorem qoq (s:List UInt8):sha1 s=dig5 (blocks (padded s s.length).length h0 (padded s s.length)):=by
 have hz:zer ((leftOf s.length s).length+1)=zer (s.length+1):=by have:=qg6 s.length s;unfold zer;omega
 have e:∀r:List UInt8,zer (r.length+1)=zer (s.length+1)→padded r s.length=r++([128]++(List.replicate (zer (s.length+1)) 0++(sums.be4 (s.length/536870912)++sums.be4 (s.length*8%4294967296)))):=λr hr=>by unfold padded padTo;rw[hr];simp only[qat]
 unfold sha1;rw[e _ hz,e s rfl,<-qfi s.length _ h0 s _ (qag _) (qag _)]
def tailOf (len:Nat):List UInt8:=[128]++(List.replicate (zer (len+1)) 0++(sums.be4 (len/536870912)++sums.be4 (len*8%4294967296)))
theorem qkz (r:List UInt8) (len:Nat) (h:r.length%64=len%64):padded r len=r++tailOf len:=by
 have hz:zer (r.length+1)=zer (len+1):=by unfold zer;omega
 unfold padded padTo tailOf;rw[hz];simp only[qat]
theorem qza (a b:List UInt8) {rs:List UInt8} (hrs:rs=leftOf (leftOf a.length a++b).length (leftOf a.length a++b)) {len:Nat} (hlen:len=a.length+b.length) :
  dig5 (blocks (padded rs len).length (blocks (leftOf a.length a++b).length (blocks a.length h0 a) (leftOf a.length a++b)) (padded rs len))=sha1 (a++b):=by
 have h1:=qg6 a.length a;have h2:=qg6 (leftOf a.length a++b).length (leftOf a.length a++b);rw[qab]at h2;have hmod:rs.length%64=len%64:=by rw[hrs,hlen,qab];omega
 rw[qkz rs len hmod,hrs,<-qfi _ _ _ _ _ (qag _) (qag _),qat,<-qfi a.length _ h0 a (b++tailOf len) (qag _) (qag _),qoq,
  qkz (a++b) _ rfl,hlen,qat]
 simp only[qab]
end Go.Proofs.YtbabjlohkniciaaGreatDoor.sha
namespace Go.Proofs.YtbabjlohkniciaaGreatDoor.obj
open Go Go.RowKit lib
def NewHd (w:World) (bs:List UInt8) (e:Ending) (w':World):Prop:=
 ∃a c,e = .returned (.slice a bs.length c)∧lib.Rd w' a c bs∧(∀x∈blk a,w.heap.size≤x)∧Fr [] w w'
def OwnHd (w:World) (bs:List UInt8) (e:Ending) (w':World):Prop:=
 ∃a c,e = .returned (.slice a bs.length c)∧OwnB w' 5 a c (bs.map bv)∧(∀x∈blk a,w.heap.size≤x)∧Fr [] w w'
theorem qmp (k:Int) (n:Nat) (w:World) (hn:n≤140737488355328) (hp:Pw w):Calls Tryz.prog 22 #[.int .i64 k,.int .i64 n] w (OwnHd w (header k n)):=by
 obtain⟨A,hA⟩:=zex (str (kname k));obtain⟨D,hD⟩:=zex (str (Lib.decDigits n));have hAs:A.size≤6:=by have:=qib k;rw[hA];simpa[str,ByteArray.size] using this
 have hDs:D.size≤16:=by
  have:=qrb 16 n (by decide) (by
   have:10^16=10000000000000000:=by decide
   omega)
  have e:(str (Lib.decDigits n)).size=(Lib.decDigits n).length:=by simp[str,ByteArray.size]
  rw[hD,e];exact this
 have h1:=λw'=>qnq k w'
 have h2:=λw' h=>qz4 n hn w' h
 rw[<-hA]at h1;rw[<-hD]at h2;have hcat:A++({ data:=#[32] }:ByteArray)++D++({ data:=#[0] }:ByteArray)=str (header k n):=by have e1:({ data:=#[32] }:ByteArray)=str [32]:=rfl;have e0:({ data:=#[0] }:ByteArray)=str [0]:=rfl;rw[e1,e0,hA,hD,qcz,qcz,qcz];rfl
 have H:=zhd4 h1 h2 hcat hp;clear h1 h2 hA hD hcat hp;go_enter Tryz.func22,Tryz.ntmps22;go_wp2_with (first
  | (go_at_call 37;refine (H.o0 _).mono ?_;rintro e w1 ⟨rfl,f1⟩;have HF:=zhd f1;clear f1)
  | (go_at_call 51;refine (H.o1 _ (H.l3.fr HF.out)).mono ?_;rintro e w2 ⟨rfl,f2⟩;have HF2:=zhd (HF.out.trans f2);clear f2)
  | (refine qj5 (n:Int) rfl _ _ _ rfl (n:Int) 0 rfl rfl (by split<;>omega) ?_)
  | (refine qjl (e:=5) Tryz.underlying9 Tryz.underlying22 Tryz.underlying5 rfl _ rfl (header k n) (by rw[<-H.o2];rfl) (by have:=qe5 k n hn;unfold maxLen;omega) ?_;intro cap w3 hc3 ho3 f3 hl3;have H3:=zhd2 ho3 f3;clear ho3 f3))
 go_ret;exact⟨_,cap,rfl,H3.o0,λx hx=>by simp only[blk,qaz]at hx;rw[hx];exact HF2.out.size,HF2.out.trans H3.l1⟩
theorem qmq (k:Int) (n:Nat) (w:World) (hn:n≤140737488355328) (hp:Pw w):Calls Tryz.prog 22 #[.int .i64 k,.int .i64 n] w (NewHd w (header k n)):=
 (qmp k n w hn hp).mono λ_ _ ⟨a,c,he,ho,hn,f⟩=>⟨a,c,he,ho.rd,hn,f⟩
theorem zci (w:World):Calls Tryz.prog 54 #[.int .i64 1] w λe w'=>e = .returned (.tuple #[.pointer (some ⟨w.heap.size,0,none⟩),.int .i64 0])∧sha.Sh w' w.heap.size sha.h0 none 0 [] 0∧Fr [] w w':=by go_enter Tryz.func54,Tryz.ntmps54;go_wp2_with (go_at_call 90;refine (sha.qyf _).mono ?_;rintro e w1 ⟨rfl,A1,f1⟩;have H1:=zhd2 A1 f1;clear A1 f1);go_ret2;exact⟨rfl,H1.out⟩
theorem zbi (k:Int) (ao:Option Addr) (cap:Nat) (bs:List UInt8) (w:World) (h:lib.Rd w ao cap bs) (hl:bs.length≤140737488355200) (hp:Pw w) :
  Calls Tryz.prog 30 #[.int .i64 k,.slice ao bs.length cap] w λe w'=>e = .returned (.string (str (pk.oid k bs)))∧Fr [] w w':=by
 obtain⟨L,hL⟩:=zex bs.length;obtain⟨hd,hhd⟩:=zex (header k L);have hdl:hd.length≤24:=by rw[hhd];exact qe5 k L (by omega)
 have hres:pk.oid k bs=pk.hexb (sha.sha1 (hd++bs)):=by rw[hhd,hL];rfl
 rw[hres];have hh:=λw' hpw=>qmq k L w' (by omega) hpw
 rw[<-hhd]at hh;rw[<-hL]at hl ⊢;have H:=zhd4 h hL hh hp;clear h hL hh hp hhd hres;go_enter Tryz.func30,Tryz.ntmps30;go_upto_region 2 with (go_at_call 54;refine (zci _).mono ?_;rintro e w1 ⟨rfl,A1,f1⟩;have H1:=zhd2 A1 f1;clear A1 f1);obtain⟨g,hg⟩:=zex w.heap.size;rw[<-hg]at H1 ⊢;have hgw:g<w1.heap.size:=by obtain⟨C,hC,_⟩:=H1.out.1.blk;exact lt_of_block hC
 have hW:∀w2 a2 c2,lib.Rd w2 a2 c2 hd→Fr [] w1 w2→(∀x∈blk a2,w1.heap.size≤x)→Calls Tryz.prog 55 #[.pointer (some ⟨g,0,none⟩),.slice a2 hd.length c2] w2 λe w'=>e = .returned (.tuple #[])∧Fr [g] w2 w'∧
   ∃ra' rc',sha.Sh w' g (sha.blocks hd.length sha.h0 hd) ra' rc' (sha.leftOf hd.length hd) hd.length∧∀x∈lib.blk ra',w2.heap.size≤x:=λw2 a2 c2 r2 f2 n2=>by
  obtain⟨C,hC,s⟩:=H1.out.1.blk
  have:=sha.qof g sha.h0 none 0 [] 0 c2 a2 hd w2 ⟨⟨C,f2.blk hC (by simp),s⟩,H1.out.1.own.fr f2 (by simp),by simp[lib.blk]⟩ r2 (λ_ x hx=>by have:=n2 x hx;omega) (by omega) (by simp;omega)
  simp only[qck,qbe,lib.blk,qby,false_or]at this
  exact this
 have HW:=zhd3 hW hg hgw;clear hW hg hgw;go_upto_region 3 with (first
  | (go_at_call 22;refine (H.o2 _ (H.l3.fr H1.out.2)).mono ?_;rintro e w2 ⟨a2,c2,rfl,r2,n2,f2⟩;have H2:=zhd3 r2 f2 n2;clear r2 f2 n2)
  | (go_at_call 55;refine (HW.o0 _ a2 c2 H2.o0 H2.o1 H2.l2).mono ?_;rintro e w3 ⟨rfl,f3,ra3,rc3,A3,n3⟩;have H3:=zhd3 f3 A3 n3;clear f3 A3 n3))
 obtain⟨f3,A3,n3⟩:=H3.out;have hg:=HW.o1;have hgw:=HW.l2;have fw2:Fr [] w w2:=H1.out.2.trans H2.o1;have fw3:Fr [] w w3:=fw2.step f3 (λy hy=>.inr (by simp at hy;omega));obtain⟨rs1,hrs1⟩:=zex (sha.leftOf hd.length hd);have hr1:rs1.length<64:=by rw[hrs1];exact sha.qlb _ _ (qag _)
 rw[<-hrs1]at A3;have hw:=sha.qof g _ ra3 rc3 rs1 hd.length cap ao bs w3 A3 (H.o0.fr fw3) (λhb x hx=>by have:=qts H.o0 hb x hx;omega) (by have:=H.o1;omega) (by have:=H.o1;omega);rw[<-H.o1]at hw;have H4:=zhd4 hw fw3 hrs1 n3;clear hw fw3 hrs1 n3 f3 A3 H3 hg hgw;go_upto_region 4 with (go_at_call 55;refine H4.o0.mono ?_;rintro e w4 ⟨rfl,f4,ra4,rc4,A4,n4⟩;have H5:=zhd3 f4 A4 n4;clear f4 A4 n4);obtain⟨f4,A4,n4⟩:=H5.out;have hg:=HW.o1;have hgw:=HW.l2;have fw4:Fr [] w w4:=H4.o1.step f4 (λy hy=>.inr (by
  simp only[qaw]at hy
  rcases hy with rfl|hy
  ·omega
  ·have:=(fw2).size
   have:=H4.l3 y hy
   omega))
 have hs:=sha.zb4 _ _ _ _ _ _ w4 A4 (sha.qlb _ _ (qag _)) (sha.qi9 _ _ _ (sha.qi9 _ _ _ sha.zdp)) (by omega);rw[H4.o2,sha.qza hd bs rfl (by rw[H.o1])]at hs;have H6:=zhd2 hs fw4;clear hs fw4 f4 A4 n4 H5 hg hgw;go_wp2_with (first
  | (go_at_call 57;refine H6.o0.mono ?_;rintro e w5 ⟨⟨a5,c5,rfl,r5⟩,f5⟩;have H7:=zhd2 r5 f5;clear r5 f5)
  | (go_at_call 56;refine (pk.zcw a5 c5 _ w5 H7.o0 (by rw[sha.qko];decide)).mono ?_;rintro e w6 ⟨rfl,f6⟩))
 go_ret;exact⟨rfl,(H6.l1.trans H7.l1).trans f6⟩
end Go.Proofs.YtbabjlohkniciaaGreatDoor.obj
namespace Go.Proofs.YtbabjlohkniciaaGreatDoor.lo
open Go Go.RowKit lib bm crc pk
set_option maxRecDepth 100000
def HeadP (w:World) (s:List UInt8) (e:Ending) (w':World):Prop:=Fr [] w w'∧match lkind s with
 | some (k,n)=>e = .returned (.tuple #[.int .i64 k,.int .i64 n,.bool true])
 | none=>∃x y:Int,e = .returned (.tuple #[.int .i64 x,.int .i64 y,.bool false])
theorem HeadP.good {w w':World} {s:List UInt8} {k n:Nat} (h:lkind s=some (k,n)) (f:Fr [] w w'):HeadP w s (.returned (.tuple #[.int .i64 k,.int .i64 n,.bool true])) w':=⟨f,by rw[h]⟩
theorem HeadP.bad {w w':World} {s:List UInt8} {x y:Int} {e:Ending} (h:phead s=none) (f:Fr [] w w') (he:e = .returned (.tuple #[.int .i64 x,.int .i64 y,.bool false])):HeadP w s e w':=⟨f,by rw[<-qr4,h];exact⟨x,y,he⟩⟩
theorem qzr (w:World) (t:List UInt8) (p:Nat) (hp:p<t.length) (h:(t[p]'hp).toNat<128) (ty:TypeId) :
  (Instr.next (.pointer (some ⟨w.heap.size,0,none⟩)) true ty).run Tryz.prog (w.iter (str t) p) = .ok (.tuple #[.bool true,.int .i64 p,.int .i32 (((t[p]'hp).toNat:Nat):Int)]) (w.iter (str t) (p+1)):=by
 have hs:p<(str t).size:=by rw[str_size];exact hp
 have e:(str t)[p]'hs=t[p]'hp:=by show t.toArray[p]'(by simpa using hp)=t[p];rfl
 have:=run_next_ascii (P:=Tryz.prog) w (str t) p ty hs (by rw[e];exact h);rw[e]at this;exact this
theorem qwc (w:World) (t:List UInt8) (p:Nat) (hp:p<t.length) (h:128≤(t[p]'hp).toNat):∃(r q:Nat),128≤r∧r≤2147483647∧∀ty,(Instr.next (.pointer (some ⟨w.heap.size,0,none⟩)) true ty).run Tryz.prog (w.iter (str t) p) = .ok (.tuple #[.bool true,.int .i64 (p:Nat),.int .i32 (r:Nat)]) (w.iter (str t) q):=by
 have hs:p<(str t).size:=by rw[str_size];exact hp
 have e:(str t)[p]'hs=t[p]'hp:=by show t.toArray[p]'(by simpa using hp)=t[p];rfl
 exact⟨_,_,(decode_high (str t) p hs (by rw[e];exact h)).1,decode_le (str t) p,λty=>run_next_any (P:=Tryz.prog) w (str t) p ty hs⟩
theorem qzs (w:World) (t:List UInt8) (p:Nat) (hp:¬p<t.length) (ty:TypeId) :
  (Instr.next (.pointer (some ⟨w.heap.size,0,none⟩)) true ty).run Tryz.prog (w.iter (str t) p) = .ok (.tuple #[.bool false]) (w.iter (str t) p):=
 run_next_end (P:=Tryz.prog) w (str t) p ty (by rw[str_size];exact hp)
theorem zco (w:World) (z:ByteArray) (p:Nat):Fr [] w (w.iter z p):=(Fr.refl [] w).alloc _
theorem zca (k:Nat):str (obj.kname k)++(⟨#[32]⟩:ByteArray)=str (pre k):=by unfold pre;rw[<-qcz];rfl
theorem zcb (k:Nat):(pre k).length≤7:=by have:=obj.qib k;unfold pre;simp only[qab,qam,qbb];omega
theorem qvj (c:UInt8) (t:List UInt8) (i:Nat):scan (c::t) i=if c.toNat=0 then some (some i) else if c.toNat<48∨57<c.toNat then none else scan t (i+1):=by
 by_cases h:c=0
 ·subst h;rfl
 ·have h':c.toNat≠0:=λe=>h (qjn.1 e)
  rw[scan,if_neg h,if_neg h']
theorem zae (a:Option Addr) (cap:Nat) (s:List UInt8) (w:World) (h:lib.Rd w a cap s) (hl:s.length≤100000000) (hpw:obj.Pw w) :
  Calls Tryz.prog 32 #[.slice a s.length cap] w (HeadP w s):=by
 obtain⟨N,hN⟩:=zex s.length;have hcap:=h.le;have hmax:=h.max;unfold maxLen at hmax;rw[<-hN]at hl hcap ⊢;have H:=zhd3 h hN hpw;clear h hN hpw;go_enter Tryz.func32,Tryz.ntmps32;go_upto_block 0 with fail;go_wp2;go_loopg [3,5] 4 (λk s3 s5 wr=>∃j:Nat,s3 = .int .i64 0∧s5 = .int .i64 (j:Nat)∧j+k=5∧1≤j∧(∀i,1≤i→i<j→(pre i).isPrefixOf s=false)∧Fr [] w wr);case atStart=>exact⟨1,rfl,rfl,rfl,qag _,λi h1 h2=>by omega,Fr.refl _ _⟩
 case round=>
  obtain⟨j,rfl,rfl,hjk,hj1,hno,hf⟩:=hrel;have HJ:=zhd2 hno hf;clear hno hf;by_cases hj:j≤4
  ·obtain⟨k,rfl⟩:∃k,gk=k+1:=⟨gk-1,by omega⟩;have hnm:=λw'=>obj.qnq (j:Nat) w'
   have hpl:=zcb j;obtain⟨A,hA⟩:∃A,A=str (obj.kname (j:Nat)):=⟨_,rfl⟩;have hAs:A.size≤6:=by have:=obj.qib (j:Nat);rw[hA,str_size];exact this
   rw[<-hA]at hnm;obtain⟨B,hB⟩:=zex (str (pre j));have hAB:A++(⟨#[32]⟩:ByteArray)=B:=by rw[hA,hB];exact zca j
   obtain⟨l,hpl'⟩:∃l,l=(pre j).length:=⟨_,rfl⟩;have hBs:B.size=l:=by rw[hB,str_size,hpl']
   have hpx:=λw'=>Tryz.strings_HasPrefix (str s) B w'
   have eB:B.data.toList=pre j:=by rw[hB];rfl
   have es:(str s).data.toList=s:=rfl;rw[eB,es]at hpx;unfold Lib.hasPrefix at hpx;rw[<-hpl']at hpl;obtain⟨b,hb⟩:=zex ((pre j).isPrefixOf s);rw[<-hb]at hpx;have HA:=zhd5 hnm hpx hb hpl' hB;clear hnm hpx hb hA hB eB es hpl';go_upto_region 5 with (go_at_call 37;refine (HA.out.1 _).mono ?_;rintro e w1 ⟨rfl,f1⟩;have H1:=zhd f1;clear f1);clear hAB hAs;have cv0:∀cap,(convert 22 9 (.slice a N cap)).run Tryz.prog w1 = .ok (.string (str s)) w1:=
    qer w1 Tryz.underlying22 Tryz.underlying5 Tryz.underlying9 H.o1.symm (H.o0.fr (HJ.l1.trans H1.out)).cs
   cases b with
   | false=>
    go_wp2_with (go_at_call 59;refine (HA.out.2.1 _).mono ?_;rintro e w2 ⟨rfl,hw⟩;obtain rfl:=hw.symm);go_roundg k;case measure=>omega
    case rel=>
     refine⟨j+1,rfl,by go_num,by omega,by omega,λi h1 h2=>?_,HJ.l1.trans H1.out⟩;by_cases hij:i=j
     ·rw[hij];exact HA.out.2.2.1.symm
     ·exact HJ.o0 i h1 (by omega)
   | true=>
    obtain⟨r,hr⟩:∃r,s=pre j++r:=by obtain⟨r,hr⟩:=List.isPrefixOf_iff_prefix.1 HA.out.2.2.1.symm;exact⟨r,hr.symm⟩
    have hrl:N=l+r.length:=by rw[H.o1,HA.out.2.2.2.1,hr,qab]
    have hdr:s.drop l=r:=by rw[HA.out.2.2.2.1,hr,List.drop_left' rfl]
    have hph:=hr;have hphd:phead s=match scan r 0 with
      | some (some i)=>if obj.header j (N-(l+i+1))=s.take (l+i+1) then some (j,l+i+1) else none
      | _=>none:=by
     unfold phead
     rw[qr3 ⟨hj1,hj⟩ hr]
     dsimp only
     rw[<-HA.out.2.2.2.1,hdr,<-H.o1]
     rcases scan r 0 with _|_|i<;>rfl
    clear hph hr;have hsl:=λw'=>lib.qdb sliceU8 l a N cap (l:Nat) rfl (by omega) hcap w'
    have rd1:=(H.o0.fr (HJ.l1.trans H1.out)).drop l (by rw[<-H.o1];omega);rw[hdr]at rd1;have cv1:∀cap',(convert 22 9 (.slice (cutAtN a cap l 1) (N-l) cap')).run Tryz.prog w1 = .ok (.string (str r)) w1:=
     qer w1 Tryz.underlying22 Tryz.underlying5 Tryz.underlying9 (by omega) rd1.cs
    have HR:=zhd3 hrl hphd hdr;clear rd1 hphd hdr hrl;go_upto_region 6 with (go_at_call 59;refine (HA.out.2.1 _).mono ?_;rintro e w2 ⟨rfl,hw⟩;obtain rfl:=hw.symm);obtain⟨z,hz⟩:=zex (str r);rw[<-hz]at cv1;have hrg:(Instr.range 9 (.string z)).run Tryz.prog w1 = .ok (.pointer (some ⟨w1.heap.size,0,none⟩)) (w1.iter z 0):=run_range_string (P:=Tryz.prog) w1 9 z Tryz.underlying9;have HZ:=zhd hz;clear hz;go_wp2;clear hsl cv1 hrg cv0;have hfz:∀p,Fr [] w (w1.iter z p):=λp=>(HJ.l1.trans H1.out).trans (zco w1 z p)
    have HF:=zhd hfz;clear hfz;go_loopg [3] r.length (λk s3 wr=>∃p:Nat,s3 = .int .i64 0∧p+k=r.length∧scan r 0=scan (r.drop p) p∧wr=w1.iter z p);case atStart=>exact⟨0,rfl,by omega,rfl,rfl⟩
    case round=>
     obtain⟨p,rfl,hpk,hsc,rfl⟩:=hrel;by_cases hp:p<r.length
     ·have hsc':scan r 0=if (r[p]).toNat=0 then some (some p) else if (r[p]).toNat<48∨57<(r[p]).toNat then none else scan (r.drop (p+1)) (p+1):=by rw[hsc,qbm hp,qvj]
      by_cases hc:(r[p]).toNat<128
      ·have hnx:=λty=>qzr w1 r p hp hc ty
       rw[<-HZ.out]at hnx;obtain⟨x,hx⟩:=zex ((r[p]).toNat);rw[<-hx]at hnx hsc' hc;clear hx hsc;by_cases h0:x=0
       ·have hsc:=zhd hsc';clear hsc';subst h0;obtain⟨n,hn⟩:=zex (l+p+1);obtain⟨w2,hw2⟩:=zex (w1.iter z (p+1));have f2:Fr [] w w2:=by rw[hw2];exact HF.out _
        have hnN:n≤N:=by have:=HR.o0;omega
        go_upto_region 13 with fail;rw[show ((l:Int)+(p:Int)+1)=((n:Nat):Int) by omega,<-hw2];have hsl2:=λw'=>lib.qff sliceU8 n a N cap (n:Nat) rfl (by omega) w'
        have rd2:=(H.o0.fr (f2.trans (Fr.drew1 [] w2))).take n;have cv2:=qgm (P:=Tryz.prog) [] w2.drew Tryz.underlying22 Tryz.underlying5 Tryz.underlying9 (n:=n) (by rw[qar,<-H.o1];omega) rd2.cs (by simp);obtain⟨y,hy⟩:=zex (str (s.take n));rw[<-hy]at cv2;have hh:=λw' hpw=>obj.qmq (j:Nat) (N-n) w' (by omega) hpw
        obtain⟨M,hM⟩:=zex (N-n);rw[<-hM]at hh;obtain⟨hd,hhd⟩:∃hd,hd=obj.header (j:Nat) M:=⟨_,rfl⟩;rw[<-hhd]at hh;have g0:decide (0<n)=true:=by simp;omega
        have HQ:=zhd6 hh hy hhd f2 hM hn;clear hh hy hhd f2 hM hn rd2 hw2;refine qcj 21 [(false,0),(false,1),(false,2),(false,3),(false,4),(false,5),(false,6),(false,7),(false,8),(false,9),(false,12),(false,13),(false,14),(false,15),(true,10),(false,11),(false,16),(false,17),(false,18),(false,19),(false,20)] [] (by kernel_rfl) (by kernel_rfl) (λ_ _ d _ _ h=>by cases d<;>exact h) ?_;simp only[qak,qap,qbh,qbi,qah,qaj,qce];refine qb9 14 rfl ?_;simp only[qai,qao,qah,qaj,qak,qap];repeat (go_big_quiet_step (fail))
        refine wpQuiet_nil ?_;rw[show ((N:Int)-(n:Int))=((M:Nat):Int) by have:=HQ.out.2.2.2.2.1;omega];refine qc5 rfl ?_;intro XX hXX;go_wp2_with (go_at_call 22;refine (HQ.out.1 _ (H.l2.fr (HQ.out.2.2.2.1.trans (Fr.drew1 [] w2)))).mono ?_;rintro e w3 ⟨a3,c3,rfl,r3,n3,f3⟩);refine hXX.out _ _ f3 ?_;clear hXX XX;obtain⟨L3,hL3⟩:=zex hd.length;have cv3:=qgm (P:=Tryz.prog) [] w3 Tryz.underlying22 Tryz.underlying5 Tryz.underlying9 (n:=L3) hL3.symm r3.cs (by simp);obtain⟨x,hx⟩:=zex (str hd);rw[<-hx]at cv3;rw[<-hL3];have H3:=zhd2 f3 hx;clear f3 n3 r3 hx hL3;refine qb9 6 rfl ?_;simp only[qai,qao,qah,qaj,qak,qap];repeat (go_big_quiet_step (fail))
        refine wpQuiet_nil ?_;refine qc4 ?_;go_wp2;go_ret3;show HeadP w s (.returned (.tuple #[.int .i64 j,.int .i64 n,.bool (x.toList==y.toList)])) w3;obtain⟨_,hy,hhd,f2,hM,hn⟩:=HQ.out;have ff:Fr [] w w3:=(f2.trans (Fr.drew1 [] w2)).trans H3.o0;have hp2:phead s=if hd=s.take n then some (j,n) else none:=by rw[HR.o1,hsc.out,if_pos trivial,hhd,hM,hn]
        rw[H3.l1,hy,str_toList,str_toList];by_cases he:hd=s.take n
        ·rw[if_pos he,qr4]at hp2;rw[he,beq_self_eq_true];exact HeadP.good hp2 ff
        ·rw[if_neg he]at hp2;rw[show (hd==s.take n)=false by simpa using he];exact HeadP.bad hp2 ff rfl
       ·have g0:(((x:Nat):Int)==0)=false:=by simp;omega
        by_cases hb:x<48∨57<x
        ·have HS:=zhd (show scan r 0=none by rw[hsc',if_neg h0,if_pos hb]);clear hsc';have hbad:phead s=none:=by rw[HR.o1,HS.out]
         by_cases h1:x<48
         ·go_wp2;go_ret3;exact HeadP.bad hbad (HF.out _) rfl
         ·go_wp2;go_ret3;exact HeadP.bad hbad (HF.out _) rfl
        ·rw[if_neg h0,if_neg hb]at hsc';have HS:=zhd hsc';clear hsc';go_wp2;go_roundg (r.length-(p+1));case measure=>omega
         case rel=>exact⟨p+1,rfl,by omega,HS.out,rfl⟩
      ·obtain⟨rr,q,h1,h2,hnx⟩:=qwc w1 r p hp (by omega);rw[<-HZ.out]at hnx;have HS:=zhd (show scan r 0=none by rw[hsc',if_neg (by omega),if_pos (by omega)]);clear hsc';have hbad:phead s=none:=by rw[HR.o1,HS.out]
       go_wp2;go_ret3;exact HeadP.bad hbad (HF.out _) rfl
     ·have hnx:=λty=>qzs w1 r p hp ty
      rw[<-HZ.out]at hnx;have HS:=zhd (show scan r 0=some none by rw[hsc,qed (by omega)];rfl);clear hsc;have hbad:phead s=none:=by rw[HR.o1,HS.out]
      go_upto_region 13 with fail;refine qcj 21 [(false,0),(false,1),(false,2),(false,3),(false,4),(false,5),(false,6),(false,7),(false,8),(false,9),(false,12),(false,13),(false,14),(false,15),(true,10),(false,11),(false,16),(false,17),(false,18),(false,19),(false,20)] [] (by kernel_rfl) (by kernel_rfl) (λ_ _ d _ _ h=>by cases d<;>exact h) ?_;simp only[qak,qap,qbh,qbi,qah,qaj,qce];refine qb9 14 rfl ?_;simp only[qai,qao,qah,qaj,qak,qap];repeat (go_big_quiet_step (fail))
      refine wpQuiet_nil ?_;refine qwf rfl ?_;simp only[Act.put,qyq,List.set_cons_succ,List.set_cons_zero];refine qb9 6 rfl ?_;simp only[qai,qao,qah,qaj,qak,qap];repeat (go_big_quiet_step (fail))
      refine wpQuiet_nil ?_;refine qc4 ?_;go_wp2;go_ret3;exact HeadP.bad hbad ((HF.out _).trans (Fr.drew1 [] _)) rfl
  ·obtain rfl:j=5:=by omega
   go_wp2;go_ret3;refine HeadP.bad ?_ HJ.l1 rfl;unfold phead;have e:([1,2,3,4].find? λk=>(pre k).isPrefixOf s)=none:=by rw[qjq];intro k hk hb;simp only[qaw,qby,or_false]at hk;have:=HJ.o0 k (by omega) (by omega);rw[this]at hb;cases hb
   rw[e]
set_option maxRecDepth 100000
theorem qq2 {bs out:List UInt8} {m k:Nat} (h:inf.izlib bs m = .ok (out,k)):out.length≤m:=by
 unfold inf.izlib at h;split at h
 ·cases h
 ·split at h
  ·cases h
  ·split at h
   ·cases h
   ·next o n hr=>
    split at h
    ·cases h
    ·split at h
     ·simp only[qa3,qa1]at h;rw[<-h.1];exact inf.zbd hr
     ·cases h
def ParseP (w:World) (m:Nat×List UInt8×Nat) (e:Ending) (w':World):Prop:=
 ∃ao,e = .returned (.tuple #[.int .i64 (m.1:Nat),.slice ao m.2.1.length m.2.1.length,.int .i64 (m.2.2:Nat)])∧lib.Rd w' ao m.2.1.length m.2.1∧(∀x∈blk ao,w.heap.size≤x∧x<w'.heap.size)∧Fr [] w w'
theorem ParseP.bad {w w':World} {m:Nat×List UInt8×Nat} {c:Nat} {e:Ending} (h:m=(0,[],c)) (f:Fr [] w w') (he:e = .returned (.tuple #[.int .i64 0,.slice none 0 0,.int .i64 c])):ParseP w m e w':=by subst h;exact⟨none,he,Rd.none w',(λx hx=>absurd hx (by simp[blk])),f⟩
theorem qky (a:Option Addr) (cap:Nat) (bs:List UInt8) (w:World) (h:lib.Rd w a cap bs) (hlen:bs.length≤100000000) (hpw:obj.Pw w) :
  Calls Tryz.prog 13 #[.slice a bs.length cap] w (ParseP w (lparse bs)):=by
 have hz:=inf.qyt a cap bs 65568 w h hlen (by decide);obtain⟨P,hP⟩:=zex (lparse bs);obtain⟨Z,hZ⟩:=zex (inf.izlib bs 65568);obtain⟨L,hL⟩:=zex bs.length;have hP2:=hP;unfold lparse at hP2;rw[<-hZ,<-hL]at hP2;rw[<-hP];rw[<-hZ,<-hL]at hz;rw[<-hL]at hlen ⊢;have H:=zhd4 hz hZ hP2 hpw;clear hz hP hP2 hZ hL h hpw;go_enter Tryz.func13,Tryz.ntmps13;go_upto_region 2 with (go_at_call 31;refine H.o0.mono ?_;rintro e w1 (⟨x,hx,k0,k1,rfl,f1⟩|⟨out,used,ao,hok,rfl,rdo,nbo,f1⟩))
 ·have HX:=zhd2 f1 hx;have d0:((x:Int)!=0)=true:=by simp;omega
  clear f1 hx;go_wp2;go_ret3;exact ParseP.bad (by rw[H.o2,HX.l1]) HX.o0 rfl
 ·have holen:out.length≤65568:=qq2 (by rw[<-H.o1];exact hok);have hP2:=H.o2;rw[hok]at hP2;simp only at hP2;have hh:=zae ao out.length out w1 rdo (by omega) (H.l3.fr f1);obtain⟨N,hN⟩:=zex out.length;rw[<-hN]at hh holen hP2 rdo ⊢;have HX:=zhd6 hh hP2 rdo nbo f1 hN;clear hh hP2 rdo nbo f1 hN hok;cases hk:lkind out with
  | none=>
   have hP3:P=(0,[],3):=by have:=HX.l1.1;rw[hk]at this;rw[this];split<;>rfl
   have HP:=zhd2 hP3 hk;clear hP3 hk;go_upto_region 5 with (go_at_call 32;refine HX.o0.mono ?_;rintro e w2 hq;unfold HeadP at hq;rw[HP.l1]at hq;obtain⟨f2,x,y,rfl⟩:=hq;have H2:=zhd f2;clear f2);by_cases hu:used=L
   ·have d0:((used:Int)!=(L:Int))=false:=by simp;omega
    go_wp2;go_ret3;exact ParseP.bad HP.o0 (HX.out.2.2.2.2.1.trans H2.out) rfl
   ·have d0:((used:Int)!=(L:Int))=true:=by simp;omega
    go_wp2;go_ret3;exact ParseP.bad HP.o0 (HX.out.2.2.2.2.1.trans H2.out) rfl
  | some kn=>
   obtain⟨k,n⟩:=kn;have hkn:=qmk hk;rw[<-HX.out.2.2.2.2.2]at hkn;have hnN:n≤N:=hkn.2.2.1;have HP:=zhd2 hk hkn;clear hk hkn;go_upto_region 5 with (go_at_call 32;refine HX.o0.mono ?_;rintro e w2 hq;unfold HeadP at hq;rw[HP.o0]at hq;obtain⟨f2,rfl⟩:=hq;have H2:=zhd f2;clear f2);by_cases hu:used=L
   ·have d0:((used:Int)!=(L:Int))=false:=by simp;omega
    by_cases hb:65536<N-n
    ·have d1:decide ((65536:Int)<(N:Int)-(n:Int))=true:=by simp;omega
     have hP3:P=(0,[],5):=by have:=HX.l1.1;rw[HP.o0,if_pos hu]at this;simp only at this;rw[if_pos hb]at this;exact this
     have HQ:=zhd hP3;clear hP3;go_wp2;go_ret3;exact ParseP.bad HQ.out (HX.out.2.2.2.2.1.trans H2.out) rfl
    ·have d1:decide ((65536:Int)<(N:Int)-(n:Int))=false:=by simp;omega
     have hP3:P=(k,out.drop n,0):=by have:=HX.l1.1;rw[HP.o0,if_pos hu]at this;simp only at this;rw[if_neg hb]at this;exact this
     have hsl:=λw'=>lib.qdb sliceU8 n ao N N (n:Nat) rfl hnN (qag _) w'
     have f12:Fr [] w w2:=HX.out.2.2.2.2.1.trans H2.out;have rd2:=(HX.out.2.2.1.fr H2.out).drop n (by rw[<-HX.out.2.2.2.2.2];exact hnN);have hcl:=qx6 _ _ _ w2 rd2 (by rw[qau,<-HX.out.2.2.2.2.2];omega);obtain⟨D,hD⟩:=zex (out.drop n);have hDl:D.length=N-n:=by rw[hD,qau,<-HX.out.2.2.2.2.2]
     rw[<-hD]at hcl hP3;rw[hDl]at hcl;have HQ:=zhd4 hP3 f12 hcl hDl;clear hP3 f12 rd2 hcl hD hDl;go_wp2_with (first
      | (go_at_call 34;refine HQ.out.2.2.1.mono ?_;rintro e w3 ⟨a3,c3,rfl,r3,l3,m3,n3,f3⟩;rw[HQ.out.2.2.2];rw[HQ.out.2.2.2]at l3;have H3:=zhd5 r3 l3 m3 n3 f3;clear r3 l3 m3 n3 f3)
      | (go_at_call 33;refine (zbr a3 (N-n) c3 w3 H3.o1 H3.o2).mono ?_;rintro e w4 ⟨rfl,hw⟩;obtain rfl:=hw.symm))
     go_ret3;refine⟨a3,?_,?_,?_,HQ.out.2.1.trans H3.l4⟩
     ·rw[HQ.out.1];dsimp only;rw[HQ.out.2.2.2];rfl
     ·rw[HQ.out.1];have r3:=H3.o0;exact⟨r3.cs,qag _,qan r3.le r3.max,λe=>by have h1:=r3.nil e;have h2:=r3.le;show D.length=0;omega⟩
     ·intro x hx;have h1:=H3.o3 x hx;have h2:=HQ.out.2.1.size;omega
   ·have d0:((used:Int)!=(L:Int))=true:=by simp;omega
    have hP3:P=(0,[],3):=by have:=HX.l1.1;rw[if_neg hu]at this;exact this
    have HQ:=zhd hP3;clear hP3;go_wp2;go_ret3;exact ParseP.bad HQ.out (HX.out.2.2.2.2.1.trans H2.out) rfl
set_option maxRecDepth 100000
def FileP (w:World) (k:Int) (body:List UInt8) (e:Ending) (w':World):Prop:=
 ∃r,trip.RQ (obj.header k body.length++body) r∧defl.OwnNew w (defl.zlibOf 2 r (obj.header k body.length++body)) e w'
theorem qsy (k:Int) (a:Option Addr) (cap:Nat) (body:List UInt8) (w:World) (h:lib.Rd w a cap body) (hl:body.length≤90000) (hpw:obj.Pw w) :
  Calls Tryz.prog 8 #[.int .i64 k,.slice a body.length cap] w (FileP w k body):=by
 obtain⟨N,hN⟩:=zex body.length;have hh:=obj.qmp k N w (by omega) hpw;have hhl:=obj.qe5 k N (by omega);obtain⟨hd,hhd⟩:=zex (obj.header k N);have hF:FileP w k body=λe w'=>∃r,trip.RQ (hd++body) r∧defl.OwnNew w (defl.zlibOf 2 r (hd++body)) e w':=by unfold FileP;rw[hhd,hN]
 rw[hF];rw[<-hhd]at hh hhl;rw[<-hN]at hl ⊢;obtain⟨M,hM⟩:=zex hd.length;rw[<-hM]at hhl;have H:=zhd4 h hh hN hM;have hle:=h.le;rw[<-hN]at hle;clear h hh hpw hhd hF hN hM;go_enter Tryz.func8,Tryz.ntmps8;go_wp2_with (first
  | (go_at_call 22;refine H.o1.mono ?_;rintro e w1 ⟨a1,c1,rfl,o1,n1,f1⟩;rw[<-H.l3];have H1:=zhd3 o1 n1 f1;clear o1 n1 f1)
  | (refine qgk sliceU8 rfl _ _ rfl a1 M c1 (hd.map bv) rfl H1.o0 (by rw[qa8,H.l3]) a N cap (body.map bv) rfl hle (H.o0.fr H1.l2).nil (H.o0.fr H1.l2).cs (by rw[qa8,H.o2]) (bits.qev _) (by omega) (by unfold maxLen;omega) ?_;intro a2 c2 w2 A2;have o2:=A2.own;rw[<-qbt]at o2;have hz:=trip.qyr a2 c2 (hd++body) 2 w2 o2.rd (by rw[qab,<-H.o2,<-H.l3];omega) o2.lt;have hML:(hd++body).length=M+N:=(by rw[qab,<-H.o2,<-H.l3]);rw[hML]at hz;have H2:=zhd2 hz A2.fr;clear A2 o2 hz hML)
  | (go_at_call 21;refine H2.o0.mono ?_;rintro e w3 ⟨r,hr,a3,rfl,o3,n3,f3⟩;have H3:=zhd4 hr o3 n3 f3;clear hr o3 n3 f3))
 go_ret;have f12:Fr [] w w2:=H1.l2.step H2.l1 (λy hy=>.inr (H1.o1 y hy));refine⟨r,H3.o0,a3,rfl,H3.o1,λx hx=>?_,f12.trans H3.l3⟩;have h1:=H3.o2 x hx;have h2:=f12.size;omega
end Go.Proofs.YtbabjlohkniciaaGreatDoor.lo
namespace Go.Proofs.YtbabjlohkniciaaGreatDoor.pk
open Go Go.RowKit lib
def pV (q:Option Nat):Value:=.pointer (q.map λb=>⟨b,0,none⟩)
def pD:Option Nat→DataW Unit
 | none=>.nil
 | some b=>.lit (.int .i64 b)
def pR:Value→Option (DataW Unit×List MemPlace)
 | .pointer none=>some (.nil,[])
 | .pointer (some a)=>if a=⟨a.block,0,none⟩ then some (.lit (.int .i64 (a.block:Nat)),[]) else none
 | _=>none
theorem zcd (q:Option Nat):pR (pV q)=some (pD q,[]):=by
 cases q with
 | none=>rfl
 | some b=>simp[pR,pV,pD]
theorem za9 {v:Value} {z:DataW Unit×List MemPlace} (h:pR v=some z):∃q,v=pV q∧z=(pD q,[]):=by
 unfold pR at h;split at h
 ·exact⟨none,rfl,(qa2 h).symm⟩
 ·rename_i a;split at h
  ·rename_i he;refine⟨some a.block,?_,(qa2 h).symm⟩;unfold pV;rw[he];rfl
  ·cases h
 ·cases h
theorem qv4 {a b:Option Nat} (h:pD a=pD b):a=b:=by
 cases a with
 | none=>cases b with
  | none=>rfl
  | some b=>cases h
 | some a=>cases b with
  | none=>cases h
  | some b=>
   simp only[pD,DataW.lit.injEq,Lit.int.injEq,true_and]at h
   rw[Int.ofNat.inj h]
def MapAt (w:World) (b:Nat):Prop:=∃es c,w.heap[b]?=some (.map es c)
theorem MapAt.ne {w:World} {b x:Nat} {c:Array Value} {t:TypeId} {f:Nat×Nat} (h:MapAt w b) (hx:w.heap[x]?=some (.cells c t f)):x≠b:=by rintro rfl;obtain⟨es,c,h⟩:=h;rw[h]at hx;cases hx
theorem qft:Maps.Keyed Tryz.prog 9:=Maps.string_keyed Tryz.underlying9
theorem qty {w w':World} {S:List Nat} {P:Program} {k:TypeId} {R:Value→Option (DataW Unit×List MemPlace)} {b n:Nat} {D:DataW Unit} (h:w.ownsMap P k R b n D) (f:Fr S w w') (hb:b∉S):w'.ownsMap P k R b n D:=by obtain⟨es,clock,h1,h2⟩:=h;exact⟨es,clock,f.blk h1 hb,h2⟩
theorem qq1 (id:List UInt8) (h:id.length≤1000000):keyOf Tryz.prog 9 (.string (str id))=some (.string id):=by have:=WideMaps.keyOf_string_mk (P:=Tryz.prog) Tryz.underlying9 (s:=str id) (by rw[show (str id).size=id.length by simp[str,ByteArray.size]];unfold maxLen;omega);exact this
end Go.Proofs.YtbabjlohkniciaaGreatDoor.pk
namespace Go.Proofs.YtbabjlohkniciaaGreatDoor.fs
open Go Go.RowKit lib pk
set_option maxRecDepth 100000
abbrev Nm:=List UInt8
theorem qhz:Tryz.prog.underlying 43=some (.map 9 57):=by kernel_rfl
theorem qu1 (w:World):(zeroValue 57).run Tryz.prog w = .ok (.pointer none) w:=by kernel_rfl
def MView (D:DataW Unit) (g:Nm→Option Nat):Prop:=∀k:Nm,(g k=none→Maps.has D (.string k)=false)∧∀p,g k=some p→Maps.has D (.string k)=true∧D.atKey (.string k) .nil=pD (some p)
def Names (w:World) (B n:Nat) (g:Nm→Option Nat):Prop:=∃D,w.ownsMap Tryz.prog 9 pR B n D∧MView D g
theorem Names.fr {S:List Nat} {w w':World} {B n:Nat} {g:Nm→Option Nat} (h:Names w B n g) (f:Fr S w w') (hB:B∉S):Names w' B n g:=by obtain⟨D,h1,h2⟩:=h;exact⟨D,qty h1 f hB,h2⟩
theorem Names.at_ {w:World} {B n:Nat} {g:Nm→Option Nat} (h:Names w B n g):MapAt w B:=by obtain⟨D,⟨es,clock,h1,_⟩,_⟩:=h;exact⟨es,clock,h1⟩
theorem Names.made (w:World):Names (w.alloc (.map #[] 0)) w.heap.size 0 (λ_=>none):=
 ⟨.map [],World.ownsMap_made w _ _ _,λk=>⟨λ_=>rfl,λp h=>by cases h⟩⟩
theorem Names.look {w:World} {B n:Nat} {g:Nm→Option Nat} (h:Names w B n g) (k:Nm) (hk:k.length≤1000000):(Instr.lookup 43 (.map (some B)) (.string (str k)) false).run Tryz.prog w = .ok (pV (g k)) w:=by
 obtain⟨D,h1,h2⟩:=h;obtain⟨v,ps,hrun,hv⟩:=h1.lookup qft qhz (qu1 w) (zcd none) (qq1 k hk);obtain⟨q,rfl,hq⟩:=za9 hv;obtain⟨v1,v2⟩:=h2 k;cases hg:g k with
 | none=>
  rw[Maps.atKey_of_not_has (v1 hg)]at hq;simp only[qa1]at hq;rw[hrun,qv4 hq.1]
 | some p=>have hq1:=congrArg Prod.fst hq;simp only at hq1;rw[show pD none=(.nil:DataW Unit) from rfl,(v2 p hg).2]at hq1;rw[hrun,qv4 hq1]
def set (g:Nm→Option Nat) (k:Nm) (v:Option Nat):Nm→Option Nat:=λx=>if x=k then v else g x
theorem qoh {w w':World} {B:Nat} (h:w.mapTurned w' B):Fr [B] w w':=by obtain⟨h1,h2,h3,h4,h5⟩:=h.grown;exact⟨h1,h2,h3,h4,λk hk hB=>h5 k hk (λe=>hB (by rw[<-qa2 e];simp))⟩
theorem Names.store {w:World} {B n:Nat} {g:Nm→Option Nat} (h:Names w B n g) (hn:n<1000) (k:Nm) (hk:k.length≤1000000) (p:Nat) :
  ∃w',(Instr.mapUpdate 43 (.map (some B)) (.string (str k)) (pV (some p))).run Tryz.prog w = .ok () w'∧Names w' B (n+1) (set g k (some p))∧Fr [B] w w':=by
 obtain⟨D,h1,h2⟩:=h;obtain⟨w',hrun,h3,h4⟩:=h1.store qft qhz (by unfold maxLen;omega) (qq1 k hk) (zcd (some p));refine⟨w',hrun,⟨_,h3,λx=>?_⟩,qoh h4⟩;have hm:=h1.isMap;by_cases hx:x=k
 ·subst hx;unfold set;rw[if_pos rfl];refine⟨λe=>(by cases e),λq e=>?_⟩;obtain rfl:=qa2 e;exact⟨Maps.has_put_same hm (by simp[WideAt.IsKeyLit]) _,Maps.atKey_put_same hm (by simp[WideAt.IsKeyLit]) _ _⟩
 ·have hne:Lit.string x≠Lit.string k:=by simp[hx]
  unfold set;rw[if_neg hx,Maps.has_put_other hne,Maps.atKey_put_other hne];exact h2 x
theorem Names.drop {w:World} {B n:Nat} {g:Nm→Option Nat} (h:Names w B n g) (k:Nm) (hk:k.length≤1000000) (ty:TypeId) :
  ∃w',(Builtin.delete_ #[43,9] ty #[.map (some B),.string (str k)]).run Tryz.prog w = .ok (.tuple #[]) w'∧Names w' B n (set g k none)∧Fr [B] w w':=by
 obtain⟨D,h1,h2⟩:=h;obtain⟨w',hrun,h3,h4⟩:=h1.drop qft qhz (qq1 k hk) ty;refine⟨w',hrun,⟨_,h3,λx=>?_⟩,qoh h4⟩;by_cases hx:x=k
 ·subst hx;unfold set;rw[if_pos rfl];exact⟨λ_=>Maps.has_del_same,λq e=>by cases e⟩
 ·have hne:Lit.string x≠Lit.string k:=by simp[hx]
  unfold set;rw[if_neg hx,Maps.has_del_other hne,Maps.atKey_del_other hne];exact h2 x
set_option maxRecDepth 100000
def NOk (k:Nm):Prop:=1≤k.length∧k.length≤200∧∀c∈k,c≠0
theorem index_none:∀(k:Nm),(∀c∈k,c≠0)→Lib.indexByte k 0 = -1
 | [],_=>rfl
 | b::l,h=>by
  have hb:(b==0)=false:=by simpa using h b (by simp)
  have:=index_none l (λc hc=>h c (qbw _ hc));unfold Lib.indexByte;rw[hb,this];rfl
def FsC (q B:Nat) (las chg:Value):Array Value:=#[.int .i64 q,.map (some B),las,chg,.int .i64 (-1),.bool false]
def FsB (w:World) (F q B:Nat) (las chg:Value):Prop:=w.heap[F]?=some (.cells (FsC q B las chg) 46 (0,0))
theorem qnp (F q B:Nat) (las chg:Value) (g c:Nat) (l:List Nm) (w:World) (hF:FsB w F q B las chg) (hl:∀i k,l[i]?=some k→w.cell? ⟨g,i,none⟩=some (.string (str k))) (hok:∀k∈l,NOk k) (hlen:l.length≤2) :
  Calls Tryz.prog 23 #[.pointer (some ⟨F,0,none⟩),.slice (some ⟨g,0,none⟩) l.length c] w λe w'=>e = .returned (.int .i64 0)∧w'=w:=by
 have c5:w.cell? ⟨F,5,none⟩=some (.bool false):=by rw[cell_of hF];rfl
 obtain⟨N,hN⟩:=zex l.length;have H:=zhd3 hl hok hN;rw[<-hN]at hlen ⊢;clear hF hl hok hN;go_enter Tryz.func23,Tryz.ntmps23;go_wp2;clear c5;go_loopg [13] N (λk s13 wr=>∃i:Nat,s13 = .int .i64 (i:Nat)∧i+k=N∧wr=w);case atStart=>exact⟨0,rfl,by omega,rfl⟩
 case round=>
  obtain⟨i,rfl,hik,rfl⟩:=hrel;by_cases hi:i<N
  ·obtain⟨k,rfl⟩:∃k,gk=k+1:=⟨gk-1,by omega⟩;have hil:i<l.length:=by rw[<-H.out.2.2];exact hi
   have hci:=H.out.1 i l[i] (qaf hil);obtain⟨n1,n2,n3⟩:=H.out.2.1 l[i] (qb7 hil);have hx:=λw'=>Tryz.strings_IndexByte (str l[i]) 0 w'
   have ex:(str l[i]).data.toList=l[i]:=rfl;rw[ex,show ((0:Int).toNat.toUInt8)=0 from rfl,index_none _ n3]at hx;have hsz:(str l[i]).size=l[i].length:=by simp[str,ByteArray.size]
   obtain⟨z,hz⟩:=zex (str l[i]);rw[<-hz]at hci hx hsz;have g1:1≤z.size:=by omega
   have g2:z.size≤200:=by omega
   have HX:=zhd hx;clear hx ex hz n1 n2 n3 hsz;go_wp2_with (go_at_call 52;refine (HX.out _).mono ?_;rintro e w2 ⟨rfl,hw⟩;obtain rfl:=hw.symm);go_roundg k;case measure=>omega
   case rel=>exact⟨i+1,by go_num,by omega,rfl⟩
  ·go_wp2;go_ret;exact⟨rfl,rfl⟩
theorem qoa (F q B:Nat) (las chg:Value) (w:World) (hF:FsB w F q B las chg) :
  Calls Tryz.prog 28 #[.pointer (some ⟨F,0,none⟩)] w λe w'=>e = .returned (.int .i64 0)∧FsB w' F q B las chg∧Fr [F] w w':=by
 have c4:w.cell? ⟨F,4,none⟩=some (.int .i64 (-1)):=by rw[cell_of hF];rfl
 have z4:=qay hF 4;have H:=zhd hF;clear hF;go_enter Tryz.func28,Tryz.ntmps28;go_wp2;rw[show (-min 2 1:Int) = -1 by decide];go_ret;exact⟨rfl,(qa0 (o:=4) H.out _).trans rfl,(Fr.refl [F] w).setCell (by simp) _⟩
def OfP (w:World) (q:Option Nat) (e:Ending) (w':World):Prop:=(match q with
 | none=>e = .returned (.tuple #[.pointer none,.int .i64 61])
 | some p=>e = .returned (.tuple #[.pointer (some ⟨p,0,none⟩),.int .i64 0]))∧Fr [] w w'
theorem qr6 (F q B n:Nat) (las chg:Value) (g:Nm→Option Nat) (k:Nm) (w:World) (hF:FsB w F q B las chg) (hN:Names w B n g) (hk:NOk k) :
  Calls Tryz.prog 26 #[.pointer (some ⟨F,0,none⟩),.string (str k)] w (OfP w (g k)):=by
 have f1:Fr [] w (w.alloc (.cells #[.string (str k)] 9)):=(Fr.refl [] w).alloc _;have hb:=qa4 w (.cells #[.string (str k)] 9);obtain⟨w1,hw1⟩:=zex (w.alloc (.cells #[.string (str k)] 9));rw[<-hw1]at f1 hb;obtain⟨X,hX⟩:=zex w.heap.size;rw[<-hX]at hb;have hnm:=qnp F q B las chg X 1 [k] w1 (f1.blk hF (by simp)) (λi x hi=>by
  match i,hi with
  | 0,hi=>
   obtain rfl:=qa2 hi
   rw[cell_of hb]
   rfl) (λx hx=>by simp only[qaz]at hx;rw[hx];exact hk) (by show (1:Nat)≤2;decide)
 rw[show [k].length=1 from rfl]at hnm;have c1:w1.cell? ⟨F,1,none⟩=some (.map (some B)):=by rw[cell_of (f1.blk hF (by simp))];rfl
 have hlk:=(hN.fr f1 (by simp)).look k (by have:=hk.2.1;omega);have H:=zhd2 hnm f1;obtain⟨z,hz⟩:=zex (str k);rw[<-hz]at hlk hw1 ⊢;have HW:=zhd2 hX hw1;clear hnm f1 hb hF hN hk hz hX hw1;go_enter Tryz.func26,Tryz.ntmps26;go_upto_region 2 with (go_at_call 23;rw[<-HW.o0,<-HW.l1];refine H.o0.mono ?_;rintro e w2 ⟨rfl,hw⟩;obtain rfl:=hw.symm);cases hg:g k with
 | none=>
  rw[hg]at hlk;have hlk':(Instr.lookup 43 (.map (some B)) (.string z) false).run Tryz.prog w1 = .ok (.pointer none) w1:=hlk;clear hlk;go_wp2;go_ret2;rw[hg];exact⟨rfl,H.l1⟩
 | some p=>rw[hg]at hlk;have hlk':(Instr.lookup 43 (.map (some B)) (.string z) false).run Tryz.prog w1 = .ok (.pointer (some ⟨p,0,none⟩)) w1:=hlk;clear hlk;go_wp2;go_ret2;rw[hg];exact⟨rfl,H.l1⟩
end Go.Proofs.YtbabjlohkniciaaGreatDoor.fs
