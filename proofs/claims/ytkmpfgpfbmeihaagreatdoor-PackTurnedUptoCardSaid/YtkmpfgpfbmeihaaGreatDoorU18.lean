/-
  Texts of this proof, one behind the other: Itoa, OwnB, RShaLaw, Sha2, ObjId, RsSet, OmRow, DeltaNum.
-/
import Derived.Test.YtkmpfgpfbmeihaaGreatDoorU17
import Derived.Shelf.LaysM
import Derived.Shelf.Strconv.Itoa3
import Derived.Test.YtkmpfgpfbmeihaaGreatDoorProg
import Derived.Laws.CopyRow
set_option maxHeartbeats 16000000
set_option maxRecDepth 100000
set_option linter.unusedVariables false
set_option linter.unusedSimpArgs false
namespace Go.Proofs
open Go.Shelf
def Tryz.laysM171_ren:Go.Shelf.Ren:=⟨fun|171=>118|243=>149|246=>181|283=>197|284=>198|285=>199|286=>200|129=>212|317=>211|318=>213|319=>214|320=>215|337=>221|338=>222|n=>n,fun|3=>3|9=>9|2=>2|4=>4|171=>295|0=>0|53=>104|37=>23|5=>5|173=>298|212=>316|51=>32|20=>20|213=>317|46=>67|232=>322|233=>323|n=>n,fun|17=>1|18=>2|19=>3|n=>n⟩
theorem Tryz.laysM171:Go.Proofs.LaysM.n171 Tryz.prog Tryz.laysM171_ren:={
 mixed:=by kernel_rfl
 f129:=Tryz.func212.trans (congrArg some (by kernel_rfl))
 f171:=Tryz.func118.trans (congrArg some (by kernel_rfl))
 f243:=Tryz.func149.trans (congrArg some (by kernel_rfl))
 f246:=Tryz.func181.trans (congrArg some (by kernel_rfl))
 f283:=Tryz.func197.trans (congrArg some (by kernel_rfl))
 f284:=Tryz.func198.trans (congrArg some (by kernel_rfl))
 f285:=Tryz.func199.trans (congrArg some (by kernel_rfl))
 f286:=Tryz.func200.trans (congrArg some (by kernel_rfl))
 f317:=Tryz.func211.trans (congrArg some (by kernel_rfl))
 f318:=Tryz.func213.trans (congrArg some (by kernel_rfl))
 f319:=Tryz.func214.trans (congrArg some (by kernel_rfl))
 f320:=Tryz.func215.trans (congrArg some (by kernel_rfl))
 f337:=Tryz.func221.trans (congrArg some (by kernel_rfl))
 f338:=Tryz.func222.trans (congrArg some (by kernel_rfl))
 t0:=Tryz.underlying0
 a0:=Tryz.isAgg0
 z0:=Tryz.sizeOf0
 v0:=Tryz.zeroValue0
 t2:=Tryz.underlying2
 a2:=Tryz.isAgg2
 z2:=Tryz.sizeOf2
 v2:=Tryz.zeroValue2
 t3:=Tryz.underlying3
 a3:=Tryz.isAgg3
 z3:=Tryz.sizeOf3
 v3:=Tryz.zeroValue3
 t4:=Tryz.underlying4
 a4:=Tryz.isAgg4
 z4:=Tryz.sizeOf4
 v4:=Tryz.zeroValue4
 t5:=Tryz.underlying5
 a5:=Tryz.isAgg5
 z5:=Tryz.sizeOf5
 v5:=Tryz.zeroValue5
 t9:=Tryz.underlying9
 a9:=Tryz.isAgg9
 z9:=Tryz.sizeOf9
 v9:=Tryz.zeroValue9
 t20:=Tryz.underlying20
 a20:=Tryz.isAgg20
 z20:=Tryz.sizeOf20
 v20:=Tryz.zeroValue20
 t37:=Tryz.underlying23
 a37:=Tryz.isAgg23
 z37:=Tryz.sizeOf23
 v37:=Tryz.zeroValue23
 t46:=Tryz.underlying67
 a46:=Tryz.isAgg67
 z46:=Tryz.sizeOf67
 v46:=Tryz.zeroValue67
 t51:=Tryz.underlying32
 a51:=Tryz.isAgg32
 z51:=Tryz.sizeOf32
 v51:=Tryz.zeroValue32
 t53:=Tryz.underlying104
 a53:=Tryz.isAgg104
 z53:=Tryz.sizeOf104
 v53:=Tryz.zeroValue104
 t171:=Tryz.underlying295
 a171:=Tryz.isAgg295
 z171:=Tryz.sizeOf295
 v171:=Tryz.zeroValue295
 t173:=Tryz.underlying298
 a173:=Tryz.isAgg298
 z173:=Tryz.sizeOf298
 v173:=Tryz.zeroValue298
 t212:=Tryz.underlying316
 a212:=Tryz.isAgg316
 z212:=Tryz.sizeOf316
 v212:=Tryz.zeroValue316
 t213:=Tryz.underlying317
 a213:=Tryz.isAgg317
 z213:=Tryz.sizeOf317
 t232:=Tryz.underlying322
 a232:=Tryz.isAgg322
 z232:=Tryz.sizeOf322
 v232:=Tryz.zeroValue322
 t233:=Tryz.underlying323
 a233:=Tryz.isAgg323
 z233:=Tryz.sizeOf323
 v233:=Tryz.zeroValue323
 g17:=by kernel_rfl
 g18:=by kernel_rfl
 g19:=by kernel_rfl
 i0:=by kernel_rfl
 i2:=by kernel_rfl
 i3:=by kernel_rfl
 i4:=by kernel_rfl
 i5:=by kernel_rfl
 i9:=by kernel_rfl
 i20:=by kernel_rfl
 i37:=by kernel_rfl
 i46:=by kernel_rfl
 i51:=by kernel_rfl
 i53:=by kernel_rfl
 i171:=by kernel_rfl
 i173:=by kernel_rfl
 i212:=by kernel_rfl
 i232:=by kernel_rfl
 i233:=by kernel_rfl
 m17:=by kernel_rfl
 m18:=by kernel_rfl
 m19:=by kernel_rfl }
open Go.RowKit Go.Sort Go.Lib in
theorem Tryz.strconv_Itoa (n:Int) (h0 : -9223372036854775808<=n) (h1:n<=9223372036854775807) (w:World) (y8:Lib.TabIs Tryz.prog w "internal/strconv.uint64pow10" .u64 Lib.pow10Tab) :
  Calls Tryz.prog 118 #[.int .i64 n] w λe w'=>e = .returned (.string ⟨(Lib.itoa n).toArray⟩)/\∃k os,w'=grow (w.drewN k) os:=Any.strconv_Itoa Tryz.laysM171 n h0 h1 w y8
end Go.Proofs
namespace Go.Proofs.YtkmpfgpfbmeihaaGreatDoor
namespace obj
open Go Go.RowKit lib
def Pw (w:World):Prop:=Lib.TabIs Tryz.prog w "internal/strconv.uint64pow10" .u64 Lib.pow10Tab
theorem qwx:∃g,Tryz.prog.globalNamed "internal/strconv.uint64pow10" = some g:=Option.isSome_iff_exists.1 (by kernel_rfl)
theorem Pw.fr {w w':World} (h:Pw w) (f:Fr [] w w'):Pw w':=by
 obtain⟨g,hg⟩:=qwx;unfold Pw Lib.TabIs World.var? at h ⊢;rw[hg]at h ⊢;simp only[Option.bind_some]at h ⊢;have aY:g<w.heap.size:=by
  rcases og g w.heap.size with h'|h'
  ·exact h'
  ·rw[Array.getElem?_eq_none h']at h;cases h
 rw[f.block g aY (by simp)];exact h
theorem zeb (w:World) (k:Nat) (os:Array Obj):Fr [] w (Go.Sort.grow (w.drewN k) os):=
 ⟨rfl,rfl,rfl,by simp[Go.Sort.grow],λi hi _=>by simp only[Go.Sort.grow];exact Array.getElem?_append_left (show i<(w.drewN k).heap.size from hi)⟩
theorem zba (n:Nat) (h1:n<=140737488355328) (w:World) (h:Pw w):Calls Tryz.prog 118 #[.int .i64 n] w λe w'=>e = .returned (.string (str (Lib.decDigits n)))/\Fr [] w w':=
 (Go.Proofs.Tryz.strconv_Itoa (n:Int) (by omega) (by omega) w h).mono λe w' hh=>⟨by rw[hh.1];unfold str Lib.itoa;rw[if_neg (by omega)];rfl,by obtain⟨k,os,rfl⟩:=hh.2;exact zeb w k os⟩
end obj
namespace lib
open Go Go.RowKit
theorem qsp {w:World} {b:Nat} {c:Array Value} {t:TypeId} {f:Nat×Nat} (h:w.heap[b]?=some (.cells c t f)) (hf:f=(0,0)\/c.size<=f.1) (o:Nat) (ho:o<c.size):w.frozen? ⟨b,o,none⟩=false:=by
 rcases hf with rfl|hf
 ·exact aO h o
 ·simp[World.frozen?,h];intro h1;omega
section
variable {P : Program}
theorem qf7 (g o:Nat) (t:TypeId) (f:Nat×Nat):∀(vs:List Value) (i:Nat) (cur:Array Value) (w:World),w.heap[g]?=some (.cells cur t f)->(f=(0,0)\/cur.size<=f.1)->o+i+vs.length<=cur.size->(∀v∈vs,v.oneCell'=true)->
  (storeCells ⟨g,o,none⟩ vs i).run P w = .ok () (w.setRow g (cur.toList.take (o+i)++vs++cur.toList.drop (o+i+vs.length)).toArray)
 | [],i,cur,w,hg,_,_,_=>by
  simp only[storeCells,nF,lK,jS,Fz,Array.toArray_toList];rw[setRow_self w g cur t f hg];rfl
 | v::rest,i,cur,w,hg,hf,hl,h1=>by
  have hi:o+i<cur.size:=by simp at hl;omega
  have Yq:(⟨g,o,none⟩:Addr).add i=⟨g,o+i,none⟩:=by unfold Addr.add;split<;>simp_all
  have hcell:w.cell? ⟨g,o+i,none⟩=some cur[o+i]:=by simp[World.cell?,hg,hi]
  have XY:w.frozen? ⟨g,o+i,none⟩=false:=qsp hg hf _ hi;have az:(store ((⟨g,o,none⟩:Addr).add i) v).run P w = .ok () (w.setRow g (cur.setIfInBounds (o+i) v)):=by rw[Yq,run_store P w _ v _ (h1 v (by simp)),hcell];simp[XY,setCell_eq_setRow w g (o+i) cur t f v hg]
  have ih:=qf7 g o t f rest (i+1) (cur.setIfInBounds (o+i) v) (w.setRow g (cur.setIfInBounds (o+i) v)) (setRow_heap w g cur _ t _ hg) (by rw[qX];exact hf) (by simp at hl ⊢;omega) (λx hx=>h1 x (by simp[hx]));simp only[storeCells,Dm,az,Ha,ih,setRow_setRow];congr 3;have e:=list_seg_step cur.toList (o+i) v rest (by simp at hl ⊢;omega);simpa[Array.toList_setIfInBounds,uy] using e
end
def km (w:World) (e:TypeId) (a:Option Addr) (cap:Nat) (xs:List Value):Prop:=
 (a=none/\cap=0/\xs=[])\/∃g o cur f,a=some ⟨g,o,none⟩/\w.heap[g]?=some (.cells cur e f)/\(f=(0,0)\/cur.size<=f.1)/\xs.length<=cap/\cap<=maxLen/\o+cap<=cur.size/\(cur.toList.drop o).take xs.length=xs
theorem dP.b {w:World} {e:TypeId} {a:Option Addr} {cap:Nat} {xs:List Value} (h:dP w e a cap xs):km w e a cap xs:=by
 rcases h with h|⟨g,o,cur,rfl,hg,r⟩
 ·exact .inl h
 ·exact .inr ⟨g,o,cur,_,rfl,hg,.inl rfl,r⟩
theorem km.shape {w:World} {e:TypeId} {a:Option Addr} {cap:Nat} {xs:List Value} (h:km w e a cap xs):xs.length<=cap/\cap<=maxLen/\(a=none->cap=0):=by
 rcases h with⟨_,rfl,rfl⟩|⟨g,o,cur,f,rfl,_,_,h1,h2,_⟩
 ·exact⟨aw _,dZ _,λ_=>rfl⟩
 ·exact⟨h1,h2,λh=>by cases h⟩
theorem km.cs {w:World} {e:TypeId} {a:Option Addr} {cap:Nat} {xs:List Value} (h:km w e a cap xs):Cs w a xs:=by
 rcases h with⟨_,_,rfl⟩|⟨g,o,cur,f,rfl,hg,_,h1,h2,h3,h4⟩
 ·exact .inl rfl
 ·refine .inr ⟨g,o,rfl,λj v hv=>?_⟩;rw[cell_of hg,<-qW];rw[<-h4,oY]at hv;split at hv
  ·simpa using hv
  ·cases hv
theorem km.fr {S:List Nat} {w w':World} {e:TypeId} {a:Option Addr} {cap:Nat} {xs:List Value} (h:km w e a cap xs) (f:Fr S w w') (hn:∀x∈ae a,x∉S):km w' e a cap xs:=by
 rcases h with h|⟨g,o,cur,z,rfl,hg,r⟩
 ·exact .inl h
 ·exact .inr ⟨g,o,cur,z,rfl,f.ae hg (hn g (by simp[ae])),r⟩
theorem km.lt {w:World} {e:TypeId} {a:Option Addr} {cap:Nat} {xs:List Value} (h:km w e a cap xs):∀x∈ae a,x<w.heap.size:=by
 rcases h with⟨rfl,_⟩|⟨g,o,cur,f,rfl,hg,r⟩
 ·simp[ae]
 ·intro x hx;simp[ae]at hx;rw[hx];exact lt_of_block hg
theorem km.rd {w:World} {e:TypeId} {a:Option Addr} {cap:Nat} {bs:List UInt8} (h:km w e a cap (bs.map bv)):Rd w a cap bs:=by obtain⟨h1,h2,h3⟩:=h.shape;exact⟨h.cs,by simpa using h1,h2,h3⟩
section
variable {P : Program} {w : World} {t e : TypeId} {z : Value} {bytes : Nat}
structure GJ (w w':World) (e:TypeId) (a a':Option Addr) (aQ:Nat) (xs:List Value):Prop where
 own:km w' e a' aQ xs
 fr:Fr (ae a) w w'
 at_:∀x∈ae a',x∈ae a\/w.heap.size<=x
theorem qqa (T:ax P t e z 1 bytes) (ty:TypeId) (a:Option Addr) (n cap:Nat) (xs:List Value) (aA:km w e a cap xs) (hn:xs.length=n)
  (ao:Option Addr) (m c:Nat) (news:List Value) (rj:m<=c) (bY:ao=none->c=0) (hc:Cs w ao news) (hl:news.length=m) (h1:∀u∈news,u.oneCell'=true)
  (kg:(n+m)*bytes<=140737488355328) (oF:n+m<=maxLen) :
  ∃a' aQ w',(Builtin.append_ #[t,t] ty #[.slice a n cap,.slice ao m c]).run P w = .ok (.slice a' (n+m) aQ) w'/\GJ w w' e a a' aQ (xs++news):=by
 subst hn;have hcs:=aA.cs;rcases aA with⟨rfl,rfl,rfl⟩|⟨g,o,cur,f,rfl,hg,kf,k1,k2,k3,k4⟩
 ·obtain⟨a',aQ,w',hr,A⟩:=qiw (P:=P) T ty none 0 0 [] (dP.nil w e) rfl ao m c news rj bY hc hl h1 (by simpa using kg) (by simpa using oF);exact⟨a',aQ,w',hr,A.own.b,A.fr,A.at_⟩
 ·by_cases tu:m=0
  ·subst tu;obtain rfl:news=[]:=wk hl;obtain⟨hu,⟨i,hi,hz,hs,Bz⟩,tY,hp⟩:=T;refine⟨some ⟨g,o,none⟩,cap,w,?_,by rw[nF];exact .inr ⟨g,o,cur,f,rfl,hg,kf,k1,k2,k3,k4⟩,Fr.refl _ _,λx hx=>.inl hx⟩;cases ao with
   | none=>
    have bW:=bY rfl;simp[Builtin.append_,run_underlying hu,sizeOf,typeInfo,hi,Builtin.lenOf,k1,Builtin.firstCells,storeCells]
   | some b=>have hf:=run_firstCells_some (P:=P) w i.size 0 b 0 c [] (by simp) (by simp);simp[Builtin.append_,run_underlying hu,sizeOf,typeInfo,hi,Builtin.lenOf,k1,hf,storeCells]
  ·by_cases hroom:xs.length+m<=cap
   ·obtain⟨hu,⟨i,hi,hz,hs,Bz⟩,tY,hp⟩:=T;obtain⟨g',o',rfl,kK⟩:=hc.at (by omega);have wR:=TU kK;have hf:=run_firstCells_some (P:=P) w i.size m ⟨g',o',none⟩ m c news (by rw[hs];omega) wR;have az:=qf7 (P:=P) g (o+xs.length*i.size) e f news 0 cur w hg kf (by rw[hs];omega) h1;simp only[jS]at az;refine⟨some ⟨g,o,none⟩,cap,_,?_,⟨.inr ⟨g,o,_,f,rfl,setRow_heap w g cur (cur.toList.take (o+xs.length*i.size)++news++cur.toList.drop (o+xs.length*i.size+news.length)).toArray e f hg,?_,by rw[aK,hl];exact hroom,k2,?_,?_⟩,⟨rfl,rfl,rfl,by simp,λk _ hk=>setRow_other w g k _ (λe=>hk (by simp[ae,e]))⟩,λx hx=>.inl hx⟩⟩
    ·simp[Builtin.append_,run_underlying hu,sizeOf,typeInfo,hi,Builtin.lenOf,hroom,hf,Addr.add_lit,az]
    ·refine kf.imp id λk=>?_
     simp only[List.size_toArray,aK,eJ,eQ,FB,hs];omega
    ·simp only[List.size_toArray,aK,eJ,eQ,FB,hs];omega
    ·simp only[hs,qV];rw[MF (by simp;omega),MF (by simp;omega),List.drop_take,Nat.add_sub_cancel_left,k4,aK,hl];rw[QQ (by simp[hl]),oI (by simp[hl])]
   ·obtain⟨aQ,w',hr,A⟩:=Wm (P:=P) T ty (some ⟨g,o,none⟩) xs.length cap xs hcs (by omega) k1 (by simp) ao m c news hc (by omega) (by omega) kg oF;obtain⟨o1,_⟩:=RF A.own;exact⟨_,aQ,w',hr,o1.b,A.fr.mono (by simp),λx hx=>.inr (Nat.le_of_eq (by have:=A.at_ x hx;simp at this;exact this.symm))⟩
theorem Wn (T:ax P t e z 1 bytes) {ops:Array Oper} {rest:List Oper} {o:Oper} {A:Act} {Q:Exit->Act->World->Prop} (qv:o.guard=none) (s x:Operand)
  (ho:o.op = .call { callee:=.builtin .append,args:=#[s,x],argTypes:=#[t,t] })
  (a:Option Addr) (n cap:Nat) (xs:List Value) (hs:A.eval s = .slice a n cap) (aA:km w e a cap xs) (hn:xs.length=n)
  (ao:Option Addr) (m c:Nat) (news:List Value) (hx:A.eval x = .slice ao m c) (rj:m<=c) (bY:ao=none->c=0) (hc:Cs w ao news) (hl:news.length=m) (h1:∀u∈news,u.oneCell'=true)
  (kg:(n+m)*bytes<=140737488355328) (oF:n+m<=maxLen)
  (h:∀a' aQ w',GJ w w' e a a' aQ (xs++news)->wpList P ops Q rest (A.put o.dst (.slice a' (n+m) aQ)) w'):wpList P ops Q (o::rest) A w:=
 wpList_plain qv λ_ hK=>by obtain⟨a',aQ,w',hr,h2⟩:=qqa (P:=P) T o.type a n cap xs aA hn ao m c news rj bY hc hl h1 kg oF;unfold Oper.wp execOp;simp only[ho,resolve,invoke,builtin,Dm,Sem.run_pure,Ha,List.map_toArray,gW,oJ,hs,hx,hr];exact hK _ _ (h a' aQ w' h2)
theorem qhq {ops:Array Oper} {rest:List Oper} {o:Oper} {a:Act} {Q:Exit->Act->World->Prop} {src dst:TypeId} (hs:P.underlying src=some .string) (hd:P.underlying dst=some (.slice e)) (he:P.underlying e=some (.int .u8))
  (qv:o.guard=none) (x:Operand) (ho:o.op = .convert src dst x) (bs:List UInt8) (hx:a.eval x = .string (str bs)) (hm:bs.length<=maxLen)
  (h:∀cap w',bs.length<=cap->km w' e (some ⟨w.heap.size,0,none⟩) cap (bs.map bv)->Fr [] w w'->w.heap.size<w'.heap.size->wpList P ops Q rest (a.put o.dst (.slice (some ⟨w.heap.size,0,none⟩) bs.length cap)) w'):wpList P ops Q (o::rest) a w:=by
 have hr:=run_bytes_of_string (P:=P) w src dst e (str bs) hs hd he;have cF:(str bs).size=bs.length:=by simp[str,ByteArray.size]
 rw[cF]at hr;have h1:=grownCap_ge w bs.length 0 e;have h2:=grownCap_le_maxLen w bs.length 0 e hm;generalize grownCap w bs.length 0 e=cap at *;refine wpList_plain qv λK hK=>?_
 unfold Oper.wp execOp;simp only[ho,hx,Dm,Ha,Sem.run_pure,hr];have hb:=bx w.drew (.cells (bytesRow (str bs) cap) e ((bytesRow (str bs) cap).size,(bytesRow (str bs) cap).size+1));have dI:(bytesRow (str bs) cap).toList.take bs.length=bs.map bv/\(bytesRow (str bs) cap).size=cap:=by
  constructor
  ·unfold bytesRow;rw[Array.toList_append,QQ (by simp[str]),oI (by simp[str])];simp[str,bv]
  ·unfold bytesRow;simp;omega
 refine hK _ _ (h cap _ h1 (.inr ⟨w.heap.size,0,_,_,rfl,hb,.inr (aw _),by simpa using h1,h2,by rw[dI.2];omega,?_⟩) ((Fr.av [] w).alloc _) (by rw[eZ];exact Nat.lt_succ_self _));rw[yU,cN];exact dI.1
end
end lib
namespace sha
open Go Go.RowKit lib bm
theorem qzx (p q:List UInt8) (i:Nat) (h:i+3<p.length):word (p++q) i=word p i:=by unfold word;rw[CJ (by omega),CJ (by omega),CJ (by omega),CJ (by omega)]
theorem qp9 (p q:List UInt8) (h:64<=p.length):∀t,sched (p++q) t=sched p t
 | 0=>rfl
 | t+1=>by
  have e:∀x,sched x (t+1)=sched x t++[if t<16 then word x (4*t) else GX (bits .xor .u32 (bits .xor .u32 (bits .xor .u32 ((sched x t)[t-3]?.getD 0) ((sched x t)[t-8]?.getD 0)) ((sched x t)[t-14]?.getD 0)) ((sched x t)[t-16]?.getD 0)) 1]:=λ_=>rfl
  refine (e _).trans (Eq.trans ?_ (e _).symm);have ih:=qp9 p q h t;generalize sched (p++q) t=a at *;subst ih;refine congrArg (λz=>sched p t++[z]) ?_;by_cases ht:t<16
  ·rw[if_pos ht,if_pos ht];exact qzx p q _ (by omega)
  ·rw[if_neg ht,if_neg ht]
theorem qwm (p q:List UInt8) (h:64<=p.length) (t:Nat) (s:H5):round (p++q) t s=round p t s:=by unfold round;rw[qp9 p q h]
theorem qny (p q:List UInt8) (h:64<=p.length) (s:H5):∀t,rounds (p++q) t s=rounds p t s
 | 0=>rfl
 | t+1=>by rw[rounds,rounds,qny p q h s t,qwm p q h]
theorem za2 (p q:List UInt8) (h:64<=p.length) (s:H5):j9 s (p++q)=j9 s p:=by unfold j9;rw[qny p q h]
theorem RM:∀(f g:Nat) (h:H5) (p:List UInt8),p.length<=f->p.length<=g->blocks f h p=blocks g h p
 | 0,0,h,p,_,_=>rfl
 | 0,g+1,h,p,h1,_=>by rw[blocks,blocks,if_neg (by omega)]
 | f+1,0,h,p,_,h2=>by rw[blocks,blocks,if_neg (by omega)]
 | f+1,g+1,h,p,h1,h2=>by
  rw[blocks,blocks];split
  ·exact RM f g _ _ (by rw[eQ];omega) (by rw[eQ];omega)
  ·rfl
theorem RS:∀(f F:Nat) (h:H5) (p q:List UInt8),p.length<=f->(p++q).length<=F->blocks F h (p++q)=blocks (leftOf f p++q).length (blocks f h p) (leftOf f p++q)
 | 0,F,h,p,q,h1,h2=>by
  rw[leftOf,blocks];exact RM _ _ _ _ h2 (aw _)
 | f+1,F,h,p,q,h1,h2=>by
  by_cases po:64<=p.length
  ·rw[leftOf,if_pos po,show blocks (f+1) h p=blocks f (j9 h p) (p.drop 64) by rw[blocks,if_pos po]];obtain⟨F',rfl⟩:∃F',F=F'+1:=⟨F-1,by rw[aK]at h2;omega⟩;rw[blocks,if_pos (by rw[aK];omega),za2 p q po,MF po];exact RS f F' _ _ q (by rw[eQ];omega) (by rw[aK,eQ];rw[aK]at h2;omega)
  ·rw[leftOf,if_neg po,show blocks (f+1) h p=h by rw[blocks,if_neg po]];exact RM _ _ _ _ h2 (aw _)
theorem RC:∀(f:Nat) (p:List UInt8),(leftOf f p).length%64=p.length%64
 | 0,p=>by rw[leftOf]
 | f+1,p=>by
  rw[leftOf];split
  ·rw[RC f,eQ];omega
  ·rfl
theorem qk6 (s:List UInt8):dY s=vu (blocks (cZ s s.length).length h0 (cZ s s.length)):=by
 have hz:vF ((leftOf s.length s).length+1)=vF (s.length+1):=by have:=RC s.length s;unfold vF;omega
 have e:∀r:List UInt8,vF (r.length+1)=vF (s.length+1)->cZ r s.length=r++([128]++(List.replicate (vF (s.length+1)) 0++(sums.gh (s.length/536870912)++sums.gh (s.length*8%4294967296)))):=λr hr=>by unfold cZ oo;rw[hr];simp only[gH]
 unfold dY;rw[e _ hz,e s rfl,<-RS s.length _ h0 s _ (aw _) (aw _)]
def vY (len:Nat):List UInt8:=[128]++(List.replicate (vF (len+1)) 0++(sums.gh (len/536870912)++sums.gh (len*8%4294967296)))
theorem qmm (r:List UInt8) (len:Nat) (h:r.length%64=len%64):cZ r len=r++vY len:=by
 have hz:vF (r.length+1)=vF (len+1):=by unfold vF;omega
 unfold cZ oo vY;rw[hz];simp only[gH]
theorem zac (a b:List UInt8) {rs:List UInt8} (xS:rs=leftOf (leftOf a.length a++b).length (leftOf a.length a++b)) {len:Nat} (hlen:len=a.length+b.length) :
  vu (blocks (cZ rs len).length (blocks (leftOf a.length a++b).length (blocks a.length h0 a) (leftOf a.length a++b)) (cZ rs len))=dY (a++b):=by
 have h1:=RC a.length a;have h2:=RC (leftOf a.length a++b).length (leftOf a.length a++b);rw[aK]at h2;have Xw:rs.length%64=len%64:=by rw[xS,hlen,aK];omega
 rw[qmm rs len Xw,xS,<-RS _ _ _ _ _ (aw _) (aw _),gH,<-RS a.length _ h0 a (b++vY len) (aw _) (aw _),qk6,
  qmm (a++b) _ rfl,hlen,gH]
 simp only[aK]
end sha
namespace obj
open Go Go.RowKit lib
def Qi (w:World) (bs:List UInt8) (e:Ending) (w':World):Prop:=
 ∃a c,e = .returned (.slice a bs.length c)/\lib.Rd w' a c bs/\(∀x∈ae a,w.heap.size<=x)/\Fr [] w w'
theorem qva (k:Int) (n:Nat) (w:World) (hn:n<=140737488355328) (hp:Pw w):Calls Tryz.prog 95 #[.int .i64 k,.int .i64 n] w (Qi w (header k n)):=by
 obtain⟨A,hA⟩:=ah (str (ef k));obtain⟨D,hD⟩:=ah (str (Lib.decDigits n));have cG:A.size<=6:=by have:=UL k;rw[hA];simpa[str,ByteArray.size] using this
 have YL:D.size<=16:=by
  have:=Uf 16 n (by decide) (by
   have:10^16=10000000000000000:=by decide
   omega)
  have e:(str (Lib.decDigits n)).size=(Lib.decDigits n).length:=by simp[str,ByteArray.size]
  rw[hD,e];exact this
 have h1:=λw'=>U3 k w'
 have h2:=λw' h=>zba n hn w' h
 rw[<-hA]at h1;rw[<-hD]at h2;have uY:A++({ data:=#[32] }:ByteArray)++D++({ data:=#[0] }:ByteArray)=str (header k n):=by have e1:({ data:=#[32] }:ByteArray)=str [32]:=rfl;have e0:({ data:=#[0] }:ByteArray)=str [0]:=rfl;rw[e1,e0,hA,hD,DB,DB,DB];rfl
 have H:=aF h1 h2 uY hp;clear h1 h2 hA hD uY hp;go_enter Tryz.func95,Tryz.ntmps95;go_wp2_with (first
  | (go_at_call 62;refine (H.o0 _).mono ?_;rintro e w1 ⟨rfl,f1⟩;have HF:=af f1;clear f1)
  | (go_at_call 118;refine (H.o1 _ (H.l3.fr HF.out)).mono ?_;rintro e w2 ⟨rfl,f2⟩;have Tn:=af (HF.out.trans f2);clear f2)
  | (refine Fy (n:Int) rfl _ _ _ rfl (n:Int) 0 rfl rfl (by split<;>omega) ?_)
  | (refine qhq (e:=5) Tryz.underlying9 Tryz.underlying23 Tryz.underlying5 rfl _ rfl (header k n) (by rw[<-H.o2];rfl) (by have:=VI k n hn;unfold maxLen;omega) ?_;intro cap w3 vR ho3 f3 Lh;have H3:=ak ho3.rd f3;clear ho3 f3))
 go_ret;exact⟨_,cap,rfl,H3.o0,λx hx=>by simp only[ae,iQ]at hx;rw[hx];exact Tn.out.size,Tn.out.trans H3.l1⟩
theorem zdw (w:World):Calls Tryz.prog 93 #[.int .i64 1] w λe w'=>e = .returned (.tuple #[.pointer (some ⟨w.heap.size,0,none⟩),.int .i64 0])/\sha.Sh w' w.heap.size sha.h0 none 0 [] 0/\Fr [] w w':=by go_enter Tryz.func93,Tryz.ntmps93;go_wp2_with (go_at_call 106;refine (sha.qre _).mono ?_;rintro e w1 ⟨rfl,A1,f1⟩;have H1:=ak A1 f1;clear A1 f1);go_ret2;exact⟨rfl,H1.out⟩
theorem QO (k:Int) (ao:Option Addr) (cap:Nat) (bs:List UInt8) (w:World) (h:lib.Rd w ao cap bs) (hl:bs.length<=140737488355200) (hp:Pw w) :
  Calls Tryz.prog 63 #[.int .i64 k,.slice ao bs.length cap] w λe w'=>e = .returned (.string (str (pk.pQ k bs)))/\Fr [] w w':=by
 obtain⟨L,hL⟩:=ah bs.length;obtain⟨hd,qu⟩:=ah (header k L);have ic:hd.length<=24:=by rw[qu];exact VI k L (by omega)
 have cU:pk.pQ k bs=pk.ib (sha.dY (hd++bs)):=by rw[qu,hL];rfl
 rw[cU];have hh:=λw' Sq=>qva k L w' (by omega) Sq
 rw[<-qu]at hh;rw[<-hL]at hl ⊢;have H:=aF h hL hh hp;clear h hL hh hp qu cU;go_enter Tryz.func63,Tryz.ntmps63;go_upto_region 2 with (go_at_call 93;refine (zdw _).mono ?_;rintro e w1 ⟨rfl,A1,f1⟩;have H1:=ak A1 f1;clear A1 f1);obtain⟨g,hg⟩:=ah w.heap.size;rw[<-hg]at H1 ⊢;have Er:g<w1.heap.size:=by obtain⟨C,hC,_⟩:=H1.out.1.ae;exact lt_of_block hC
 have hW:∀w2 a2 c2,lib.Rd w2 a2 c2 hd->Fr [] w1 w2->(∀x∈ae a2,w1.heap.size<=x)->Calls Tryz.prog 94 #[.pointer (some ⟨g,0,none⟩),.slice a2 hd.length c2] w2 λe w'=>e = .returned (.tuple #[])/\Fr [g] w2 w'/\
   ∃rZ rY,sha.Sh w' g (sha.blocks hd.length sha.h0 hd) rZ rY (sha.leftOf hd.length hd) hd.length/\∀x∈lib.ae rZ,w2.heap.size<=x:=λw2 a2 c2 r2 f2 n2=>by
  obtain⟨C,hC,s⟩:=H1.out.1.ae
  have:=sha.Vy g sha.h0 none 0 [] 0 c2 a2 hd w2 ⟨⟨C,f2.ae hC (by simp),s⟩,H1.out.1.own.fr f2 (by simp),by simp[lib.ae]⟩ r2 (λ_ x hx=>by have:=n2 x hx;omega) (by omega) (by simp;omega)
  simp only[vI,fM,lib.ae,v7,false_or]at this
  exact this
 have HW:=au hW hg Er;clear hW hg Er;go_upto_region 3 with (first
  | (go_at_call 95;refine (H.o2 _ (H.l3.fr H1.out.2)).mono ?_;rintro e w2 ⟨a2,c2,rfl,r2,n2,f2⟩;have H2:=au r2 f2 n2;clear r2 f2 n2)
  | (go_at_call 94;refine (HW.o0 _ a2 c2 H2.o0 H2.o1 H2.l2).mono ?_;rintro e w3 ⟨rfl,f3,ra3,rc3,A3,n3⟩;have H3:=au f3 A3 n3;clear f3 A3 n3))
 obtain⟨f3,A3,n3⟩:=H3.out;have hg:=HW.o1;have Er:=HW.l2;have zT:Fr [] w w2:=H1.out.2.trans H2.o1;have YU:Fr [] w w3:=zT.step f3 (λy hy=>.inr (by simp at hy;omega));obtain⟨xB,D7⟩:=ah (sha.leftOf hd.length hd);have vM:xB.length<64:=by rw[D7];exact sha.Rt _ _ (aw _)
 rw[<-D7]at A3;have hw:=sha.Vy g _ ra3 rc3 xB hd.length cap ao bs w3 A3 (H.o0.fr YU) (λhb x hx=>by have:=Ag H.o0 hb x hx;omega) (by have:=H.o1;omega) (by have:=H.o1;omega);rw[<-H.o1]at hw;have H4:=aF hw YU D7 n3;clear hw YU D7 n3 f3 A3 H3 hg Er;go_upto_region 4 with (go_at_call 94;refine H4.o0.mono ?_;rintro e w4 ⟨rfl,f4,ra4,rc4,A4,n4⟩;have H5:=au f4 A4 n4;clear f4 A4 n4);obtain⟨f4,A4,n4⟩:=H5.out;have hg:=HW.o1;have Er:=HW.l2;have JB:Fr [] w w4:=H4.o1.step f4 (λy hy=>.inr (by
  simp only[gw]at hy
  rcases hy with rfl|hy
  ·omega
  ·have:=(zT).size
   have:=H4.l3 y hy
   omega))
 have hs:=sha.qwb _ _ _ _ _ _ w4 A4 (sha.Rt _ _ (aw _)) (sha.Rw _ _ _ (sha.Rw _ _ _ sha.TV)) (by omega);rw[H4.o2,sha.zac hd bs rfl (by rw[H.o1])]at hs;have H6:=ak hs JB;clear hs JB f4 A4 n4 H5 hg Er;go_wp2_with (first
  | (go_at_call 96;refine H6.o0.mono ?_;rintro e w5 ⟨⟨a5,c5,rfl,r5⟩,f5⟩;have H7:=ak r5 f5;clear r5 f5)
  | (go_at_call 46;refine (pk.QU a5 c5 _ w5 H7.o0 (by rw[sha.sf];decide)).mono ?_;rintro e w6 ⟨rfl,f6⟩))
 go_ret;exact⟨rfl,(H6.l1.trans H7.l1).trans f6⟩
end obj
namespace pk
open Go Go.RowKit lib bm
def dG (o:Obj) (a:Option Addr) (c:Nat):Array Value:=#[.int .i64 o.kind,.slice a o.body.length c,.string (str o.id),.int .i64 o.at_,.int .u32 (o.crc:Nat)]
theorem gL:(Tryz.prog.info? 34).map (·.size)=some 5:=by kernel_rfl
structure Rb (w:World) (g O S:Nat) (gv tv:Value) (la:Option Addr) (ms:List EM) (C D:Array Value):Prop where
 box:w.heap[g]?=some (.cells #[.slice la ms.length ms.length,.slice (some ⟨O,0,none⟩) ms.length ms.length,.slice (some ⟨S,0,none⟩) ms.length ms.length,gv,tv] 96 (0,0))
 ents:lv w la ms
 ob:w.heap[O]?=some (.cells C 34 (0,0))
 oc:C.size=ms.length*5
 sb:w.heap[S]?=some (.cells D 100 (0,0))
 sc:D.size=ms.length*4
 gO:g≠O
 gS:g≠S
 OS:O≠S
 offl:∀x∈ae la,x≠O/\x≠S
 offd:∀m∈ms,∀x∈ae m.2,x≠O/\x≠S
 few:ms.length<=4096
theorem Rb.fr {w w':World} {g O S:Nat} {gv tv:Value} {la:Option Addr} {ms:List EM} {C D:Array Value} (h:Rb w g O S gv tv la ms C D) (f:Fr [] w w'):Rb w' g O S gv tv la ms C D:=
 ⟨f.ae h.box (by simp),h.ents.fr f,f.ae h.ob (by simp),h.oc,f.ae h.sb (by simp),h.sc,h.gO,h.gS,h.OS,h.offl,h.offd,h.few⟩
theorem lv.gg {S:List Nat} {w w':World} {a:Option Addr} {ms:List EM} (h:lv w a ms) (f:Fr S w w') (hl:∀x∈ae a,x∉S) (hd:∀m∈ms,∀x∈ae m.2,x∉S):lv w' a ms:=
 ⟨h.cs.fr f hl,λm hm=>(h.dat m hm).gg f (hd m hm)⟩
theorem Rb.TD {w w':World} {g O S:Nat} {gv tv:Value} {la:Option Addr} {ms:List EM} {C C' D:Array Value} (h:Rb w g O S gv tv la ms C D) (f:Fr [O] w w') (hb:w'.heap[O]?=some (.cells C' 34 (0,0))) (hs:C'.size=C.size):Rb w' g O S gv tv la ms C' D:=
 ⟨f.ae h.box (by simp;exact h.gO),h.ents.gg f (λx hx=>by simp;exact (h.offl x hx).1) (λm hm x hx=>by simp;exact (h.offd m hm x hx).1),hb,by rw[hs];exact h.oc,f.ae h.sb (by simp;exact jg h.OS),h.sc,h.gO,h.gS,h.OS,h.offl,h.offd,h.few⟩
theorem Rb.rB {w w':World} {g O S:Nat} {gv tv:Value} {la:Option Addr} {ms:List EM} {C D D':Array Value} (h:Rb w g O S gv tv la ms C D) (f:Fr [S] w w') (hb:w'.heap[S]?=some (.cells D' 100 (0,0))) (hs:D'.size=D.size):Rb w' g O S gv tv la ms C D':=
 ⟨f.ae h.box (by simp;exact h.gS),h.ents.gg f (λx hx=>by simp;exact (h.offl x hx).2) (λm hm x hx=>by simp;exact (h.offd m hm x hx).2),f.ae h.ob (by simp;exact h.OS),h.oc,hb,by rw[hs];exact h.sc,h.gO,h.gS,h.OS,h.offl,h.offd,h.few⟩
theorem lv.cell {w:World} {a:Option Addr} {ms:List EM} (h:lv w a ms) {i:Nat} {m:EM} (hi:ms[i]?=some m):∃gb o,a=some ⟨gb,o,none⟩/\∀j v,j<7->(rS m.1 m.2 m.1.data.length)[j]?=some v->w.cell? ⟨gb,o+(i*7+j),none⟩=some v:=by have hl:=(lA.1 hi).1;obtain⟨gb,o,ha,hc⟩:=h.cs.at (by rw[qq3];omega);refine⟨gb,o,ha,λj v hj hv=>hc _ v ?_⟩;have:=Hj rT 7 (λ_=>rfl) ms i m j hi hj;unfold dJ;rw[this];unfold rT;rw[qW];exact hv
theorem qwj (g O S:Nat) (gv tv:Value) (la:Option Addr) (ms:List EM) (C D:Array Value) (i:Nat) (m:EM) (kd:Int) (ba:Option Addr) (bc:Nat) (body:List UInt8) (w:World)
  (h:Rb w g O S gv tv la ms C D) (hi:ms[i]?=some m) (hb:lib.Rd w ba bc body) (bK:body.length<=140737488355200) (hp:obj.Pw w) :
  Calls Tryz.prog 79 #[.pointer (some ⟨g,0,none⟩),.int .i64 i,.int .i64 kd,.slice ba body.length bc] w λe w'=>e = .returned (.tuple #[])/\Fr [O] w w'/\
   ∃C',Rb w' g O S gv tv la ms C' D/\(∀j,j<i*5\/i*5+5<=j->C'[j]?=C[j]?)/\(∀j v,(dG (whole m.1 kd body) ba bc)[j]?=some v->C'[i*5+j]?=some v):=by
 obtain⟨n,hn⟩:=ah ms.length;have dz:i<n:=by rw[hn];exact (lA.1 hi).1
 have lW:n<=4096:=by rw[hn];exact h.few
 have b0:=cell_of h.box 0;have b1:=cell_of h.box 1;simp only[bw,aV,bN]at b0 b1;rw[<-hn]at b0 b1;obtain⟨gb,o,rfl,hce⟩:=h.ents.cell hi;have e1:=hce 1 _ (by decide) (show _=some (.int .i64 (m.1.at_:Nat)) from rfl);have e3:=hce 3 _ (by decide) (show _=some (.int .u32 (m.1.crc:Nat)) from rfl);have hid:=λw' (f:Fr [] w w')=>obj.QO kd ba bc body w' (hb.fr f) bK (hp.fr f)
 obtain⟨bl,tG⟩:=ah body.length;obtain⟨X,hX⟩:=ah (str (pQ kd body));rw[<-hX,<-tG]at hid;rw[<-uy]at e1 e3;have OD:g∉[O]:=by simp;exact h.gO
 have SQ:gb∉[O]:=by simp;exact (h.offl gb (by simp[ae])).1
 have s0:∀x,(sup [O] w.drew x).cell? ⟨g,0,none⟩=some (.slice (some ⟨gb,o,none⟩) n n):=λx=>(dk [O] w.drew x).cell (show w.drew.cell? _=_ from b0) OD
 have s1:∀x,(sup [O] w.drew x).cell? ⟨g,1,none⟩=some (.slice (some ⟨O,0,none⟩) n n):=λx=>(dk [O] w.drew x).cell (show w.drew.cell? _=_ from b1) OD
 have t1:∀x,(sup [O] w.drew x).cell? ⟨gb,o+i*7+1,none⟩=some (.int .i64 (m.1.at_:Nat)):=λx=>(dk [O] w.drew x).cell (show w.drew.cell? _=_ from e1) SQ
 have t3:∀x,(sup [O] w.drew x).cell? ⟨gb,o+i*7+3,none⟩=some (.int .u32 (m.1.crc:Nat)):=λx=>(dk [O] w.drew x).cell (show w.drew.cell? _=_ from e3) SQ
 rw[<-tG];have H:=aP h hn hid hX tG;clear h hn hid hX tG hce e1 e3 b0 b1 hb hp hi bK;go_enter Tryz.func79,Tryz.ntmps79;refine jh 29 [(false,0),(false,1),(false,2),(false,3),(false,4),(false,5),(false,6),(false,7),(false,8),(false,10),(false,11),(false,12),(false,13),(false,14),(false,15),(false,16),(false,17),(false,18),(false,19),(false,20),(false,21),(false,22),(false,23),(false,24),(false,25),(true,9),(true,26),(false,27),(true,28)] [O] (by kernel_rfl) (by kernel_rfl) (λ_ _ d _ _ h=>by cases d<;>exact h) ?_;simp only[iw];refine cS 25 rfl ?_;simp only[aU];repeat (go_big_quiet_step (fail))
 refine wpQuiet_nil ?_;clear s0 s1 t1 t3;refine ep rfl ?_;intro X1 mX;go_wp2_with (go_at_call 63;refine (H.o2 _ (Fr.av [] w)).mono ?_;rintro e w2 ⟨rfl,f2⟩);refine mX.out _ _ (f2.mono (by simp)) ?_;clear mX X1;have HF:=af ((Fr.av [] w).trans f2);clear f2;refine ep rfl ?_;intro X1 mX;go_wp2;refine mX.out _ _ (Fr.refl _ _) ?_;clear mX X1;refine cS 1 rfl ?_;simp only[aU];repeat (go_big_quiet_step (fail))
 refine wpQuiet_nil ?_;have Sy:=HF.out.ae H.o0.ob (by simp);have cF:i*5+5<=C.size:=by rw[H.o0.oc,<-H.o1];omega
 have HO:=ak Sy cF;clear Sy cF;refine ep rfl ?_;intro X1 mX;refine wp_store_mid 34 (.tmp 35) (.tmp 34) rfl O (i*5) #[.int .i64 kd,.slice ba bl bc,.string X,.int .i64 (m.1.at_:Nat),.int .u32 (m.1.crc:Nat)] rfl rfl (qs9 HO.out.1 (i*5) 5 HO.out.2) gL (by kernel_rfl) ?_;simp only[Act.put,mC,nC,mB];have fS:Fr [O] w2 (w2.setCells O (i*5) (#[.int .i64 kd,.slice ba bl bc,.string X,.int .i64 (m.1.at_:Nat),.int .u32 (m.1.crc:Nat)]:Array Value).toList):=Fr.setCells (by simp) _ _ (Fr.refl [O] w2);obtain⟨C',h1,h2,h3,h4⟩:=V9 (#[.int .i64 kd,.slice ba bl bc,.string X,.int .i64 (m.1.at_:Nat),.int .u32 (m.1.crc:Nat)]:Array Value).toList (i*5) w2 C HO.out.1;refine mX.out _ _ fS ?_;clear mX X1;have HS:=aP fS h1 h2 h3 h4;clear fS h1 h2 h3 h4;refine fE ?_;go_wp2;go_end0;obtain⟨fS,h1,h2,h3,h4⟩:=HS.out;refine⟨rfl,(HF.out.mono (by simp)).trans fS,C',(H.o0.fr HF.out).TD fS h1 h2,λj hj=>h3 j (by simpa using hj),λj v hv=>h4 j v ?_ ?_⟩
 ·have e1:(dG (whole m.1 kd body) ba bc)=#[.int .i64 kd,.slice ba bl bc,.string X,.int .i64 (m.1.at_:Nat),.int .u32 (m.1.crc:Nat)]:=by unfold dG whole;rw[H.o3,H.l4]
  rw[e1]at hv;rw[<-qW]at hv;exact hv
 ·have:j<5:=(FE.1 hv).1;have:=HO.out.2;omega
theorem qwd:ax Tryz.prog 27 34 (.agg #[.int .i64 0,.slice none 0 0,.string ⟨#[]⟩,.int .i64 0,.int .u32 0]) 5 64:=ax.of Tryz.underlying27 (by kernel_rfl) rfl (by decide)
abbrev OM:=Obj×Option Addr×Nat
def oL (m:OM):List Value:=(dG m.1 m.2.1 m.2.2).toList
theorem ZT (m:OM):∀u∈oL m,u.oneCell'=true:=by intro u hu;simp only[oL,dG,gw,v7,or_false]at hu;rcases hu with rfl|rfl|rfl|rfl|rfl<;>rfl
end pk
namespace delta
open Go Go.RowKit lib bm
theorem aq:ax Tryz.prog 23 5 (.int .u8 0) 1 1:=ax.of Tryz.underlying23 (by kernel_rfl) rfl (by decide)
theorem jQ (bs:List UInt8):∀u∈bs.map bv,u.oneCell'=true:=by intro u hu;obtain⟨b,_,rfl⟩:=jR.1 hu;rfl
theorem Q0:∀(k n:Nat),n<128^(k+1)->(gJ n).length<=k+1
 | 0,n,h=>by rw[VN (by simp at h;omega)];simp
 | k+1,n,h=>by
  by_cases hn:n<=127
  ·rw[VN hn];simp
  ·rw[qtq (by omega),cQ];have:=Q0 k (n/128) ((Hz (by decide)).2 (by rw[nE,<-AH];exact h));omega
theorem MZ (n:Nat):bits .or .u8 ((n:Int)%256) 128=(((UInt8.ofNat (n%128+128)).toNat:Nat):Int):=by
 have h:∀x:Fin 256,bits .or .u8 (x.1:Int) 128=((x.1%128+128:Nat):Int):=by decide +kernel
 have e:=h ⟨n%256,by omega⟩;simp only at e;rw[Dq (by omega),show (n:Int)%256=((n%256:Nat):Int) from by omega,e];omega
structure Nb (w wr:World) (n0 n:Nat) (a:Option Addr) (c:Nat) (out:List UInt8):Prop where
 own:wr.ownsRow 0 5 1 (.slice a out.length c) out.length (out.map bv)
 fr:Fr [] w wr
 new:∀x∈ae a,w.heap.size<=x
 all:out++gJ n=gJ n0
theorem zaz (w:World) (n:Nat):Nb w w n n none 0 []:=⟨v8 _ _ _ _,Fr.refl _ _,by simp[ae],rfl⟩
theorem Nb.step {w wr w1 w2:World} {n0 n n':Nat} {a a2:Option Addr} {c c2:Nat} {out:List UInt8} {x:UInt8} (h:Nb w wr n0 n a c out) (f:Fr [] wr w1) (A:aW w1 w2 5 1 (ae a) a2 (out.length+1) c2 (out.map bv++[bv x])) :
  w2.ownsRow 0 5 1 (.slice a2 (out++[x]).length c2) (out++[x]).length ((out++[x]).map bv)/\Fr [] w w2/\∀y∈ae a2,w.heap.size<=y:=by
 refine⟨by rw[aK,gB];exact A.own,(h.fr.trans f).step A.fr λy hy=>.inr (h.new y hy),λy hy=>?_⟩;rcases A.at_ y hy with h1|h1
 ·exact h.new y h1
 ·have:=(h.fr.trans f).size;omega
theorem quy (n:Int) (w:World) (hn:n<=9223372036854775807):Calls Tryz.prog 97 #[.int .i64 n] w (aD w (gJ n.toNat)):=by
 obtain⟨n0,qg⟩:=ah n.toNat;have hm:((n0:Nat):Int)=if 0>n then 0 else n:=by rw[qg];split<;>omega
 have aY:n0<=9223372036854775807:=by omega
 have hl9:=Q0 8 n0 (Az aY (by decide));have HM:=af hm;rw[<-qg];clear hm qg;go_enter Tryz.func97,Tryz.ntmps97;go_upto_block 0 with (refine Fy (n0:Int) rfl _ _ _ rfl n 0 rfl rfl HM.out ?_);go_cut [0,3] from 6 to 16 (λs0 s3 wz=>∃n a c out,s0 = .int .i64 (n:Nat)/\s3 = .slice a out.length c/\n<=127/\Nb w wz n0 n a c out)
 case first=>
  go_wp2;go_loopg [0,3] n0 (λk s0 s3 wr=>∃n a c out,s0 = .int .i64 (n:Nat)/\s3 = .slice a out.length c/\n<=k/\n<=9223372036854775807/\Nb w wr n0 n a c out);case atStart=>exact⟨n0,none,0,[],rfl,rfl,aw _,aY,zaz w n0⟩
  case round=>
   obtain⟨m,a,c,out,rfl,rfl,hk,hm9,h⟩:=hrel;have H:=af h;have gD:out.length<=9:=by have:=congrArg List.length h.all;rw[aK]at this;omega
   clear h;by_cases zr:127<m
   ·have ho:=MZ m;obtain⟨x,hx⟩:=ah (UInt8.ofNat (m%128+128));rw[<-hx]at ho;obtain⟨S,hS⟩:=ah (ae a);have HX:=ak hx hS;have f0:Fr [] wr (wr.alloc (.cells #[.int .u8 (x.toNat:Nat)] 5)):=(Fr.refl [] wr).alloc _;have cT:=dr H.out.own f0 (by simp);have cA:Cs (wr.alloc (.cells #[.int .u8 (x.toNat:Nat)] 5)) (some ⟨wr.heap.size,0,none⟩) [bv x]:=ny _ _ _ 5 (bx wr _);have HA:=au cT cA f0;clear cT cA f0 hx hS;go_wp2_with (refine iq aq rfl _ _ rfl (.slice a out.length c) out.length (out.map bv) S rfl (by rw[dw,HX.l1]) HA.out.1 (some ⟨wr.heap.size,0,none⟩) 1 1 [bv x] rfl (by decide) (by simp) HA.out.2.1 (by rfl) (jQ [x]) (by omega) (by unfold maxLen;omega) ?_;intro a2 c2 w2 A1;have xv:=af A1;clear A1);go_roundg (m/128);case measure=>omega
    case rel=>have A1:=xv.out;rw[HX.l1]at A1;obtain⟨h1,h2,h3⟩:=H.out.step (n':=0) HA.out.2.2 A1;refine⟨m/128,a2,c2,out++[x],by go_num,by rw[aK];rfl,aw _,by omega,h1,h2,h3,?_⟩;rw[<-H.out.all,qtq zr,HX.o0,gH];rfl
   ·go_wp2;go_meet;exact⟨m,a,c,out,rfl,rfl,by omega,H.out⟩
 case rest=>
 obtain⟨m,a,c,out,rfl,rfl,hm,h⟩:=hcut;have H:=af h;have aE:=h.all;rw[VN hm]at aE;have gD:out.length+1=(gJ n0).length:=by rw[<-aE];simp
 have im:=af aE;have Xn:out.length<=9:=by omega
 have HOL:=af gD;clear h aE gD;obtain⟨x,hx⟩:=ah (UInt8.ofNat m);have kL:[bv x]=[.int .u8 (m:Int)]:=by unfold bv;rw[hx,Dq (by omega)]
 obtain⟨S,hS⟩:=ah (ae a);have HX:=ak hx hS;have f0:Fr [] wc (wc.alloc (.cells #[.int .u8 (m:Int)] 5)):=(Fr.refl [] wc).alloc _;have cT:=dr H.out.own f0 (by simp);have cA:Cs (wc.alloc (.cells #[.int .u8 (m:Int)] 5)) (some ⟨wc.heap.size,0,none⟩) [bv x]:=by rw[kL];exact ny _ _ _ 5 (bx wc _)
 have HA:=au cT cA f0;clear cT cA f0 hx hS kL;go_wp2_with (refine iq aq rfl _ _ rfl (.slice a out.length c) out.length (out.map bv) S rfl (by rw[dw,HX.l1]) HA.out.1 (some ⟨wc.heap.size,0,none⟩) 1 1 [bv x] rfl (by decide) (by simp) HA.out.2.1 (by rfl) (jQ [x]) (by omega) (by unfold maxLen;omega) ?_;intro a2 c2 w2 A1;have cP:=A1.le;have oP:=A1.max;have xv:=af A1;clear A1);go_ret;have A1:=xv.out;rw[HX.l1]at A1;obtain⟨h1,h2,h3⟩:=H.out.step (n':=0) HA.out.2.2 A1;rw[HX.o0,im.out]at h1;obtain⟨r1,_⟩:=wh h1;rw[HOL.out];exact⟨a2,rfl,⟨r1.cs,aw _,bS r1.le r1.max,λe=>by have:=r1.nil e;have:=r1.le;omega⟩,λy hy=>⟨h3 y hy,qR h1 (pI hy)⟩,h2⟩
theorem Ce (c:UInt8):bits .and .u8 ((c.toNat:Nat):Int) 127=((c.toNat%128:Nat):Int):=by
 have h:∀x:Fin 256,bits .and .u8 (x.1:Int) 127=((x.1%128:Nat):Int):=by decide +kernel
 exact h ⟨c.toNat,iB c⟩
theorem ZU (v x k:Nat) (hv:v<2^k) (hx:x*2^k<9223372036854775808) (hk:k<=62):bits .or .i64 (v:Int) ((x*2^k:Nat):Int)=((v+x*2^k:Nat):Int):=by
 have h1:=Co k 62 hk;have JG:2^62=4611686018427387904:=by decide
 rw[JG]at h1;rw[ML _ _ (by omega) hx,E9 v x k hv,nE]
theorem qxb (n x i:Nat) (hi:i<5) (hn:n<128^i) (hx:x<128):∃m,(m=n+x*128^i/\m<128^(i+1))/\m<=34359738367/\bits .or .i64 (n:Int) (wrap64 ((x:Int)*2^(7*i)))=(m:Int):=by
 have hp:2^(7*i)=128^i:=by rw[Nat.pow_mul]
 have h4:128^i<=128^4:=kr (by decide) (by omega);have e4:128^4=268435456:=by decide
 have jo:0<128^i:=Nat.pow_pos (by decide);have h1:x*128^i<=127*128^i:=uz _ (by omega);have h5:=AH i;refine⟨n+x*128^i,⟨rfl,by omega⟩,by omega,?_⟩;have e:wrap64 ((x:Int)*2^(7*i))=((x*2^(7*i):Nat):Int):=by
  have:(x:Int)*2^(7*i)=((x*2^(7*i):Nat):Int):=by rw[Cz,Ao];rfl
  rw[this,hp];generalize x*128^i=y at *;simp only[wrap64];omega
 rw[e,ZU n x (7*i) (by rw[hp];exact hn) (by rw[hp];omega) (by omega),hp]
def nk (w:World) (d:List UInt8) (e:Ending) (w':World):Prop:=
 ∃a c,e = .returned (.tuple #[.int .i64 (delta.rd d).1,.slice a (delta.rd d).2.1.length c,.int .i64 (delta.rd d).2.2])/\Rd w' a c (delta.rd d).2.1/\Fr [] w w'
theorem RN {w w':World} {d r:List UInt8} {n x:Nat} {a:Option Addr} {c:Nat} (h:delta.rd d=(n,r,x)) (hr:Rd w' a c r) (f:Fr [] w w'):nk w d (.returned (.tuple #[.int .i64 n,.slice a r.length c,.int .i64 x])) w':=by unfold nk;rw[h];exact⟨a,c,rfl,hr,f⟩
theorem qmf (a:Option Addr) (cap:Nat) (d:List UInt8) (w:World) (h:Rd w a cap d):Calls Tryz.prog 169 #[.slice a d.length cap] w (nk w d):=by
 have hle:=h.le;have dv:=h.max;unfold maxLen at dv;have H:=af h;clear h;go_enter Tryz.func169,Tryz.ntmps169;go_wp2;go_loopg [2,5,6] 5 (λk s2 s5 s6 wr=>∃i n,i+k=5/\s6 = .int .i64 (i:Nat)/\s2 = .int .i64 (n:Nat)/\i<=d.length/\n<128^i/\yF k i n (d.drop i)=delta.rd d/\Fr [] w wr);case atStart=>exact⟨0,0,rfl,rfl,rfl,dZ _,by decide,rfl,Fr.refl _ _⟩
 case round=>
  obtain⟨i,n,hi,rfl,rfl,eC,hn,bP,dU⟩:=hrel;have F:=af dU;clear dU;by_cases Lj:i<5
  ·obtain⟨k,rfl⟩:∃k,gk=k+1:=⟨gk-1,by omega⟩;by_cases hid:i<d.length
   ·obtain⟨g,o,rfl,hc⟩:=H.out.at hid;have c0:=F.out.cell hc (by simp);obtain⟨c,kv⟩:=ah (d[i]);rw[<-kv]at c0;have hdr:d.drop i=c::d.drop (i+1):=by rw[AF hid,kv]
    rw[hdr,yF]at bP;have ha:=Ce c;have kK:=iB c;obtain⟨x,hx⟩:=ah (c.toNat%128);rw[<-hx]at ha bP;have Nu:x<128:=by omega
    generalize c.toNat=cn at *;have HX:=au hx kv hdr;clear hx kv hdr hc;have zD:=af bP;clear bP;obtain⟨m,hm,zbI,uS⟩:=qxb n x i Lj hn Nu;have HM:=af hm;rw[<-hm.1]at zD;have hsl:=λw=>KL aq (i+1) (some ⟨g,o,none⟩) d.length cap ((i:Int)+1) (by omega) (by omega) hle w
    clear hm hn;by_cases h128:cn<128
    ·have bP:=zD.out;rw[if_pos h128]at bP;by_cases lY:2147483647<m
     ·rw[if_pos lY]at bP;have HD:=af bP;clear bP hsl;go_wp2;go_ret3;exact RN (r:=[]) HD.out.symm (Rd.none _) F.out
     ·rw[if_neg lY]at bP;have HD:=af bP;clear bP;go_upto_region 10 with fail;go_quiet (fail);clear hsl;go_wp2;go_ret3;have hl:(d.drop (i+1)).length=d.length-(i+1):=by simp
      have h:=λ(wz:World) (f:Fr [] wr wz)=>RN HD.out.symm ((H.out.fr (F.out.trans f)).drop (i+1) (by omega)) (F.out.trans f)
      simp only[hl]at h;exact h _ (Fr.drewN [] wr _)
    ·have bP:=zD.out;rw[if_neg h128]at bP;have HD:=af bP;clear bP hsl;go_wp2;go_roundg k;case measure=>omega
     case rel=>exact⟨i+1,m,by omega,by go_num,rfl,by omega,HM.out.2,HD.out,F.out⟩
   ·have hd:delta.rd d=(0,[],4):=by rw[<-bP,CK (by omega)];rfl
    have HD:=af hd;clear hd bP hn;go_wp2;go_ret3;exact RN (r:=[]) HD.out (Rd.none _) F.out
  ·obtain rfl:i=5:=by omega
   obtain rfl:gk=0:=by omega
   have HD:=af bP;clear bP hn;go_wp2;go_ret3;exact RN (r:=[]) (by rw[<-HD.out];rfl) (Rd.none _) F.out
theorem KM {fn:Func} {t u v x:Tmp} (h:fn.results=#[.tmp t,.tmp u,.tmp v,.tmp x]) (tmps:Array Value) (P:Program) (w:World) :
  (results fn tmps).run P w = .ok (.tuple #[tmps.getD t undef,tmps.getD u undef,tmps.getD v undef,tmps.getD x undef]) w:=by
 simp[results,h]
def tM (w:World) (d:List UInt8) (e:Ending) (w':World):Prop:=
 ∃a c,e = .returned (.tuple #[.int .i64 (delta.sizes d).1,.int .i64 (delta.sizes d).2.1,.slice a (delta.sizes d).2.2.1.length c,.int .i64 (delta.sizes d).2.2.2])/\Rd w' a c (delta.sizes d).2.2.1/\Fr [] w w'
theorem UQ {w w':World} {d r:List UInt8} {n m x:Nat} {a:Option Addr} {c:Nat} (h:delta.sizes d=(n,m,r,x)) (hr:Rd w' a c r) (f:Fr [] w w'):tM w d (.returned (.tuple #[.int .i64 n,.int .i64 m,.slice a r.length c,.int .i64 x])) w':=by unfold tM;rw[h];exact⟨a,c,rfl,hr,f⟩
theorem qwh (a:Option Addr) (cap:Nat) (d:List UInt8) (w:World) (h:Rd w a cap d):Calls Tryz.prog 137 #[.slice a d.length cap] w (tM w d):=by
 have h1:=qmf a cap d w h;have hs:∀x y,delta.rd d=x->delta.rd x.2.1=y->delta.sizes d=if x.2.2=0 then (if y.2.2=0 then (x.1,y.1,y.2.1,0) else (0,0,[],y.2.2)) else (0,0,[],x.2.2):=by rintro x y rfl rfl;rfl
 have h2:=λa c w=>qmf a c (delta.rd d).2.1 w
 unfold nk at h1 h2;obtain⟨x,hx⟩:∃x,delta.rd d=x:=⟨_,rfl⟩;obtain⟨y,hy⟩:∃y,delta.rd x.2.1=y:=⟨_,rfl⟩;have cF:=hs x y hx hy;rw[hx]at h1 h2;rw[hy]at h2;obtain⟨n,r,e⟩:=x;obtain⟨m,s,e2⟩:=y;simp only at h1 h2 cF;have H:=ak h1 h2;clear h1 h2 hs hx hy h;by_cases he:e=0
 ·subst he;rw[if_pos rfl]at cF;by_cases Gk:e2=0
  ·subst Gk;rw[if_pos rfl]at cF;have HS:=af cF;clear cF;have pE:True:=trivial;go_enter Tryz.func137,Tryz.ntmps137;go_wp2_with (first|(go_at_call 169;have _t:=pE;refine H.o0.mono ?_;rintro e1 w1 ⟨a1,c1,rfl,r1,f1⟩;have H1:=ak r1 f1;clear r1 f1 pE _t)|(go_at_call 169;refine (H.l1 a1 c1 _ H1.o0).mono ?_;rintro e2 w2 ⟨a2,c2,rfl,r2,f2⟩;have H2:=ak r2 (H1.l1.trans f2);clear r2 f2));refine bodyPost_ret (KM rfl _ _ _) rfl ?_;exact UQ HS.out H2.o0 H2.l1
  ·rw[if_neg Gk]at cF;have HS:=af cF;have hb:((e2:Int)==0)=false:=by simp;omega
   have jY:((e2:Int)!=0)=true:=by simp;omega
   clear cF Gk;have pE:True:=trivial;go_enter Tryz.func137,Tryz.ntmps137;go_wp2_with (first|(go_at_call 169;have _t:=pE;refine H.o0.mono ?_;rintro e1 w1 ⟨a1,c1,rfl,r1,f1⟩;have H1:=ak r1 f1;clear r1 f1 pE _t)|(go_at_call 169;refine (H.l1 a1 c1 _ H1.o0).mono ?_;rintro e2 w2 ⟨a2,c2,rfl,r2,f2⟩;have H2:=ak r2 (H1.l1.trans f2);clear r2 f2));refine bodyPost_ret (KM rfl _ _ _) rfl ?_;exact UQ (n:=0) (m:=0) (r:=[]) HS.out (Rd.none _) H2.l1
 ·rw[if_neg he]at cF;have HS:=af cF;have hb:((e:Int)==0)=false:=by simp;omega
  have jY:((e:Int)!=0)=true:=by simp;omega
  clear cF he;go_enter Tryz.func137,Tryz.ntmps137;go_wp2_with (go_at_call 169;refine H.o0.mono ?_;rintro e1 w1 ⟨a1,c1,rfl,r1,f1⟩;have H1:=ak r1 f1;clear r1 f1);refine bodyPost_ret (KM rfl _ _ _) rfl ?_;exact UQ (n:=0) (m:=0) (r:=[]) HS.out (Rd.none _) H1.l1
end delta

end Go.Proofs.YtkmpfgpfbmeihaaGreatDoor