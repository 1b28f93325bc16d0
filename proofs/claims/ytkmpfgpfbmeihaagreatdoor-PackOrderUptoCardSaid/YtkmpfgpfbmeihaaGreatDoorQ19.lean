/-
  Texts of this proof, one behind the other: Itoa, OwnB, RShaLaw, Sha2, ObjId, RsSet, OmRow, DeltaNum.
-/
import Derived.Test.YtkmpfgpfbmeihaaGreatDoorQ18
import Derived.Shelf.LaysM
import Derived.Shelf.Strconv.Itoa3
import Derived.Test.YtkmpfgpfbmeihaaGreatDoorProg
import Derived.Laws.CopyRow
set_option maxHeartbeats 16000000
set_option maxRecDepth 100000
set_option linter.unusedVariables false
set_option linter.unusedSimpArgs false
namespace Go.Proofs
open Go.Shelf
def Tryz.laysM171_ren:Go.Shelf.Ren:=⟨fun|171=>118|243=>149|246=>181|283=>197|284=>198|285=>199|286=>200|129=>212|317=>211|318=>213|319=>214|320=>215|337=>221|338=>222|n=>n,fun|3=>3|9=>9|2=>2|4=>4|171=>295|0=>0|53=>104|37=>23|5=>5|173=>298|212=>316|51=>32|20=>20|213=>317|46=>67|232=>322|233=>323|n=>n,fun|17=>1|18=>2|19=>3|n=>n⟩
theorem Tryz.laysM171:Go.Proofs.LaysM.n171 Tryz.prog Tryz.laysM171_ren:={
 mixed:=by kernel_rfl
 f129:=Tryz.func212.trans (congrArg some (by kernel_rfl))
 f171:=Tryz.func118.trans (congrArg some (by kernel_rfl))
 f243:=Tryz.func149.trans (congrArg some (by kernel_rfl))
 f246:=Tryz.func181.trans (congrArg some (by kernel_rfl))
 f283:=Tryz.func197.trans (congrArg some (by kernel_rfl))
 f284:=Tryz.func198.trans (congrArg some (by kernel_rfl))
 f285:=Tryz.func199.trans (congrArg some (by kernel_rfl))
 f286:=Tryz.func200.trans (congrArg some (by kernel_rfl))
 f317:=Tryz.func211.trans (congrArg some (by kernel_rfl))
 f318:=Tryz.func213.trans (congrArg some (by kernel_rfl))
 f319:=Tryz.func214.trans (congrArg some (by kernel_rfl))
 f320:=Tryz.func215.trans (congrArg some (by kernel_rfl))
 f337:=Tryz.func221.trans (congrArg some (by kernel_rfl))
 f338:=Tryz.func222.trans (congrArg some (by kernel_rfl))
 t0:=Tryz.underlying0
 a0:=Tryz.isAgg0
 z0:=Tryz.sizeOf0
 v0:=Tryz.zeroValue0
 t2:=Tryz.underlying2
 a2:=Tryz.isAgg2
 z2:=Tryz.sizeOf2
 v2:=Tryz.zeroValue2
 t3:=Tryz.underlying3
 a3:=Tryz.isAgg3
 z3:=Tryz.sizeOf3
 v3:=Tryz.zeroValue3
 t4:=Tryz.underlying4
 a4:=Tryz.isAgg4
 z4:=Tryz.sizeOf4
 v4:=Tryz.zeroValue4
 t5:=Tryz.underlying5
 a5:=Tryz.isAgg5
 z5:=Tryz.sizeOf5
 v5:=Tryz.zeroValue5
 t9:=Tryz.underlying9
 a9:=Tryz.isAgg9
 z9:=Tryz.sizeOf9
 v9:=Tryz.zeroValue9
 t20:=Tryz.underlying20
 a20:=Tryz.isAgg20
 z20:=Tryz.sizeOf20
 v20:=Tryz.zeroValue20
 t37:=Tryz.underlying23
 a37:=Tryz.isAgg23
 z37:=Tryz.sizeOf23
 v37:=Tryz.zeroValue23
 t46:=Tryz.underlying67
 a46:=Tryz.isAgg67
 z46:=Tryz.sizeOf67
 v46:=Tryz.zeroValue67
 t51:=Tryz.underlying32
 a51:=Tryz.isAgg32
 z51:=Tryz.sizeOf32
 v51:=Tryz.zeroValue32
 t53:=Tryz.underlying104
 a53:=Tryz.isAgg104
 z53:=Tryz.sizeOf104
 v53:=Tryz.zeroValue104
 t171:=Tryz.underlying295
 a171:=Tryz.isAgg295
 z171:=Tryz.sizeOf295
 v171:=Tryz.zeroValue295
 t173:=Tryz.underlying298
 a173:=Tryz.isAgg298
 z173:=Tryz.sizeOf298
 v173:=Tryz.zeroValue298
 t212:=Tryz.underlying316
 a212:=Tryz.isAgg316
 z212:=Tryz.sizeOf316
 v212:=Tryz.zeroValue316
 t213:=Tryz.underlying317
 a213:=Tryz.isAgg317
 z213:=Tryz.sizeOf317
 t232:=Tryz.underlying322
 a232:=Tryz.isAgg322
 z232:=Tryz.sizeOf322
 v232:=Tryz.zeroValue322
 t233:=Tryz.underlying323
 a233:=Tryz.isAgg323
 z233:=Tryz.sizeOf323
 v233:=Tryz.zeroValue323
 g17:=by kernel_rfl
 g18:=by kernel_rfl
 g19:=by kernel_rfl
 i0:=by kernel_rfl
 i2:=by kernel_rfl
 i3:=by kernel_rfl
 i4:=by kernel_rfl
 i5:=by kernel_rfl
 i9:=by kernel_rfl
 i20:=by kernel_rfl
 i37:=by kernel_rfl
 i46:=by kernel_rfl
 i51:=by kernel_rfl
 i53:=by kernel_rfl
 i171:=by kernel_rfl
 i173:=by kernel_rfl
 i212:=by kernel_rfl
 i232:=by kernel_rfl
 i233:=by kernel_rfl
 m17:=by kernel_rfl
 m18:=by kernel_rfl
 m19:=by kernel_rfl }
open Go.RowKit Go.Sort Go.Lib in
theorem Tryz.strconv_Itoa (n:Int) (h0 : -9223372036854775808<=n) (h1:n<=9223372036854775807) (w:World) (zu:Lib.TabIs Tryz.prog w "internal/strconv.uint64pow10" .u64 Lib.pow10Tab) :
  Calls Tryz.prog 118 #[.int .i64 n] w λe w'=>e = .returned (.string ⟨(Lib.itoa n).toArray⟩)/\∃k os,w'=grow (w.drewN k) os:=Any.strconv_Itoa Tryz.laysM171 n h0 h1 w zu
end Go.Proofs
namespace Go.Proofs.YtkmpfgpfbmeihaaGreatDoor
namespace obj
open Go Go.RowKit lib
def Pw (w:World):Prop:=Lib.TabIs Tryz.prog w "internal/strconv.uint64pow10" .u64 Lib.pow10Tab
theorem qyr:∃g,Tryz.prog.globalNamed "internal/strconv.uint64pow10" = some g:=Option.isSome_iff_exists.1 (by kernel_rfl)
theorem Pw.fr {w w':World} (h:Pw w) (f:Fr [] w w'):Pw w':=by
 obtain⟨g,hg⟩:=qyr;unfold Pw Lib.TabIs World.var? at h ⊢;rw[hg]at h ⊢;simp only[Option.bind_some]at h ⊢;have bg:g<w.heap.size:=by
  rcases kI g w.heap.size with h'|h'
  ·exact h'
  ·rw[Array.getElem?_eq_none h']at h;cases h
 rw[f.block g bg (by simp)];exact h
theorem zg4 (w:World) (k:Nat) (os:Array Obj):Fr [] w (Go.Sort.grow (w.drewN k) os):=
 ⟨rfl,rfl,rfl,by simp[Go.Sort.grow],λi hi _=>by simp only[Go.Sort.grow];exact Array.getElem?_append_left (show i<(w.drewN k).heap.size from hi)⟩
theorem zdl (n:Nat) (h1:n<=140737488355328) (w:World) (h:Pw w):Calls Tryz.prog 118 #[.int .i64 n] w λe w'=>e = .returned (.string (str (Lib.decDigits n)))/\Fr [] w w':=
 (Go.Proofs.Tryz.strconv_Itoa (n:Int) (by omega) (by omega) w h).mono λe w' hh=>⟨by rw[hh.1];unfold str Lib.itoa;rw[if_neg (by omega)];rfl,by obtain⟨k,os,rfl⟩:=hh.2;exact zg4 w k os⟩
end obj
namespace lib
open Go Go.RowKit
theorem qt1 {w:World} {b:Nat} {c:AV} {t:TypeId} {f:Nat×Nat} (h:w.heap[b]?=some (.cells c t f)) (hf:f=(0,0)\/c.size<=f.1) (o:Nat) (ho:o<c.size):w.frozen? ⟨b,o,none⟩=false:=by
 rcases hf with rfl|hf
 ·exact aW h o
 ·simp[World.frozen?,h];intro h1;omega
section
variable {P : Program}
theorem qgs (g o:Nat) (t:TypeId) (f:Nat×Nat):∀(vs:LV) (i:Nat) (cur:AV) (w:World),w.heap[g]?=some (.cells cur t f)->(f=(0,0)\/cur.size<=f.1)->o+i+vs.length<=cur.size->(∀v∈vs,v.oneCell'=true)->
  (storeCells ⟨g,o,none⟩ vs i).run P w = .ok () (w.setRow g (cur.toList.take (o+i)++vs++cur.toList.drop (o+i+vs.length)).toArray)
 | [],i,cur,w,hg,_,_,_=>by
  simp only[storeCells,mW,kg,ie,Df,Array.toArray_toList];rw[setRow_self w g cur t f hg];rfl
 | v::rest,i,cur,w,hg,hf,hl,h1=>by
  have hi:o+i<cur.size:=by simp at hl;omega
  have Zy:(⟨g,o,none⟩:Addr).add i=⟨g,o+i,none⟩:=by unfold Addr.add;split<;>simp_all
  have hcell:w.cell? ⟨g,o+i,none⟩=some cur[o+i]:=by simp[World.cell?,hg,hi]
  have Y9:w.frozen? ⟨g,o+i,none⟩=false:=qt1 hg hf _ hi;have aH:(store ((⟨g,o,none⟩:Addr).add i) v).run P w = .ok () (w.setRow g (cur.setIfInBounds (o+i) v)):=by rw[Zy,run_store P w _ v _ (h1 v (by simp)),hcell];simp[Y9,setCell_eq_setRow w g (o+i) cur t f v hg]
  have ih:=qgs g o t f rest (i+1) (cur.setIfInBounds (o+i) v) (w.setRow g (cur.setIfInBounds (o+i) v)) (setRow_heap w g cur _ t _ hg) (by rw[rA];exact hf) (by simp at hl ⊢;omega) (λx hx=>h1 x (by simp[hx]));simp only[storeCells,DR,aH,Ia,ih,setRow_setRow];congr 3;have e:=list_seg_step cur.toList (o+i) v rest (by simp at hl ⊢;omega);simpa[Array.toList_setIfInBounds,oW] using e
end
def kB (w:World) (e:TypeId) (a:OA) (cap:Nat) (xs:LV):Prop:=
 (a=none/\cap=0/\xs=[])\/∃g o cur f,a=some ⟨g,o,none⟩/\w.heap[g]?=some (.cells cur e f)/\(f=(0,0)\/cur.size<=f.1)/\xs.length<=cap/\cap<=maxLen/\o+cap<=cur.size/\(cur.toList.drop o).take xs.length=xs
theorem ej.b {w:World} {e:TypeId} {a:OA} {cap:Nat} {xs:LV} (h:ej w e a cap xs):kB w e a cap xs:=by
 rcases h with h|⟨g,o,cur,rfl,hg,r⟩
 ·exact .inl h
 ·exact .inr ⟨g,o,cur,_,rfl,hg,.inl rfl,r⟩
theorem kB.shape {w:World} {e:TypeId} {a:OA} {cap:Nat} {xs:LV} (h:kB w e a cap xs):xs.length<=cap/\cap<=maxLen/\(a=none->cap=0):=by
 rcases h with⟨_,rfl,rfl⟩|⟨g,o,cur,f,rfl,_,_,h1,h2,_⟩
 ·exact⟨ay _,ep _,λ_=>rfl⟩
 ·exact⟨h1,h2,λh=>by cases h⟩
theorem kB.cs {w:World} {e:TypeId} {a:OA} {cap:Nat} {xs:LV} (h:kB w e a cap xs):Cs w a xs:=by
 rcases h with⟨_,_,rfl⟩|⟨g,o,cur,f,rfl,hg,_,h1,h2,h3,h4⟩
 ·exact .inl rfl
 ·refine .inr ⟨g,o,rfl,λj v hv=>?_⟩;rw[cell_of hg,<-oY];rw[<-h4,oX]at hv;split at hv
  ·simpa using hv
  ·cases hv
theorem kB.fr {S:LN} {w w':World} {e:TypeId} {a:OA} {cap:Nat} {xs:LV} (h:kB w e a cap xs) (f:Fr S w w') (hn:∀x∈af a,x∉S):kB w' e a cap xs:=by
 rcases h with h|⟨g,o,cur,z,rfl,hg,r⟩
 ·exact .inl h
 ·exact .inr ⟨g,o,cur,z,rfl,f.af hg (hn g (by simp[af])),r⟩
theorem kB.lt {w:World} {e:TypeId} {a:OA} {cap:Nat} {xs:LV} (h:kB w e a cap xs):∀x∈af a,x<w.heap.size:=by
 rcases h with⟨rfl,_⟩|⟨g,o,cur,f,rfl,hg,r⟩
 ·simp[af]
 ·intro x hx;simp[af]at hx;rw[hx];exact lt_of_block hg
theorem kB.rd {w:World} {e:TypeId} {a:OA} {cap:Nat} {bs:LB} (h:kB w e a cap (bs.map bv)):Rd w a cap bs:=by obtain⟨h1,h2,h3⟩:=h.shape;exact⟨h.cs,by simpa using h1,h2,h3⟩
section
variable {P : Program} {w : World} {t e : TypeId} {z : Value} {bytes : Nat}
structure G9 (w w':World) (e:TypeId) (a a':OA) (aS:Nat) (xs:LV):Prop where
 own:kB w' e a' aS xs
 fr:Fr (af a) w w'
 at_:∀x∈af a',x∈af a\/w.heap.size<=x
theorem qrc (T:az P t e z 1 bytes) (ty:TypeId) (a:OA) (n cap:Nat) (xs:LV) (aI:kB w e a cap xs) (hn:xs.length=n)
  (ao:OA) (m c:Nat) (news:LV) (rC:m<=c) (cz:ao=none->c=0) (hc:Cs w ao news) (hl:news.length=m) (h1:∀u∈news,u.oneCell'=true)
  (kA:(n+m)*bytes<=140737488355328) (oR:n+m<=maxLen) :
  ∃a' aS w',(Builtin.append_ #[t,t] ty #[.slice a n cap,.slice ao m c]).run P w = .ok (.slice a' (n+m) aS) w'/\G9 w w' e a a' aS (xs++news):=by
 subst hn;have hcs:=aI.cs;rcases aI with⟨rfl,rfl,rfl⟩|⟨g,o,cur,f,rfl,hg,kf,k1,k2,k3,k4⟩
 ·obtain⟨a',aS,w',hr,A⟩:=qi8 (P:=P) T ty none 0 0 [] (ej.nil w e) rfl ao m c news rC cz hc hl h1 (by simpa using kA) (by simpa using oR);exact⟨a',aS,w',hr,A.own.b,A.fr,A.at_⟩
 ·by_cases xu:m=0
  ·subst xu;obtain rfl:news=[]:=wN hl;obtain⟨hu,⟨i,hi,hz,hs,Cf⟩,uv,hp⟩:=T;refine⟨some ⟨g,o,none⟩,cap,w,?_,by rw[mW];exact .inr ⟨g,o,cur,f,rfl,hg,kf,k1,k2,k3,k4⟩,Fr.refl _ _,λx hx=>.inl hx⟩;cases ao with
   | none=>
    have bZ:=cz rfl;simp[Builtin.append_,run_underlying hu,sizeOf,typeInfo,hi,Builtin.lenOf,k1,Builtin.firstCells,storeCells]
   | some b=>have hf:=run_firstCells_some (P:=P) w i.size 0 b 0 c [] (by simp) (by simp);simp[Builtin.append_,run_underlying hu,sizeOf,typeInfo,hi,Builtin.lenOf,k1,hf,storeCells]
  ·by_cases hroom:xs.length+m<=cap
   ·obtain⟨hu,⟨i,hi,hz,hs,Cf⟩,uv,hp⟩:=T;obtain⟨g',o',rfl,kQ⟩:=hc.at (by omega);have xq:=UU kQ;have hf:=run_firstCells_some (P:=P) w i.size m ⟨g',o',none⟩ m c news (by rw[hs];omega) xq;have aH:=qgs (P:=P) g (o+xs.length*i.size) e f news 0 cur w hg kf (by rw[hs];omega) h1;simp only[ie]at aH;refine⟨some ⟨g,o,none⟩,cap,_,?_,⟨.inr ⟨g,o,_,f,rfl,setRow_heap w g cur (cur.toList.take (o+xs.length*i.size)++news++cur.toList.drop (o+xs.length*i.size+news.length)).toArray e f hg,?_,by rw[aA,hl];exact hroom,k2,?_,?_⟩,⟨rfl,rfl,rfl,by simp,λk _ hk=>setRow_other w g k _ (λe=>hk (by simp[af,e]))⟩,λx hx=>.inl hx⟩⟩
    ·simp[Builtin.append_,run_underlying hu,sizeOf,typeInfo,hi,Builtin.lenOf,hroom,hf,Addr.add_lit,aH]
    ·refine kf.imp id λk=>?_
     simp only[List.size_toArray,aA,dU,eV,Lc,hs];omega
    ·simp only[List.size_toArray,aA,dU,eV,Lc,hs];omega
    ·simp only[hs,pI];rw[NI (by simp;omega),NI (by simp;omega),List.drop_take,Nat.add_sub_cancel_left,k4,aA,hl];rw[IG (by simp[hl]),mL (by simp[hl])]
   ·obtain⟨aS,w',hr,A⟩:=XB (P:=P) T ty (some ⟨g,o,none⟩) xs.length cap xs hcs (by omega) k1 (by simp) ao m c news hc (by omega) (by omega) kA oR;obtain⟨o1,_⟩:=SG A.own;exact⟨_,aS,w',hr,o1.b,A.fr.mono (by simp),λx hx=>.inr (Nat.le_of_eq (by have:=A.at_ x hx;simp at this;exact this.symm))⟩
theorem XC (T:az P t e z 1 bytes) {ops:Array Oper} {rest:List Oper} {o:Oper} {A:Act} {Q:Exit->Act->World->Prop} (oe:o.guard=none) (s x:Operand)
  (ho:o.op = .call { callee:=.builtin .append,args:=#[s,x],argTypes:=#[t,t] })
  (a:OA) (n cap:Nat) (xs:LV) (hs:A.eval s = .slice a n cap) (aI:kB w e a cap xs) (hn:xs.length=n)
  (ao:OA) (m c:Nat) (news:LV) (hx:A.eval x = .slice ao m c) (rC:m<=c) (cz:ao=none->c=0) (hc:Cs w ao news) (hl:news.length=m) (h1:∀u∈news,u.oneCell'=true)
  (kA:(n+m)*bytes<=140737488355328) (oR:n+m<=maxLen)
  (h:∀a' aS w',G9 w w' e a a' aS (xs++news)->wpList P ops Q rest (A.put o.dst (.slice a' (n+m) aS)) w'):wpList P ops Q (o::rest) A w:=
 wpList_plain oe λ_ hK=>by obtain⟨a',aS,w',hr,h2⟩:=qrc (P:=P) T o.type a n cap xs aI hn ao m c news rC cz hc hl h1 kA oR;unfold Oper.wp execOp;simp only[ho,resolve,invoke,builtin,DR,Sem.run_pure,Ia,List.map_toArray,gX,qq,hs,hx,hr];exact hK _ _ (h a' aS w' h2)
theorem qh3 {ops:Array Oper} {rest:List Oper} {o:Oper} {a:Act} {Q:Exit->Act->World->Prop} {src dst:TypeId} (hs:P.underlying src=some .string) (hd:P.underlying dst=some (.slice e)) (he:P.underlying e=some (.int .u8))
  (oe:o.guard=none) (x:Operand) (ho:o.op = .convert src dst x) (bs:LB) (hx:a.eval x = .string (str bs)) (hm:bs.length<=maxLen)
  (h:∀cap w',bs.length<=cap->kB w' e (some ⟨w.heap.size,0,none⟩) cap (bs.map bv)->Fr [] w w'->w.heap.size<w'.heap.size->wpList P ops Q rest (a.put o.dst (.slice (some ⟨w.heap.size,0,none⟩) bs.length cap)) w'):wpList P ops Q (o::rest) a w:=by
 have hr:=run_bytes_of_string (P:=P) w src dst e (str bs) hs hd he;have cV:(str bs).size=bs.length:=by simp[str,ByteArray.size]
 rw[cV]at hr;have h1:=grownCap_ge w bs.length 0 e;have h2:=grownCap_le_maxLen w bs.length 0 e hm;generalize grownCap w bs.length 0 e=cap at *;refine wpList_plain oe λK hK=>?_
 unfold Oper.wp execOp;simp only[ho,hx,DR,Ia,Sem.run_pure,hr];have hb:=bC w.drew (.cells (bytesRow (str bs) cap) e ((bytesRow (str bs) cap).size,(bytesRow (str bs) cap).size+1));have eF:(bytesRow (str bs) cap).toList.take bs.length=bs.map bv/\(bytesRow (str bs) cap).size=cap:=by
  constructor
  ·unfold bytesRow;rw[Array.toList_append,IG (by simp[str]),mL (by simp[str])];simp[str,bv]
  ·unfold bytesRow;simp;omega
 refine hK _ _ (h cap _ h1 (.inr ⟨w.heap.size,0,_,_,rfl,hb,.inr (ay _),by simpa using h1,h2,by rw[eF.2];omega,?_⟩) ((Fr.av [] w).alloc _) (by rw[fD];exact Nat.lt_succ_self _));rw[yf,bW];exact eF.1
end
end lib
namespace sha
open Go Go.RowKit lib bm
theorem zb0 (p q:LB) (i:Nat) (h:i+3<p.length):word (p++q) i=word p i:=by unfold word;rw[rO (by omega),rO (by omega),rO (by omega),rO (by omega)]
theorem qrb (p q:LB) (h:64<=p.length):∀t,sched (p++q) t=sched p t
 | 0=>rfl
 | t+1=>by
  have e:∀x,sched x (t+1)=sched x t++[if t<16 then word x (4*t) else Hp (bits .xor .u32 (bits .xor .u32 (bits .xor .u32 ((sched x t)[t-3]?.getD 0) ((sched x t)[t-8]?.getD 0)) ((sched x t)[t-14]?.getD 0)) ((sched x t)[t-16]?.getD 0)) 1]:=λ_=>rfl
  refine (e _).trans (Eq.trans ?_ (e _).symm);have ih:=qrb p q h t;generalize sched (p++q) t=a at *;subst ih;refine congrArg (λz=>sched p t++[z]) ?_;by_cases ht:t<16
  ·rw[if_pos ht,if_pos ht];exact zb0 p q _ (by omega)
  ·rw[if_neg ht,if_neg ht]
theorem qyj (p q:LB) (h:64<=p.length) (t:Nat) (s:H5):round (p++q) t s=round p t s:=by unfold round;rw[qrb p q h]
theorem qou (p q:LB) (h:64<=p.length) (s:H5):∀t,rounds (p++q) t s=rounds p t s
 | 0=>rfl
 | t+1=>by rw[rounds,rounds,qou p q h s t,qyj p q h]
theorem zda (p q:LB) (h:64<=p.length) (s:H5):kr s (p++q)=kr s p:=by unfold kr;rw[qou p q h]
theorem SZ:∀(f g:Nat) (h:H5) (p:LB),p.length<=f->p.length<=g->blocks f h p=blocks g h p
 | 0,0,h,p,_,_=>rfl
 | 0,g+1,h,p,h1,_=>by rw[blocks,blocks,if_neg (by omega)]
 | f+1,0,h,p,_,h2=>by rw[blocks,blocks,if_neg (by omega)]
 | f+1,g+1,h,p,h1,h2=>by
  rw[blocks,blocks];split
  ·exact SZ f g _ _ (by rw[eV];omega) (by rw[eV];omega)
  ·rfl
theorem S7:∀(f F:Nat) (h:H5) (p q:LB),p.length<=f->(p++q).length<=F->blocks F h (p++q)=blocks (leftOf f p++q).length (blocks f h p) (leftOf f p++q)
 | 0,F,h,p,q,h1,h2=>by
  rw[leftOf,blocks];exact SZ _ _ _ _ h2 (ay _)
 | f+1,F,h,p,q,h1,h2=>by
  by_cases pN:64<=p.length
  ·rw[leftOf,if_pos pN,show blocks (f+1) h p=blocks f (kr h p) (p.drop 64) by rw[blocks,if_pos pN]];obtain⟨F',rfl⟩:∃F',F=F'+1:=⟨F-1,by rw[aA]at h2;omega⟩;rw[blocks,if_pos (by rw[aA];omega),zda p q pN,NI pN];exact S7 f F' _ _ q (by rw[eV];omega) (by rw[aA,eV];rw[aA]at h2;omega)
  ·rw[leftOf,if_neg pN,show blocks (f+1) h p=h by rw[blocks,if_neg pN]];exact SZ _ _ _ _ h2 (ay _)
theorem SC:∀(f:Nat) (p:LB),(leftOf f p).length%64=p.length%64
 | 0,p=>by rw[leftOf]
 | f+1,p=>by
  rw[leftOf];split
  ·rw[SC f,eV];omega
  ·rfl
theorem qlp (s:LB):dX s=vI (blocks (dz s s.length).length h0 (dz s s.length)):=by
 have hz:vR ((leftOf s.length s).length+1)=vR (s.length+1):=by have:=SC s.length s;unfold vR;omega
 have e:∀r:List UInt8,vR (r.length+1)=vR (s.length+1)->dz r s.length=r++([128]++(List.replicate (vR (s.length+1)) 0++(sums.fX (s.length/536870912)++sums.fX (s.length*8%4294967296)))):=λr hr=>by unfold dz oF;rw[hr];simp only[eE]
 unfold dX;rw[e _ hz,e s rfl,<-S7 s.length _ h0 s _ (ay _) (ay _)]
def wG (len:Nat):List UInt8:=[128]++(List.replicate (vR (len+1)) 0++(sums.fX (len/536870912)++sums.fX (len*8%4294967296)))
theorem qng (r:LB) (len:Nat) (h:r.length%64=len%64):dz r len=r++wG len:=by
 have hz:vR (r.length+1)=vR (len+1):=by unfold vR;omega
 unfold dz oF wG;rw[hz];simp only[eE]
theorem zci (a b:LB) {rs:LB} (yq:rs=leftOf (leftOf a.length a++b).length (leftOf a.length a++b)) {len:Nat} (hlen:len=a.length+b.length) :
  vI (blocks (dz rs len).length (blocks (leftOf a.length a++b).length (blocks a.length h0 a) (leftOf a.length a++b)) (dz rs len))=dX (a++b):=by
 have h1:=SC a.length a;have h2:=SC (leftOf a.length a++b).length (leftOf a.length a++b);rw[aA]at h2;have YN:rs.length%64=len%64:=by rw[yq,hlen,aA];omega
 rw[qng rs len YN,yq,<-S7 _ _ _ _ _ (ay _) (ay _),eE,<-S7 a.length _ h0 a (b++wG len) (ay _) (ay _),qlp,
  qng (a++b) _ rfl,hlen,eE]
 simp only[aA]
end sha
namespace obj
open Go Go.RowKit lib
def Rj (w:World) (bs:LB) (e:Ending) (w':World):Prop:=
 ∃a c,e = .returned (.slice a bs.length c)/\lib.Rd w' a c bs/\(∀x∈af a,w.heap.size<=x)/\Fr [] w w'
theorem qw3 (k:Int) (n:Nat) (w:World) (hn:n<=140737488355328) (hp:Pw w):Calls Tryz.prog 95 #[.int .i64 k,.int .i64 n] w (Rj w (header k n)):=by
 obtain⟨A,hA⟩:=ai (str (fg k));obtain⟨D,hD⟩:=ai (str (Lib.decDigits n));have dW:A.size<=6:=by have:=VR k;rw[hA];simpa[str,ByteArray.size] using this
 have ZS:D.size<=16:=by
  have:=VB 16 n (by decide) (by
   have:10^16=10000000000000000:=by decide
   omega)
  have e:(str (Lib.decDigits n)).size=(Lib.decDigits n).length:=by simp[str,ByteArray.size]
  rw[hD,e];exact this
 have h1:=λw'=>qvd k w'
 have h2:=λw' h=>zdl n hn w' h
 rw[<-hA]at h1;rw[<-hD]at h2;have vy:A++({ data:=#[32] }:ByteArray)++D++({ data:=#[0] }:ByteArray)=str (header k n):=by have e1:({ data:=#[32] }:ByteArray)=str [32]:=rfl;have e0:({ data:=#[0] }:ByteArray)=str [0]:=rfl;rw[e1,e0,hA,hD,D7,D7,D7];rfl
 have H:=aG h1 h2 vy hp;clear h1 h2 hA hD vy hp;go_enter Tryz.func95,Tryz.ntmps95;go_wp2_with (first
  | (go_at_call 62;refine (H.o0 _).mono ?_;rintro e w1 ⟨rfl,f1⟩;have HF:=ah f1;clear f1)
  | (go_at_call 118;refine (H.o1 _ (H.l3.fr HF.out)).mono ?_;rintro e w2 ⟨rfl,f2⟩;have UL:=ah (HF.out.trans f2);clear f2)
  | (refine FX (n:Int) rfl _ _ _ rfl (n:Int) 0 rfl rfl (by split<;>omega) ?_)
  | (refine qh3 (e:=5) Tryz.underlying9 Tryz.underlying23 Tryz.underlying5 rfl _ rfl (header k n) (by rw[<-H.o2];rfl) (by have:=Xh k n hn;unfold maxLen;omega) ?_;intro cap w3 wm ho3 f3 EJ;have H3:=ak ho3.rd f3;clear ho3 f3))
 go_ret;exact⟨_,cap,rfl,H3.o0,λx hx=>by simp only[af,iH]at hx;rw[hx];exact UL.out.size,UL.out.trans H3.l1⟩
theorem zgq (w:World):Calls Tryz.prog 93 #[.int .i64 1] w λe w'=>e = .returned (.tuple #[.pointer (some ⟨w.heap.size,0,none⟩),.int .i64 0])/\sha.Sh w' w.heap.size sha.h0 none 0 [] 0/\Fr [] w w':=by go_enter Tryz.func93,Tryz.ntmps93;go_wp2_with (go_at_call 106;refine (sha.qso _).mono ?_;rintro e w1 ⟨rfl,A1,f1⟩;have H1:=ak A1 f1;clear A1 f1);go_ret2;exact⟨rfl,H1.out⟩
theorem Vg (k:Int) (ao:OA) (cap:Nat) (bs:LB) (w:World) (h:lib.Rd w ao cap bs) (hl:bs.length<=140737488355200) (hp:Pw w) :
  Calls Tryz.prog 63 #[.int .i64 k,.slice ao bs.length cap] w λe w'=>e = .returned (.string (str (pk.mg k bs)))/\Fr [] w w':=by
 obtain⟨L,hL⟩:=ai bs.length;obtain⟨hd,qO⟩:=ai (header k L);have hU:hd.length<=24:=by rw[qO];exact Xh k L (by omega)
 have dh:pk.mg k bs=pk.gH (sha.dX (hd++bs)):=by rw[qO,hL];rfl
 rw[dh];have hh:=λw' TA=>qw3 k L w' (by omega) TA
 rw[<-qO]at hh;rw[<-hL]at hl ⊢;have H:=aG h hL hh hp;clear h hL hh hp qO dh;go_enter Tryz.func63,Tryz.ntmps63;go_upto_region 2 with (go_at_call 93;refine (zgq _).mono ?_;rintro e w1 ⟨rfl,A1,f1⟩;have H1:=ak A1 f1;clear A1 f1);obtain⟨g,hg⟩:=ai w.heap.size;rw[<-hg]at H1 ⊢;have EO:g<w1.heap.size:=by obtain⟨C,hC,_⟩:=H1.out.1.af;exact lt_of_block hC
 have hW:∀w2 a2 c2,lib.Rd w2 a2 c2 hd->Fr [] w1 w2->(∀x∈af a2,w1.heap.size<=x)->Calls Tryz.prog 94 #[.pointer (some ⟨g,0,none⟩),.slice a2 hd.length c2] w2 λe w'=>e = .returned (.tuple #[])/\Fr [g] w2 w'/\
   ∃sw su,sha.Sh w' g (sha.blocks hd.length sha.h0 hd) sw su (sha.leftOf hd.length hd) hd.length/\∀x∈lib.af sw,w2.heap.size<=x:=λw2 a2 c2 r2 f2 n2=>by
  obtain⟨C,hC,s⟩:=H1.out.1.af
  have:=sha.WM g sha.h0 none 0 [] 0 c2 a2 hd w2 ⟨⟨C,f2.af hC (by simp),s⟩,H1.out.1.own.fr f2 (by simp),by simp[lib.af]⟩ r2 (λ_ x hx=>by have:=n2 x hx;omega) (by omega) (by simp;omega)
  simp only[qj,ft,lib.af,wL,false_or]at this
  exact this
 have HW:=aw hW hg EO;clear hW hg EO;go_upto_region 3 with (first
  | (go_at_call 95;refine (H.o2 _ (H.l3.fr H1.out.2)).mono ?_;rintro e w2 ⟨a2,c2,rfl,r2,n2,f2⟩;have H2:=aw r2 f2 n2;clear r2 f2 n2)
  | (go_at_call 94;refine (HW.o0 _ a2 c2 H2.o0 H2.o1 H2.l2).mono ?_;rintro e w3 ⟨rfl,f3,ra3,rc3,A3,n3⟩;have H3:=aw f3 A3 n3;clear f3 A3 n3))
 obtain⟨f3,A3,n3⟩:=H3.out;have hg:=HW.o1;have EO:=HW.l2;have AJ:Fr [] w w2:=H1.out.2.trans H2.o1;have ZZ:Fr [] w w3:=AJ.step f3 (λy hy=>.inr (by simp at hy;omega));obtain⟨vS,Ew⟩:=ai (sha.leftOf hd.length hd);have zx:vS.length<64:=by rw[Ew];exact sha.Sz _ _ (ay _)
 rw[<-Ew]at A3;have hw:=sha.WM g _ ra3 rc3 vS hd.length cap ao bs w3 A3 (H.o0.fr ZZ) (λhb x hx=>by have:=A7 H.o0 hb x hx;omega) (by have:=H.o1;omega) (by have:=H.o1;omega);rw[<-H.o1]at hw;have H4:=aG hw ZZ Ew n3;clear hw ZZ Ew n3 f3 A3 H3 hg EO;go_upto_region 4 with (go_at_call 94;refine H4.o0.mono ?_;rintro e w4 ⟨rfl,f4,ra4,rc4,A4,n4⟩;have H5:=aw f4 A4 n4;clear f4 A4 n4);obtain⟨f4,A4,n4⟩:=H5.out;have hg:=HW.o1;have EO:=HW.l2;have J4:Fr [] w w4:=H4.o1.step f4 (λy hy=>.inr (by
  simp only[fP]at hy
  rcases hy with rfl|hy
  ·omega
  ·have:=(AJ).size
   have:=H4.l3 y hy
   omega))
 have hs:=sha.qx6 _ _ _ _ _ _ w4 A4 (sha.Sz _ _ (ay _)) (sha.SL _ _ _ (sha.SL _ _ _ sha.UW)) (by omega);rw[H4.o2,sha.zci hd bs rfl (by rw[H.o1])]at hs;have H6:=ak hs J4;clear hs J4 f4 A4 n4 H5 hg EO;go_wp2_with (first
  | (go_at_call 96;refine H6.o0.mono ?_;rintro e w5 ⟨⟨a5,c5,rfl,r5⟩,f5⟩;have H7:=ak r5 f5;clear r5 f5)
  | (go_at_call 46;refine (pk.R0 a5 c5 _ w5 H7.o0 (by rw[sha.rN];decide)).mono ?_;rintro e w6 ⟨rfl,f6⟩))
 go_ret;exact⟨rfl,(H6.l1.trans H7.l1).trans f6⟩
end obj
namespace pk
open Go Go.RowKit lib bm
def eK (o:Obj) (a:OA) (c:Nat):Array Value:=#[.int .i64 o.kind,.slice a o.body.length c,.string (str o.id),.int .i64 o.at_,.int .u32 (o.crc:Nat)]
theorem nk:(Tryz.prog.info? 34).map (·.size)=some 5:=by kernel_rfl
structure Rb (w:World) (g O S:Nat) (gv tv:Value) (la:OA) (ms:List EM) (C D:AV):Prop where
 box:w.heap[g]?=some (.cells #[.slice la ms.length ms.length,.slice (some ⟨O,0,none⟩) ms.length ms.length,.slice (some ⟨S,0,none⟩) ms.length ms.length,gv,tv] 96 (0,0))
 ents:lO w la ms
 ob:w.heap[O]?=some (.cells C 34 (0,0))
 oc:C.size=ms.length*5
 sb:w.heap[S]?=some (.cells D 100 (0,0))
 sc:D.size=ms.length*4
 gO:g≠O
 gS:g≠S
 OS:O≠S
 offl:∀x∈af la,x≠O/\x≠S
 offd:∀m∈ms,∀x∈af m.2,x≠O/\x≠S
 few:ms.length<=4096
theorem Rb.fr {w w':World} {g O S:Nat} {gv tv:Value} {la:OA} {ms:List EM} {C D:AV} (h:Rb w g O S gv tv la ms C D) (f:Fr [] w w'):Rb w' g O S gv tv la ms C D:=
 ⟨f.af h.box (by simp),h.ents.fr f,f.af h.ob (by simp),h.oc,f.af h.sb (by simp),h.sc,h.gO,h.gS,h.OS,h.offl,h.offd,h.few⟩
theorem lO.gJ {S:LN} {w w':World} {a:OA} {ms:List EM} (h:lO w a ms) (f:Fr S w w') (hl:∀x∈af a,x∉S) (hd:∀m∈ms,∀x∈af m.2,x∉S):lO w' a ms:=
 ⟨h.cs.fr f hl,λm hm=>(h.dat m hm).gJ f (hd m hm)⟩
theorem Rb.U5 {w w':World} {g O S:Nat} {gv tv:Value} {la:OA} {ms:List EM} {C C' D:AV} (h:Rb w g O S gv tv la ms C D) (f:Fr [O] w w') (hb:w'.heap[O]?=some (.cells C' 34 (0,0))) (hs:C'.size=C.size):Rb w' g O S gv tv la ms C' D:=
 ⟨f.af h.box (by simp;exact h.gO),h.ents.gJ f (λx hx=>by simp;exact (h.offl x hx).1) (λm hm x hx=>by simp;exact (h.offd m hm x hx).1),hb,by rw[hs];exact h.oc,f.af h.sb (by simp;exact kC h.OS),h.sc,h.gO,h.gS,h.OS,h.offl,h.offd,h.few⟩
theorem Rb.rL {w w':World} {g O S:Nat} {gv tv:Value} {la:OA} {ms:List EM} {C D D':AV} (h:Rb w g O S gv tv la ms C D) (f:Fr [S] w w') (hb:w'.heap[S]?=some (.cells D' 100 (0,0))) (hs:D'.size=D.size):Rb w' g O S gv tv la ms C D':=
 ⟨f.af h.box (by simp;exact h.gS),h.ents.gJ f (λx hx=>by simp;exact (h.offl x hx).2) (λm hm x hx=>by simp;exact (h.offd m hm x hx).2),f.af h.ob (by simp;exact h.OS),h.oc,hb,by rw[hs];exact h.sc,h.gO,h.gS,h.OS,h.offl,h.offd,h.few⟩
theorem lO.cell {w:World} {a:OA} {ms:List EM} (h:lO w a ms) {i:Nat} {m:EM} (hi:ms[i]?=some m):∃gb o,a=some ⟨gb,o,none⟩/\∀j v,j<7->(sf m.1 m.2 m.1.data.length)[j]?=some v->w.cell? ⟨gb,o+(i*7+j),none⟩=some v:=by have hl:=(jq.1 hi).1;obtain⟨gb,o,ha,hc⟩:=h.cs.at (by rw[qr9];omega);refine⟨gb,o,ha,λj v hj hv=>hc _ v ?_⟩;have:=Iu sk 7 (λ_=>rfl) ms i m j hi hj;unfold dS;rw[this];unfold sk;rw[oY];exact hv
theorem qyg (g O S:Nat) (gv tv:Value) (la:OA) (ms:List EM) (C D:AV) (i:Nat) (m:EM) (kd:Int) (ba:OA) (bc:Nat) (body:LB) (w:World)
  (h:Rb w g O S gv tv la ms C D) (hi:ms[i]?=some m) (hb:lib.Rd w ba bc body) (bQ:body.length<=140737488355200) (hp:obj.Pw w) :
  Calls Tryz.prog 79 #[.pointer (some ⟨g,0,none⟩),.int .i64 i,.int .i64 kd,.slice ba body.length bc] w λe w'=>e = .returned (.tuple #[])/\Fr [O] w w'/\
   ∃C',Rb w' g O S gv tv la ms C' D/\(∀j,j<i*5\/i*5+5<=j->C'[j]?=C[j]?)/\(∀j v,(eK (whole m.1 kd body) ba bc)[j]?=some v->C'[i*5+j]?=some v):=by
 obtain⟨n,hn⟩:=ai ms.length;have dP:i<n:=by rw[hn];exact (jq.1 hi).1
 have mC:n<=4096:=by rw[hn];exact h.few
 have b0:=cell_of h.box 0;have b1:=cell_of h.box 1;simp only[bF,aT,bP]at b0 b1;rw[<-hn]at b0 b1;obtain⟨gb,o,rfl,hce⟩:=h.ents.cell hi;have e1:=hce 1 _ (by decide) (show _=some (.int .i64 (m.1.at_:Nat)) from rfl);have e3:=hce 3 _ (by decide) (show _=some (.int .u32 (m.1.crc:Nat)) from rfl);have hid:=λw' (f:Fr [] w w')=>obj.Vg kd ba bc body w' (hb.fr f) bQ (hp.fr f)
 obtain⟨bl,tR⟩:=ai body.length;obtain⟨X,hX⟩:=ai (str (mg kd body));rw[<-hX,<-tR]at hid;rw[<-oW]at e1 e3;have PR:g∉[O]:=by simp;exact h.gO
 have Uc:gb∉[O]:=by simp;exact (h.offl gb (by simp[af])).1
 have s0:∀x,(sup [O] w.drew x).cell? ⟨g,0,none⟩=some (.slice (some ⟨gb,o,none⟩) n n):=λx=>(dY [O] w.drew x).cell (show w.drew.cell? _=_ from b0) PR
 have s1:∀x,(sup [O] w.drew x).cell? ⟨g,1,none⟩=some (.slice (some ⟨O,0,none⟩) n n):=λx=>(dY [O] w.drew x).cell (show w.drew.cell? _=_ from b1) PR
 have t1:∀x,(sup [O] w.drew x).cell? ⟨gb,o+i*7+1,none⟩=some (.int .i64 (m.1.at_:Nat)):=λx=>(dY [O] w.drew x).cell (show w.drew.cell? _=_ from e1) Uc
 have t3:∀x,(sup [O] w.drew x).cell? ⟨gb,o+i*7+3,none⟩=some (.int .u32 (m.1.crc:Nat)):=λx=>(dY [O] w.drew x).cell (show w.drew.cell? _=_ from e3) Uc
 rw[<-tR];have H:=aQ h hn hid hX tR;clear h hn hid hX tR hce e1 e3 b0 b1 hb hp hi bQ;go_enter Tryz.func79,Tryz.ntmps79;refine j4 29 [(false,0),(false,1),(false,2),(false,3),(false,4),(false,5),(false,6),(false,7),(false,8),(false,10),(false,11),(false,12),(false,13),(false,14),(false,15),(false,16),(false,17),(false,18),(false,19),(false,20),(false,21),(false,22),(false,23),(false,24),(false,25),(true,9),(true,26),(false,27),(true,28)] [O] (by kernel_rfl) (by kernel_rfl) (λ_ _ d _ _ h=>by cases d<;>exact h) ?_;simp only[jm];refine dT 25 rfl ?_;simp only[bD];repeat (go_big_quiet_step (fail))
 refine wpQuiet_nil ?_;clear s0 s1 t1 t3;refine eT rfl ?_;intro X1 nC;go_wp2_with (go_at_call 63;refine (H.o2 _ (Fr.av [] w)).mono ?_;rintro e w2 ⟨rfl,f2⟩);refine nC.out _ _ (f2.mono (by simp)) ?_;clear nC X1;have HF:=ah ((Fr.av [] w).trans f2);clear f2;refine eT rfl ?_;intro X1 nC;go_wp2;refine nC.out _ _ (Fr.refl _ _) ?_;clear nC X1;refine dT 1 rfl ?_;simp only[bD];repeat (go_big_quiet_step (fail))
 refine wpQuiet_nil ?_;have TH:=HF.out.af H.o0.ob (by simp);have cV:i*5+5<=C.size:=by rw[H.o0.oc,<-H.o1];omega
 have HO:=ak TH cV;clear TH cV;refine eT rfl ?_;intro X1 nC;refine wp_store_mid 34 (.tmp 35) (.tmp 34) rfl O (i*5) #[.int .i64 kd,.slice ba bl bc,.string X,.int .i64 (m.1.at_:Nat),.int .u32 (m.1.crc:Nat)] rfl rfl (quq HO.out.1 (i*5) 5 HO.out.2) nk (by kernel_rfl) ?_;simp only[Act.put,nR,oD,nP];have fS:Fr [O] w2 (w2.setCells O (i*5) (#[.int .i64 kd,.slice ba bl bc,.string X,.int .i64 (m.1.at_:Nat),.int .u32 (m.1.crc:Nat)]:AV).toList):=Fr.setCells (by simp) _ _ (Fr.refl [O] w2);obtain⟨C',h1,h2,h3,h4⟩:=Xt (#[.int .i64 kd,.slice ba bl bc,.string X,.int .i64 (m.1.at_:Nat),.int .u32 (m.1.crc:Nat)]:AV).toList (i*5) w2 C HO.out.1;refine nC.out _ _ fS ?_;clear nC X1;have HS:=aQ fS h1 h2 h3 h4;clear fS h1 h2 h3 h4;refine ic ?_;go_wp2;go_end0;obtain⟨fS,h1,h2,h3,h4⟩:=HS.out;refine⟨rfl,(HF.out.mono (by simp)).trans fS,C',(H.o0.fr HF.out).U5 fS h1 h2,λj hj=>h3 j (by simpa using hj),λj v hv=>h4 j v ?_ ?_⟩
 ·have e1:(eK (whole m.1 kd body) ba bc)=#[.int .i64 kd,.slice ba bl bc,.string X,.int .i64 (m.1.at_:Nat),.int .u32 (m.1.crc:Nat)]:=by unfold eK whole;rw[H.o3,H.l4]
  rw[e1]at hv;rw[<-oY]at hv;exact hv
 ·have:j<5:=(IC.1 hv).1;have:=HO.out.2;omega
theorem Nk:az Tryz.prog 27 34 (.agg #[.int .i64 0,.slice none 0 0,.string ⟨#[]⟩,.int .i64 0,.int .u32 0]) 5 64:=az.of Tryz.underlying27 (by kernel_rfl) rfl (by decide)
abbrev OM:=Obj×Option Addr×Nat
def oL (m:OM):List Value:=(eK m.1 m.2.1 m.2.2).toList
theorem RN (m:OM):∀u∈oL m,u.oneCell'=true:=by intro u hu;simp only[oL,eK,fP,wL,or_false]at hu;rcases hu with rfl|rfl|rfl|rfl|rfl<;>rfl
end pk
namespace delta
open Go Go.RowKit lib bm
theorem aq:az Tryz.prog 23 5 (.int .u8 0) 1 1:=az.of Tryz.underlying23 (by kernel_rfl) rfl (by decide)
theorem j3 (bs:LB):∀u∈bs.map bv,u.oneCell'=true:=by intro u hu;obtain⟨b,_,rfl⟩:=jo.1 hu;rfl
theorem R4:∀(k n:Nat),n<128^(k+1)->(fk n).length<=k+1
 | 0,n,h=>by rw[SF (by simp at h;omega)];simp
 | k+1,n,h=>by
  by_cases hn:n<=127
  ·rw[SF hn];simp
  ·rw[V7 (by omega),bU];have:=R4 k (n/128) ((Dg (by decide)).2 (by rw[mf,<-tA];exact h));omega
theorem N3 (n:Nat):bits .or .u8 ((n:Int)%256) 128=(((UInt8.ofNat (n%128+128)).toNat:Nat):Int):=by
 have h:∀x:Fin 256,bits .or .u8 (x.1:Int) 128=((x.1%128+128:Nat):Int):=by decide +kernel
 have e:=h ⟨n%256,by omega⟩;simp only at e;rw[A9 (by omega),show (n:Int)%256=((n%256:Nat):Int) from by omega,e];omega
structure Nb (w wr:World) (n0 n:Nat) (a:OA) (c:Nat) (out:LB):Prop where
 own:wr.ownsRow 0 5 1 (.slice a out.length c) out.length (out.map bv)
 fr:Fr [] w wr
 new:∀x∈af a,w.heap.size<=x
 all:out++fk n=fk n0
theorem zc7 (w:World) (n:Nat):Nb w w n n none 0 []:=⟨wM _ _ _ _,Fr.refl _ _,by simp[af],rfl⟩
theorem Nb.step {w wr w1 w2:World} {n0 n n':Nat} {a a2:OA} {c c2:Nat} {out:LB} {x:UInt8} (h:Nb w wr n0 n a c out) (f:Fr [] wr w1) (A:aV w1 w2 5 1 (af a) a2 (out.length+1) c2 (out.map bv++[bv x])) :
  w2.ownsRow 0 5 1 (.slice a2 (out++[x]).length c2) (out++[x]).length ((out++[x]).map bv)/\Fr [] w w2/\∀y∈af a2,w.heap.size<=y:=by
 refine⟨by rw[aA,gF];exact A.own,(h.fr.trans f).step A.fr λy hy=>.inr (h.new y hy),λy hy=>?_⟩;rcases A.at_ y hy with h1|h1
 ·exact h.new y h1
 ·have:=(h.fr.trans f).size;omega
theorem qwq (n:Int) (w:World) (hn:n<=9223372036854775807):Calls Tryz.prog 97 #[.int .i64 n] w (aB w (fk n.toNat)):=by
 obtain⟨n0,pL⟩:=ai n.toNat;have hm:((n0:Nat):Int)=if 0>n then 0 else n:=by rw[pL];split<;>omega
 have bg:n0<=9223372036854775807:=by omega
 have hl9:=R4 8 n0 (Dj bg (by decide));have HM:=ah hm;rw[<-pL];clear hm pL;go_enter Tryz.func97,Tryz.ntmps97;go_upto_block 0 with (refine FX (n0:Int) rfl _ _ _ rfl n 0 rfl rfl HM.out ?_);go_cut [0,3] from 6 to 16 (λs0 s3 wz=>∃n a c out,s0 = .int .i64 (n:Nat)/\s3 = .slice a out.length c/\n<=127/\Nb w wz n0 n a c out)
 case first=>
  go_wp2;go_loopg [0,3] n0 (λk s0 s3 wr=>∃n a c out,s0 = .int .i64 (n:Nat)/\s3 = .slice a out.length c/\n<=k/\n<=9223372036854775807/\Nb w wr n0 n a c out);case atStart=>exact⟨n0,none,0,[],rfl,rfl,ay _,bg,zc7 w n0⟩
  case round=>
   obtain⟨m,a,c,out,rfl,rfl,hk,hm9,h⟩:=hrel;have H:=ah h;have iw:out.length<=9:=by have:=congrArg List.length h.all;rw[aA]at this;omega
   clear h;by_cases zS:127<m
   ·have ho:=N3 m;obtain⟨x,hx⟩:=ai (UInt8.ofNat (m%128+128));rw[<-hx]at ho;obtain⟨S,hS⟩:=ai (af a);have HX:=ak hx hS;have f0:Fr [] wr (wr.alloc (.cells #[.int .u8 (x.toNat:Nat)] 5)):=(Fr.refl [] wr).alloc _;have cT:=dr H.out.own f0 (by simp);have cA:Cs (wr.alloc (.cells #[.int .u8 (x.toNat:Nat)] 5)) (some ⟨wr.heap.size,0,none⟩) [bv x]:=nM _ _ _ 5 (bC wr _);have HA:=aw cT cA f0;clear cT cA f0 hx hS;go_wp2_with (refine gM aq rfl _ _ rfl (.slice a out.length c) out.length (out.map bv) S rfl (by rw[dD,HX.l1]) HA.out.1 (some ⟨wr.heap.size,0,none⟩) 1 1 [bv x] rfl (by decide) (by simp) HA.out.2.1 (by rfl) (j3 [x]) (by omega) (by unfold maxLen;omega) ?_;intro a2 c2 w2 A1;have xQ:=ah A1;clear A1);go_roundg (m/128);case measure=>omega
    case rel=>have A1:=xQ.out;rw[HX.l1]at A1;obtain⟨h1,h2,h3⟩:=H.out.step (n':=0) HA.out.2.2 A1;refine⟨m/128,a2,c2,out++[x],by go_num,by rw[aA];rfl,ay _,by omega,h1,h2,h3,?_⟩;rw[<-H.out.all,V7 zS,HX.o0,eE];rfl
   ·go_wp2;go_meet;exact⟨m,a,c,out,rfl,rfl,by omega,H.out⟩
 case rest=>
 obtain⟨m,a,c,out,rfl,rfl,hm,h⟩:=hcut;have H:=ah h;have aD:=h.all;rw[SF hm]at aD;have iw:out.length+1=(fk n0).length:=by rw[<-aD];simp
 have iC:=ah aD;have YC:out.length<=9:=by omega
 have HOL:=ah iw;clear h aD iw;obtain⟨x,hx⟩:=ai (UInt8.ofNat m);have kR:[bv x]=[.int .u8 (m:Int)]:=by unfold bv;rw[hx,A9 (by omega)]
 obtain⟨S,hS⟩:=ai (af a);have HX:=ak hx hS;have f0:Fr [] wc (wc.alloc (.cells #[.int .u8 (m:Int)] 5)):=(Fr.refl [] wc).alloc _;have cT:=dr H.out.own f0 (by simp);have cA:Cs (wc.alloc (.cells #[.int .u8 (m:Int)] 5)) (some ⟨wc.heap.size,0,none⟩) [bv x]:=by rw[kR];exact nM _ _ _ 5 (bC wc _)
 have HA:=aw cT cA f0;clear cT cA f0 hx hS kR;go_wp2_with (refine gM aq rfl _ _ rfl (.slice a out.length c) out.length (out.map bv) S rfl (by rw[dD,HX.l1]) HA.out.1 (some ⟨wc.heap.size,0,none⟩) 1 1 [bv x] rfl (by decide) (by simp) HA.out.2.1 (by rfl) (j3 [x]) (by omega) (by unfold maxLen;omega) ?_;intro a2 c2 w2 A1;have cZ:=A1.le;have nT:=A1.max;have xQ:=ah A1;clear A1);go_ret;have A1:=xQ.out;rw[HX.l1]at A1;obtain⟨h1,h2,h3⟩:=H.out.step (n':=0) HA.out.2.2 A1;rw[HX.o0,iC.out]at h1;obtain⟨r1,_⟩:=wK h1;rw[HOL.out];exact⟨a2,rfl,⟨r1.cs,ay _,ck r1.le r1.max,λe=>by have:=r1.nil e;have:=r1.le;omega⟩,λy hy=>⟨h3 y hy,rr h1 (qi hy)⟩,h2⟩
theorem CN (c:UInt8):bits .and .u8 ((c.toNat:Nat):Int) 127=((c.toNat%128:Nat):Int):=by
 have h:∀x:Fin 256,bits .and .u8 (x.1:Int) 127=((x.1%128:Nat):Int):=by decide +kernel
 exact h ⟨c.toNat,iL c⟩
theorem ze8 (v x k:Nat) (hv:v<2^k) (hx:x*2^k<9223372036854775808) (hk:k<=62):bits .or .i64 (v:Int) ((x*2^k:Nat):Int)=((v+x*2^k:Nat):Int):=by
 have h1:=CY k 62 hk;have Ka:2^62=4611686018427387904:=by decide
 rw[Ka]at h1;rw[NG _ _ (by omega) hx,Fy v x k hv,mf]
theorem qy5 (n x i:Nat) (hi:i<5) (hn:n<128^i) (hx:x<128):∃m,(m=n+x*128^i/\m<128^(i+1))/\m<=34359738367/\bits .or .i64 (n:Int) (wrap64 ((x:Int)*2^(7*i)))=(m:Int):=by
 have hp:2^(7*i)=128^i:=by rw[Nat.pow_mul]
 have h4:128^i<=128^4:=kh (by decide) (by omega);have e4:128^4=268435456:=by decide
 have iu:0<128^i:=Nat.pow_pos (by decide);have h1:x*128^i<=127*128^i:=uN _ (by omega);have h5:=tA i;refine⟨n+x*128^i,⟨rfl,by omega⟩,by omega,?_⟩;have e:wrap64 ((x:Int)*2^(7*i))=((x*2^(7*i):Nat):Int):=by
  have:(x:Int)*2^(7*i)=((x*2^(7*i):Nat):Int):=by rw[C6,Bh];rfl
  rw[this,hp];generalize x*128^i=y at *;simp only[wrap64];omega
 rw[e,ze8 n x (7*i) (by rw[hp];exact hn) (by rw[hp];omega) (by omega),hp]
def nI (w:World) (d:LB) (e:Ending) (w':World):Prop:=
 ∃a c,e = .returned (.tuple #[.int .i64 (delta.rd d).1,.slice a (delta.rd d).2.1.length c,.int .i64 (delta.rd d).2.2])/\Rd w' a c (delta.rd d).2.1/\Fr [] w w'
theorem SS {w w':World} {d r:LB} {n x:Nat} {a:OA} {c:Nat} (h:delta.rd d=(n,r,x)) (hr:Rd w' a c r) (f:Fr [] w w'):nI w d (.returned (.tuple #[.int .i64 n,.slice a r.length c,.int .i64 x])) w':=by unfold nI;rw[h];exact⟨a,c,rfl,hr,f⟩
theorem qm6 (a:OA) (cap:Nat) (d:LB) (w:World) (h:Rd w a cap d):Calls Tryz.prog 169 #[.slice a d.length cap] w (nI w d):=by
 have hle:=h.le;have dK:=h.max;unfold maxLen at dK;have H:=ah h;clear h;go_enter Tryz.func169,Tryz.ntmps169;go_wp2;go_loopg [2,5,6] 5 (λk s2 s5 s6 wr=>∃i n,i+k=5/\s6 = .int .i64 (i:Nat)/\s2 = .int .i64 (n:Nat)/\i<=d.length/\n<128^i/\vT k i n (d.drop i)=delta.rd d/\Fr [] w wr);case atStart=>exact⟨0,0,rfl,rfl,rfl,ep _,by decide,rfl,Fr.refl _ _⟩
 case round=>
  obtain⟨i,n,hi,rfl,rfl,eO,hn,di,dR⟩:=hrel;have F:=ah dR;clear dR;by_cases Mb:i<5
  ·obtain⟨k,rfl⟩:∃k,gk=k+1:=⟨gk-1,by omega⟩;by_cases hid:i<d.length
   ·obtain⟨g,o,rfl,hc⟩:=H.out.at hid;have c0:=F.out.cell hc (by simp);obtain⟨c,kD⟩:=ai (d[i]);rw[<-kD]at c0;have hdr:d.drop i=c::d.drop (i+1):=by rw[Al hid,kD]
    rw[hdr,vT]at di;have ha:=CN c;have kQ:=iL c;obtain⟨x,hx⟩:=ai (c.toNat%128);rw[<-hx]at ha di;have OE:x<128:=by omega
    generalize c.toNat=cn at *;have HX:=aw hx kD hdr;clear hx kD hdr hc;have Ab:=ah di;clear di;obtain⟨m,hm,zbX,vq⟩:=qy5 n x i Mb hn OE;have HM:=ah hm;rw[<-hm.1]at Ab;have hsl:=λw=>Lx aq (i+1) (some ⟨g,o,none⟩) d.length cap ((i:Int)+1) (by omega) (by omega) hle w
    clear hm hn;by_cases h128:cn<128
    ·have di:=Ab.out;rw[if_pos h128]at di;by_cases mE:2147483647<m
     ·rw[if_pos mE]at di;have HD:=ah di;clear di hsl;go_wp2;go_ret3;exact SS (r:=[]) HD.out.symm (Rd.none _) F.out
     ·rw[if_neg mE]at di;have HD:=ah di;clear di;go_upto_region 10 with fail;go_quiet (fail);clear hsl;go_wp2;go_ret3;have hl:(d.drop (i+1)).length=d.length-(i+1):=by simp
      have h:=λ(wz:World) (f:Fr [] wr wz)=>SS HD.out.symm ((H.out.fr (F.out.trans f)).drop (i+1) (by omega)) (F.out.trans f)
      simp only[hl]at h;exact h _ (Fr.drewN [] wr _)
    ·have di:=Ab.out;rw[if_neg h128]at di;have HD:=ah di;clear di hsl;go_wp2;go_roundg k;case measure=>omega
     case rel=>exact⟨i+1,m,by omega,by go_num,rfl,by omega,HM.out.2,HD.out,F.out⟩
   ·have hd:delta.rd d=(0,[],4):=by rw[<-di,Dh (by omega)];rfl
    have HD:=ah hd;clear hd di hn;go_wp2;go_ret3;exact SS (r:=[]) HD.out (Rd.none _) F.out
  ·obtain rfl:i=5:=by omega
   obtain rfl:gk=0:=by omega
   have HD:=ah di;clear di hn;go_wp2;go_ret3;exact SS (r:=[]) (by rw[<-HD.out];rfl) (Rd.none _) F.out
theorem Lt {fn:Func} {t u v x:Tmp} (h:fn.results=#[.tmp t,.tmp u,.tmp v,.tmp x]) (tmps:AV) (P:Program) (w:World) :
  (results fn tmps).run P w = .ok (.tuple #[tmps.getD t undef,tmps.getD u undef,tmps.getD v undef,tmps.getD x undef]) w:=by
 simp[results,h]
def tZ (w:World) (d:LB) (e:Ending) (w':World):Prop:=
 ∃a c,e = .returned (.tuple #[.int .i64 (delta.sizes d).1,.int .i64 (delta.sizes d).2.1,.slice a (delta.sizes d).2.2.1.length c,.int .i64 (delta.sizes d).2.2.2])/\Rd w' a c (delta.sizes d).2.2.1/\Fr [] w w'
theorem VY {w w':World} {d r:LB} {n m x:Nat} {a:OA} {c:Nat} (h:delta.sizes d=(n,m,r,x)) (hr:Rd w' a c r) (f:Fr [] w w'):tZ w d (.returned (.tuple #[.int .i64 n,.int .i64 m,.slice a r.length c,.int .i64 x])) w':=by unfold tZ;rw[h];exact⟨a,c,rfl,hr,f⟩
theorem qye (a:OA) (cap:Nat) (d:LB) (w:World) (h:Rd w a cap d):Calls Tryz.prog 137 #[.slice a d.length cap] w (tZ w d):=by
 have h1:=qm6 a cap d w h;have hs:∀x y,delta.rd d=x->delta.rd x.2.1=y->delta.sizes d=if x.2.2=0 then (if y.2.2=0 then (x.1,y.1,y.2.1,0) else (0,0,[],y.2.2)) else (0,0,[],x.2.2):=by rintro x y rfl rfl;rfl
 have h2:=λa c w=>qm6 a c (delta.rd d).2.1 w
 unfold nI at h1 h2;obtain⟨x,hx⟩:∃x,delta.rd d=x:=⟨_,rfl⟩;obtain⟨y,hy⟩:∃y,delta.rd x.2.1=y:=⟨_,rfl⟩;have cV:=hs x y hx hy;rw[hx]at h1 h2;rw[hy]at h2;obtain⟨n,r,e⟩:=x;obtain⟨m,s,e2⟩:=y;simp only at h1 h2 cV;have H:=ak h1 h2;clear h1 h2 hs hx hy h;by_cases he:e=0
 ·subst he;rw[if_pos rfl]at cV;by_cases Ca:e2=0
  ·subst Ca;rw[if_pos rfl]at cV;have HS:=ah cV;clear cV;have mT:True:=trivial;go_enter Tryz.func137,Tryz.ntmps137;go_wp2_with (first|(go_at_call 169;have _t:=mT;refine H.o0.mono ?_;rintro e1 w1 ⟨a1,c1,rfl,r1,f1⟩;have H1:=ak r1 f1;clear r1 f1 mT _t)|(go_at_call 169;refine (H.l1 a1 c1 _ H1.o0).mono ?_;rintro e2 w2 ⟨a2,c2,rfl,r2,f2⟩;have H2:=ak r2 (H1.l1.trans f2);clear r2 f2));refine bodyPost_ret (Lt rfl _ _ _) rfl ?_;exact VY HS.out H2.o0 H2.l1
  ·rw[if_neg Ca]at cV;have HS:=ah cV;have hb:((e2:Int)==0)=false:=by simp;omega
   have kT:((e2:Int)!=0)=true:=by simp;omega
   clear cV Ca;have mT:True:=trivial;go_enter Tryz.func137,Tryz.ntmps137;go_wp2_with (first|(go_at_call 169;have _t:=mT;refine H.o0.mono ?_;rintro e1 w1 ⟨a1,c1,rfl,r1,f1⟩;have H1:=ak r1 f1;clear r1 f1 mT _t)|(go_at_call 169;refine (H.l1 a1 c1 _ H1.o0).mono ?_;rintro e2 w2 ⟨a2,c2,rfl,r2,f2⟩;have H2:=ak r2 (H1.l1.trans f2);clear r2 f2));refine bodyPost_ret (Lt rfl _ _ _) rfl ?_;exact VY (n:=0) (m:=0) (r:=[]) HS.out (Rd.none _) H2.l1
 ·rw[if_neg he]at cV;have HS:=ah cV;have hb:((e:Int)==0)=false:=by simp;omega
  have kT:((e:Int)!=0)=true:=by simp;omega
  clear cV he;go_enter Tryz.func137,Tryz.ntmps137;go_wp2_with (go_at_call 169;refine H.o0.mono ?_;rintro e1 w1 ⟨a1,c1,rfl,r1,f1⟩;have H1:=ak r1 f1;clear r1 f1);refine bodyPost_ret (Lt rfl _ _ _) rfl ?_;exact VY (n:=0) (m:=0) (r:=[]) HS.out (Rd.none _) H1.l1
end delta

end Go.Proofs.YtkmpfgpfbmeihaaGreatDoor