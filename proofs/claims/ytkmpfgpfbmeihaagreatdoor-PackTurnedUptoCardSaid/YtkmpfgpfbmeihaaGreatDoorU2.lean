/-
  Texts of this proof, one behind the other: InflLaw, AppFull, AppMid, RdMore, Tail, BitsOps, SumA, InfZL, CrcLaw, ObjName, BitsInt, AppStr, Digits, RHeader.
-/
import Derived.Test.YtkmpfgpfbmeihaaGreatDoorU1
import Derived.StillTailTactics
import Derived.Deep.DeepCutAuto
import Derived.Deep.LoopGhost
import Derived.Deep.CutBlock
import Derived.WalkMore
import Derived.Laws.ResultCell
import Derived.Laws.Rows
import Derived.Lib.AppendStr
import Derived.Lib.ItoaNum
set_option maxHeartbeats 16000000
set_option maxRecDepth 100000
set_option linter.unusedVariables false
set_option linter.unusedSimpArgs false
namespace Go.Proofs.YtkmpfgpfbmeihaaGreatDoor
namespace inf
open Go bm bl huf
def bC (bs:List UInt8) (a n:Nat):Except Nat (Nat×Nat):=
 if a+n<=8*bs.length then .ok (cW (((aC bs).drop a).take n),a+n) else .error 4
def kC (most:Nat) (out:List UInt8) (c:UInt8):Except Nat (List UInt8):=
 if most<=out.length then .error 5 else .ok (out++[c])
def mQ (bs:List UInt8) (ls:List Nat) (a:Nat):Except Nat (Nat×Nat):=
 if (cu ls 15 0 0 ((aC bs).drop a)).2.2=0 then .ok ((cu ls 15 0 0 ((aC bs).drop a)).1,a+(cu ls 15 0 0 ((aC bs).drop a)).2.1)
 else .error (cu ls 15 0 0 ((aC bs).drop a)).2.2
def aT (bs:List UInt8) (i:Nat):Nat:=(bs[i]?.getD 0).toNat
def dD (bs:List UInt8) (most:Nat):Nat->List UInt8->Nat->Except Nat (List UInt8×Nat)
 | 0,out,q=>.ok (out,8*q)
 | n+1,out,q=>if q<bs.length then
   match kC most out (bs[q]?.getD 0) with
   | .error e=>.error e
   | .ok o=>dD bs most n o (q+1)
  else .error 4
def gK (bs:List UInt8) (most:Nat) (out:List UInt8) (a:Nat):Except Nat (List UInt8×Nat):=
 if (a+7)/8+4<=bs.length then
  if aT bs ((a+7)/8)+aT bs ((a+7)/8+2)=255/\aT bs ((a+7)/8+1)+aT bs ((a+7)/8+3)=255 then
   dD bs most (aT bs ((a+7)/8)+256*aT bs ((a+7)/8+1)) out ((a+7)/8+4)
  else .error 3
 else .error 4
def dt (bs:List UInt8) (s a:Nat):Except Nat (Nat×Nat):=
 if s<265 then .ok (s-254,a) else if s=285 then .ok (258,a) else
  match bC bs a ((s-261)/4) with
  | .error e=>.error e
  | .ok (v,a1)=>.ok (3+(4+(s-265)%4)*2^((s-261)/4)+v,a1)
def iG (bs:List UInt8) (s a:Nat):Except Nat (Nat×Nat):=
 if s<4 then .ok (s+1,a) else
  match bC bs a ((s-2)/2) with
  | .error e=>.error e
  | .ok (v,a1)=>.ok (1+(2+s%2)*2^((s-2)/2)+v,a1)
def lC (most back:Nat):Nat->List UInt8->Except Nat (List UInt8)
 | 0,out=>.ok out
 | n+1,out=>match kC most out (out[out.length-back]?.getD 0) with
  | .error e=>.error e
  | .ok o=>lC most back n o
def fG (bs:List UInt8) (most:Nat) (dl:List Nat) (s:Nat) (out:List UInt8) (a:Nat):Except Nat (List UInt8×Nat):=
 match dt bs s a with
 | .error e=>.error e
 | .ok (n,a1)=>match mQ bs dl a1 with
  | .error e=>.error e
  | .ok (d,a2)=>if 30<=d then .error 3 else match iG bs d a2 with
   | .error e=>.error e
   | .ok (back,a3)=>if out.length<back then .error 3 else match lC most back n out with
    | .error e=>.error e
    | .ok o=>.ok (o,a3)
def dH (bs:List UInt8) (most:Nat) (ll dl:List Nat):Nat->List UInt8->Nat->Except Nat (List UInt8×Nat)
 | 0,_,_=>.error 0
 | f+1,out,a=>match mQ bs ll a with
  | .error e=>.error e
  | .ok (s,a1)=>if s<256 then
    match kC most out (UInt8.ofNat s) with
    | .error e=>.error e
    | .ok o=>dH bs most ll dl f o a1
   else if s=256 then .ok (out,a1) else if 286<=s then .error 3 else
    match fG bs most dl s out a1 with
    | .error e=>.error e
    | .ok (o,a2)=>dH bs most ll dl f o a2
def fuel (bs:List UInt8):Nat:=8*bs.length+1
def kD (i:Nat):Nat:=if i<144 then 8 else if i<256 then 9 else if i<280 then 7 else 8
def fixed (n:Nat):List Nat:=(List.range n).map kD
def AU (bs:List UInt8) (most:Nat) (out:List UInt8) (a:Nat):Except Nat (List UInt8×Nat):=dH bs most (fixed 288) (List.replicate 32 5) (fuel bs) out a
def some_ (ls:List Nat):Nat:=(ls.filter λl=>decide (0<l)).length
def ones (ls:List Nat):Bool:=ls.all λl=>decide (l<=1)
def fe (ls:List Nat) (few:Bool):Bool:=decide (weight ls<=32768)&&(decide (weight ls=32768)||(few&&(decide (some_ ls<2)&&ones ls)))
def places:List Nat:=[16,17,18,0,8,7,9,6,10,5,11,4,12,3,13,2,14,1,15]
def ff (bs:List UInt8):List Nat->List Nat->Nat->Except Nat (List Nat×Nat)
 | [],fs,a=>.ok (fs,a)
 | i::t,fs,a=>match bC bs a 3 with
  | .error e=>.error e
  | .ok (v,a1)=>ff bs t (fs.set i v) a1
def least (s:Nat):Nat:=if s=18 then 11 else 3
def wide (s:Nat):Nat:=if s=17 then 3 else if s=18 then 7 else 2
def cR (bs:List UInt8) (ls:List Nat) (n:Nat):Nat->List Nat->Nat->Except Nat (List Nat×Nat)
 | 0,_,_=>.error 0
 | f+1,out,a=>if n<=out.length then .ok (out,a) else match mQ bs ls a with
  | .error e=>.error e
  | .ok (s,a1)=>if s<16 then cR bs ls n f (out++[s]) a1 else
   match bC bs a1 (wide s) with
   | .error e=>.error e
   | .ok (v,a2)=>if (s=16/\out=[])\/n-out.length<least s+v then .error 3 else
    cR bs ls n f (out++List.replicate (least s+v) (if s=16 then out.getLast?.getD 0 else 0)) a2
def sr (bs:List UInt8) (most:Nat) (out:List UInt8) (lit jJ:Nat) (fs:List Nat) (a:Nat):Except Nat (List UInt8×Nat):=
 match cR bs fs (lit+257+jJ+1) (lit+257+jJ+1+1) [] a with
 | .error e=>.error e
 | .ok (ls,a5)=>if ai ls 256=0 then .error 3 else if fe (ls.take (lit+257)) false=false then .error 3 else if fe (ls.drop (lit+257)) true=false then .error 3 else
  dH bs most (ls.take (lit+257)) (ls.drop (lit+257)) (fuel bs) out a5
def su (bs:List UInt8) (most:Nat) (out:List UInt8) (lit jJ n a:Nat):Except Nat (List UInt8×Nat):=
 match ff bs (places.take (n+4)) (List.replicate 19 0) a with
 | .error e=>.error e
 | .ok (fs,a4)=>if fe fs false=false then .error 3 else sr bs most out lit jJ fs a4
def nJ (bs:List UInt8) (most:Nat) (out:List UInt8) (a:Nat):Except Nat (List UInt8×Nat):=
 match bC bs a 5 with
 | .error e=>.error e
 | .ok (lit,a1)=>if 29<lit then .error 3 else match bC bs a1 5 with
  | .error e=>.error e
  | .ok (jJ,a2)=>if 29<jJ then .error 3 else match bC bs a2 4 with
   | .error e=>.error e
   | .ok (n,a3)=>su bs most out lit jJ n a3
def gZ (bs:List UInt8) (most h:Nat) (out:List UInt8) (a:Nat):Except Nat (List UInt8×Nat):=
 if h=0 then gK bs most out a else if h=1 then AU bs most out a else nJ bs most out a
def dS (bs:List UInt8) (most:Nat):Nat->List UInt8->Nat->Except Nat (List UInt8×Nat)
 | 0,_,_=>.error 0
 | f+1,out,a=>match bC bs a 1 with
  | .error e=>.error e
  | .ok (last,a1)=>match bC bs a1 2 with
   | .error e=>.error e
   | .ok (h,a2)=>if h=3 then .error 3 else match gZ bs most h out a2 with
    | .error e=>.error e
    | .ok (o,a3)=>if last=0 then dS bs most f o a3 else .ok (o,a3)
def sY (bs:List UInt8) (most:Nat):Except Nat (List UInt8×Nat):=
 match dS bs most (fuel bs) [] 0 with
 | .error e=>.error e
 | .ok (o,a)=>.ok (o,(a+7)/8)
end inf
namespace lib
open Go Go.RowKit
section
variable {P : Program} {w : World} {t e : TypeId} {z : Value} {size bytes : Nat}
theorem TU {g o:Nat} {vs:List Value} (h:∀j v,vs[j]?=some v->w.cell? ⟨g,o+j,none⟩=some v):∀j v,vs[j]?=some v->w.cell? ((⟨g,o,none⟩:Addr).add j)=some v:=λj v hv=>by rw[Aj];exact h j v hv
theorem Wm (T:ax P t e z size bytes) (ty:TypeId) (b:Option Addr) (n c:Nat) (j6:List Value) (hb:Cs w b j6) (gD:j6.length=n*size) (IQ:n<=c) (tF:b=none->c=0)
  (ao:Option Addr) (m c':Nat) (news:List Value) (hc:Cs w ao news) (hl:news.length=m*size) (lG:c<n+m)
  (kg:(n+m)*bytes<=140737488355328) (oF:n+m<=maxLen) :
  ∃aQ w',(Builtin.append_ #[t,t] ty #[.slice b n c,.slice ao m c']).run P w = .ok (.slice (some ⟨w.heap.size,0,none⟩) (n+m) aQ) w'/\aW w w' e size [] (some ⟨w.heap.size,0,none⟩) (n+m) aQ (j6++news):=by
 obtain⟨hu,⟨i,hi,hz,hs,Bz⟩,tY,hp⟩:=T;have WX:n+m<=9223372036854775807:=by simp only[maxLen]at oF;omega
 have bR:0<news.length:=by rw[hl];exact Nat.mul_pos (by omega) hp
 obtain⟨g,o,rfl,kK⟩:=hc.at bR;have wR:=TU kK;have key:∀(old:Nat),old<n+m->aW w (w.drew.alloc (.cells (j6.toArray++news.toArray++Builtin.zeroCells z.cells (grownCap w (n+m) old e-(n+m))) e)) e size []
   (some ⟨w.heap.size,0,none⟩) (n+m) (grownCap w (n+m) old e) (j6++news):=by
  intro old ho
  have Bn:=grownCap_ge w (n+m) old e
  have oP:grownCap w (n+m) old e<=maxLen:=grownCap_le_maxLen w (n+m) old e oF
  refine⟨⟨by rw[aK,gD,hl,rC],.inr ⟨w.heap.size,_,_,rfl,dZ _,heap_alloc_new w.drew _,Bn,oP,?_,?_⟩⟩,(Fr.av [] w).alloc _,λx hx=>by right;simpa[ae] using hx,Bn,oP,λh=>by cases h⟩
  ·simp only[Array.size_append,List.size_toArray,size_zeroCells,tY,gD,hl]
   rw[<-rC,<-rC]
   congr 1
   omega
  ·simp only[Array.toList_append]
   rw[QQ (by simp[gD,hl,rC])]
   rw[oI (by simp[gD,hl,rC])]
 cases b with
 | none=>
  have bW:=tF rfl;subst bW;obtain rfl:n=0:=by omega
  obtain rfl:j6=[]:=wk (by simpa using gD);have hr:=run_append_nil (P:=P) w t ty e i z hu hi hz ⟨g,o,none⟩ m c' news (by rw[hs];exact hl) wR (by omega) (by omega) (by rw[Bz];simp at kg;omega);have hk:=key 0 (by omega);simp only[fM,vI,Array.empty_append]at hk ⊢;exact⟨_,_,hr,hk⟩
 | some a=>
  have ho:∀j v,j6[j]?=some v->w.cell? (a.add j)=some v:=by
   intro j v hv;rcases hb with rfl|⟨g',o',ha,hb⟩
   ·simp at hv
   ·obtain rfl:=lL ha;rw[Aj];exact hb j v hv
  have XZ:Builtin.nextslicecap (n+m) c*i.bytes<=281474976710656:=by rw[Bz];exact growslice_fits (by omega) (by omega)
  have hr:=run_append_grow (P:=P) w t ty e i z hu hi hz a n c j6 (by rw[hs];exact gD) ho ⟨g,o,none⟩ m c' news (by rw[hs];exact hl) wR lG (by omega) XZ;exact⟨_,_,hr,key c lG⟩
theorem Wi (T:ax P t e z size bytes) {o:Oper} {a:Act} {K:Act->World->Prop} {Q:Exit->Act->World->Prop} (s x:Operand)
  (ho:o.op = .call { callee:=.builtin .append,args:=#[s,x],argTypes:=#[t,t] })
  (b:Option Addr) (n c:Nat) (j6:List Value) (hs:a.eval s = .slice b n c) (hb:Cs w b j6) (gD:j6.length=n*size) (IQ:n<=c) (tF:b=none->c=0)
  (ao:Option Addr) (m c':Nat) (news:List Value) (hx:a.eval x = .slice ao m c') (hc:Cs w ao news) (hl:news.length=m*size) (lG:c<n+m)
  (kg:(n+m)*bytes<=140737488355328) (oF:n+m<=maxLen)
  (h:∀aQ w',aW w w' e size [] (some ⟨w.heap.size,0,none⟩) (n+m) aQ (j6++news)->K (a.put o.dst (.slice (some ⟨w.heap.size,0,none⟩) (n+m) aQ)) w'):o.wp P a w K Q:=by
 obtain⟨aQ,w',hr,h2⟩:=Wm (P:=P) T o.type b n c j6 hb gD IQ tF ao m c' news hc hl lG kg oF;unfold Oper.wp execOp;simp only[ho,resolve,invoke,builtin,Dm,Sem.run_pure,Ha,List.map_toArray,gW,oJ,hs,hx,hr];exact h aQ w' h2
theorem Wo (T:ax P t e z size bytes) {ops:Array Oper} {rest:List Oper} {o:Oper} {a:Act} {Q:Exit->Act->World->Prop} (qv:o.guard=none) (s x:Operand)
  (ho:o.op = .call { callee:=.builtin .append,args:=#[s,x],argTypes:=#[t,t] })
  (b:Option Addr) (n c:Nat) (j6:List Value) (hs:a.eval s = .slice b n c) (hb:Cs w b j6) (gD:j6.length=n*size) (IQ:n<=c) (tF:b=none->c=0)
  (ao:Option Addr) (m c':Nat) (news:List Value) (hx:a.eval x = .slice ao m c') (hc:Cs w ao news) (hl:news.length=m*size) (lG:c<n+m)
  (kg:(n+m)*bytes<=140737488355328) (oF:n+m<=maxLen)
  (h:∀aQ w',aW w w' e size [] (some ⟨w.heap.size,0,none⟩) (n+m) aQ (j6++news)->wpList P ops Q rest (a.put o.dst (.slice (some ⟨w.heap.size,0,none⟩) (n+m) aQ)) w'):wpList P ops Q (o::rest) a w:=
 wpList_plain qv λ_ hK=>Wi T s x ho b n c j6 hs hb gD IQ tF ao m c' news hx hc hl lG kg oF λaQ w' h2=>hK _ _ (h aQ w' h2)
end
end lib
namespace lib
open Go Go.RowKit
def dP (w:World) (e:TypeId) (a:Option Addr) (cap:Nat) (xs:List Value):Prop:=
 (a=none/\cap=0/\xs=[])\/∃g o cur,a=some ⟨g,o,none⟩/\w.heap[g]?=some (.cells cur e (0,0))/\xs.length<=cap/\cap<=maxLen/\o+cap<=cur.size/\(cur.toList.drop o).take xs.length=xs
theorem dP.nil (w:World) (e:TypeId):dP w e none 0 []:=.inl ⟨rfl,rfl,rfl⟩
theorem dP.shape {w:World} {e:TypeId} {a:Option Addr} {cap:Nat} {xs:List Value} (h:dP w e a cap xs):xs.length<=cap/\cap<=maxLen/\(a=none->cap=0):=by
 rcases h with⟨_,rfl,rfl⟩|⟨g,o,cur,rfl,_,h1,h2,_⟩
 ·exact⟨aw _,dZ _,λ_=>rfl⟩
 ·exact⟨h1,h2,λh=>by cases h⟩
theorem dP.cs {w:World} {e:TypeId} {a:Option Addr} {cap:Nat} {xs:List Value} (h:dP w e a cap xs):Cs w a xs:=by
 rcases h with⟨_,_,rfl⟩|⟨g,o,cur,rfl,hg,h1,h2,h3,h4⟩
 ·exact .inl rfl
 ·refine .inr ⟨g,o,rfl,λj v hv=>?_⟩;rw[cell_of hg,<-qW];rw[<-h4,oY]at hv;split at hv
  ·simpa using hv
  ·cases hv
theorem dP.fr {S:List Nat} {w w':World} {e:TypeId} {a:Option Addr} {cap:Nat} {xs:List Value} (h:dP w e a cap xs) (f:Fr S w w') (hn:∀x∈ae a,x∉S):dP w' e a cap xs:=by
 rcases h with h|⟨g,o,cur,rfl,hg,r⟩
 ·exact .inl h
 ·exact .inr ⟨g,o,cur,rfl,f.ae hg (hn g (by simp[ae])),r⟩
theorem dP.lt {w:World} {e:TypeId} {a:Option Addr} {cap:Nat} {xs:List Value} (h:dP w e a cap xs):∀x∈ae a,x<w.heap.size:=by
 rcases h with⟨rfl,_⟩|⟨g,o,cur,rfl,hg,r⟩
 ·simp[ae]
 ·intro x hx;simp[ae]at hx;rw[hx];exact lt_of_block hg
theorem dP.rd {w:World} {e:TypeId} {a:Option Addr} {cap:Nat} {bs:List UInt8} (h:dP w e a cap (bs.map bv)):Rd w a cap bs:=by obtain⟨h1,h2,h3⟩:=h.shape;exact⟨h.cs,by simpa using h1,h2,h3⟩
theorem RF {w:World} {e:TypeId} {a:Option Addr} {n cap:Nat} {xs:List Value} (h:w.ownsRow 0 e 1 (.slice a n cap) n xs):dP w e a cap xs/\xs.length=n:=by
 have hl:xs.length=n:=by simpa using h.1
 refine⟨?_,hl⟩;rcases h.2 with⟨h1,h2⟩|⟨g,aQ,cur,h1,hb,hg,hn,hm,hs,ht⟩
 ·simp only[lN]at h1;obtain⟨rfl,h3,rfl⟩:=h1;exact .inl ⟨rfl,rfl,wk (by omega)⟩
 ·simp only[lN]at h1;obtain⟨rfl,_,rfl⟩:=h1;refine .inr ⟨g,0,cur,rfl,hg,by omega,hm,by omega,?_⟩;rw[yU,hl];simpa using ht
theorem dP.take {w:World} {e:TypeId} {a:Option Addr} {cap:Nat} {xs:List Value} (h:dP w e a cap xs) (k:Nat):dP w e a cap (xs.take k):=by
 rcases h with⟨h1,h2,rfl⟩|⟨g,o,cur,rfl,hg,h1,h2,h3,h4⟩
 ·exact .inl ⟨h1,h2,by simp⟩
 ·refine .inr ⟨g,o,cur,rfl,hg,by rw[eJ];omega,h2,h3,?_⟩;have e1:xs.take k=((cur.toList.drop o).take xs.length).take k:=by rw[h4]
  rw[e1,List.take_take,eJ];congr 1;have:=congrArg List.length h4;rw[eJ]at this;omega
theorem dP.drop {w:World} {e:TypeId} {a:Option Addr} {cap:Nat} {xs:List Value} (h:dP w e a cap xs) (k:Nat) (hk:k<=xs.length):dP w e (aL a cap k 1) (cap-k) (xs.drop k):=by
 rcases h with⟨rfl,rfl,rfl⟩|⟨g,o,cur,rfl,hg,h1,h2,h3,h4⟩
 ·obtain rfl:k=0:=by simpa using hk
  exact .inl ⟨rfl,rfl,rfl⟩
 ·unfold aL;by_cases hc:cap=k
  ·rw[if_pos hc];have hx:xs.drop k=[]:=CK (by omega);rw[hx];exact .inr ⟨g,o,cur,rfl,hg,by simp,by omega,by omega,rfl⟩
  ·rw[if_neg hc];refine .inr ⟨g,o+k,cur,by simp only[CA,Aj,qV],hg,by rw[eQ];omega,by omega,by omega,?_⟩;have e1:xs.drop k=((cur.toList.drop o).take xs.length).drop k:=by rw[h4]
   rw[e1,List.drop_take,J8,eJ,eQ];congr 1;have:=congrArg List.length h4;rw[eJ,eQ]at this;simp only[FB]at *;omega
section
variable {P : Program} {w : World} {t e : TypeId} {z : Value} {bytes : Nat}
structure eK (w w':World) (e:TypeId) (a a':Option Addr) (aQ:Nat) (xs:List Value):Prop where
 own:dP w' e a' aQ xs
 fr:Fr (ae a) w w'
 at_:∀x∈ae a',x∈ae a\/w.heap.size<=x
theorem qiw (T:ax P t e z 1 bytes) (ty:TypeId) (a:Option Addr) (n cap:Nat) (xs:List Value) (aA:dP w e a cap xs) (hn:xs.length=n)
  (ao:Option Addr) (m c:Nat) (news:List Value) (rj:m<=c) (bY:ao=none->c=0) (hc:Cs w ao news) (hl:news.length=m) (h1:∀u∈news,u.oneCell'=true)
  (kg:(n+m)*bytes<=140737488355328) (oF:n+m<=maxLen) :
  ∃a' aQ w',(Builtin.append_ #[t,t] ty #[.slice a n cap,.slice ao m c]).run P w = .ok (.slice a' (n+m) aQ) w'/\eK w w' e a a' aQ (xs++news):=by
 subst hn;rcases aA with⟨rfl,rfl,rfl⟩|⟨g,o,cur,rfl,hg,k1,k2,k3,k4⟩
 ·obtain⟨a',aQ,w',hr,A⟩:=qnx (P:=P) T ty (.slice none 0 0) 0 [] [] rfl (v8 w 0 e 1) ao m c news rj bY hc (by omega) h1 (by simpa using kg) (by simpa using oF);obtain⟨o1,_⟩:=RF A.own;exact⟨a',aQ,w',by simpa using hr,o1,A.fr,λx hx=>.inr (Nat.le_of_eq (by have:=A.at_ x hx;simp at this;exact this.symm))⟩
 ·have cF:xs.length<=cur.size-o:=by have:=congrArg List.length k4;rw[eJ,eQ]at this;simp only[FB]at this;omega
  by_cases tu:m=0
  ·subst tu;obtain rfl:news=[]:=wk hl;obtain⟨hu,⟨i,hi,hz,hs,Bz⟩,tY,hp⟩:=T;refine⟨some ⟨g,o,none⟩,cap,w,?_,by rw[nF];exact .inr ⟨g,o,cur,rfl,hg,k1,k2,k3,k4⟩,Fr.refl _ _,λx hx=>.inl hx⟩;cases ao with
   | none=>
    have bW:=bY rfl;simp[Builtin.append_,run_underlying hu,sizeOf,typeInfo,hi,Builtin.lenOf,k1,Builtin.firstCells,storeCells]
   | some b=>have hf:=run_firstCells_some (P:=P) w i.size 0 b 0 c [] (by simp) (by simp);simp[Builtin.append_,run_underlying hu,sizeOf,typeInfo,hi,Builtin.lenOf,k1,hf,storeCells]
  ·by_cases hroom:xs.length+m<=cap
   ·obtain⟨hu,⟨i,hi,hz,hs,Bz⟩,tY,hp⟩:=T;obtain⟨g',o',rfl,kK⟩:=hc.at (by omega);have wR:=TU kK;have hf:=run_firstCells_some (P:=P) w i.size m ⟨g',o',none⟩ m c news (by rw[hs];omega) wR;have az:=run_storeCells_at P g (o+xs.length*i.size) e news 0 cur w hg (by rw[hs];omega) h1;simp only[jS]at az;refine⟨some ⟨g,o,none⟩,cap,_,?_,⟨.inr ⟨g,o,_,rfl,setRow_heap w g cur (cur.toList.take (o+xs.length*i.size)++news++cur.toList.drop (o+xs.length*i.size+news.length)).toArray e (0,0) hg,by rw[aK,hl];exact hroom,k2,?_,?_⟩,⟨rfl,rfl,rfl,by simp,λk _ hk=>setRow_other w g k _ (λe=>hk (by simp[ae,e]))⟩,λx hx=>.inl hx⟩⟩
    ·simp[Builtin.append_,run_underlying hu,sizeOf,typeInfo,hi,Builtin.lenOf,hroom,hf,Addr.add_lit,az]
    ·simp only[List.size_toArray,aK,eJ,eQ,FB,hs];omega
    ·simp only[hs,qV];rw[MF (by simp;omega),MF (by simp;omega),List.drop_take,Nat.add_sub_cancel_left,k4,aK,hl];rw[QQ (by simp[hl]),oI (by simp[hl])]
   ·have hcs:Cs w (some ⟨g,o,none⟩) xs:=dP.cs (.inr ⟨g,o,cur,rfl,hg,k1,k2,k3,k4⟩);obtain⟨aQ,w',hr,A⟩:=Wm (P:=P) T ty (some ⟨g,o,none⟩) xs.length cap xs hcs (by omega) k1 (by simp) ao m c news hc (by omega) (by omega) kg oF;obtain⟨o1,_⟩:=RF A.own;exact⟨_,aQ,w',hr,o1,A.fr.mono (by simp),λx hx=>.inr (Nat.le_of_eq (by have:=A.at_ x hx;simp at this;exact this.symm))⟩
theorem RZ (T:ax P t e z 1 bytes) {o:Oper} {A:Act} {K:Act->World->Prop} {Q:Exit->Act->World->Prop} (s x:Operand)
  (ho:o.op = .call { callee:=.builtin .append,args:=#[s,x],argTypes:=#[t,t] })
  (a:Option Addr) (n cap:Nat) (xs:List Value) (hs:A.eval s = .slice a n cap) (aA:dP w e a cap xs) (hn:xs.length=n)
  (ao:Option Addr) (m c:Nat) (news:List Value) (hx:A.eval x = .slice ao m c) (rj:m<=c) (bY:ao=none->c=0) (hc:Cs w ao news) (hl:news.length=m) (h1:∀u∈news,u.oneCell'=true)
  (kg:(n+m)*bytes<=140737488355328) (oF:n+m<=maxLen)
  (h:∀a' aQ w',eK w w' e a a' aQ (xs++news)->K (A.put o.dst (.slice a' (n+m) aQ)) w'):o.wp P A w K Q:=by
 obtain⟨a',aQ,w',hr,h2⟩:=qiw (P:=P) T o.type a n cap xs aA hn ao m c news rj bY hc hl h1 kg oF;unfold Oper.wp execOp;simp only[ho,resolve,invoke,builtin,Dm,Sem.run_pure,Ha,List.map_toArray,gW,oJ,hs,hx,hr];exact h a' aQ w' h2
theorem AG (T:ax P t e z 1 bytes) {ops:Array Oper} {rest:List Oper} {o:Oper} {A:Act} {Q:Exit->Act->World->Prop} (qv:o.guard=none) (s x:Operand)
  (ho:o.op = .call { callee:=.builtin .append,args:=#[s,x],argTypes:=#[t,t] })
  (a:Option Addr) (n cap:Nat) (xs:List Value) (hs:A.eval s = .slice a n cap) (aA:dP w e a cap xs) (hn:xs.length=n)
  (ao:Option Addr) (m c:Nat) (news:List Value) (hx:A.eval x = .slice ao m c) (rj:m<=c) (bY:ao=none->c=0) (hc:Cs w ao news) (hl:news.length=m) (h1:∀u∈news,u.oneCell'=true)
  (kg:(n+m)*bytes<=140737488355328) (oF:n+m<=maxLen)
  (h:∀a' aQ w',eK w w' e a a' aQ (xs++news)->wpList P ops Q rest (A.put o.dst (.slice a' (n+m) aQ)) w'):wpList P ops Q (o::rest) A w:=
 wpList_plain qv λ_ hK=>RZ T s x ho a n cap xs hs aA hn ao m c news hx rj bY hc hl h1 kg oF λa' aQ w' h2=>hK _ _ (h a' aQ w' h2)
theorem eK.two {w1 w2 w3:World} {a a2 a3:Option Addr} {c2 c3:Nat} {xs ys:List Value} (A:eK w1 w2 e a a2 c2 xs) (B:eK w2 w3 e a2 a3 c3 ys):eK w1 w3 e a a3 c3 ys:=by
 refine⟨B.own,A.fr.step B.fr λy hy=>A.at_ y hy,λy hy=>?_⟩;rcases B.at_ y hy with h|h
 ·exact A.at_ y h
 ·exact .inr (bS A.fr.size h)
end
end lib
namespace lib
open Go Go.RowKit
theorem zF {S:List Nat} {w w':World} {a:Option Addr} {cap:Nat} {bs:List UInt8} (h:Rd w a cap bs) (f:Fr S w w') (hn:bs≠[]->∀x∈ae a,x∉S):Rd w' a cap bs:=by
 by_cases hb:bs=[]
 ·exact⟨.inl (by rw[hb];rfl),h.le,h.max,h.nil⟩
 ·exact h.gg f (hn hb)
theorem Ag {w:World} {a:Option Addr} {cap:Nat} {bs:List UInt8} (h:Rd w a cap bs) (hb:bs≠[]):∀x∈ae a,x<w.heap.size:=by
 intro x hx;cases a with
 | none=>simp[ae]at hx
 | some a=>simp[ae]at hx;rw[hx];exact h.cs.lt (by simpa using hb) a rfl
theorem Wg {P:Program} {t e:TypeId} {z:Value} {size bytes:Nat} (T:ax P t e z size bytes) (n:Nat) (a:Option Addr) (cap:Nat) (hc:n<=cap) (w:World) :
  (Instr.slice t (.slice a n cap) Option.none (some (.int .i64 n)) (some (.int .i64 n))).run P w = .ok (.slice a n n) w:=by
 obtain⟨hu,⟨i,iK,_,hs,_⟩,_,_⟩:=T;have c1:(0:Int)<=(n:Int)/\(n:Int)<=(cap:Int):=by omega
 have JQ:∀x:Addr,x.add 0=x:=λx=>rfl
 cases a<;>simp[run_underlying hu,Instr.slice,Instr.sliceBounds,Instr.sliceBound,asIntOf,c1,hc,sizeOf,typeInfo,iK,hs,Result.andThen,JQ]
theorem Fe {w:World} {base:Nat} {e:TypeId} {size n:Nat} {xs:List Value} {ao:Option Addr} {len cap:Nat} (h:w.ownsRow base e size (.slice ao len cap) n xs):Cs w ao xs:=by
 rcases h.2 with⟨h1,h2⟩|⟨g,aQ,cur,h1,hb,hg,hn,hm,hs,ht⟩
 ·left;have:=h.1;rw[h2]at this;exact wk (by simpa using this)
 ·simp only[lN]at h1;obtain⟨rfl,rfl,rfl⟩:=h1;refine .inr ⟨g,0,rfl,λj v hv=>?_⟩;rw[cell_of hg,fM];rw[<-ht,oY]at hv;split at hv
  ·simpa using hv
  ·cases hv
theorem zE (w:World) (C:Array Value) (t:TypeId) (fr:Nat×Nat):Cs (w.alloc (.cells C t fr)) (some ⟨w.heap.size,0,none⟩) C.toList:=
 .inr ⟨w.heap.size,0,rfl,λj v hv=>by rw[cell_of (bx w _),fM,<-qW];exact hv⟩
end lib
namespace lib
open Go
theorem Wh {P:Program} {ops:Array Oper} {w:World} {L:Act->Prop}:∀(l:List Oper) (a:Act),wpQuiet P ops (λw'=>w'=w) L l a->wpStill P ops w L l a
 | [],_,h=>h
 | o::rest,a,h=>by
  unfold wpQuiet at h;unfold wpStill;by_cases hw:Region.wanted o (yielded ops a.tmps)=true
  ·rw[if_pos hw]at h ⊢;obtain⟨v,h1,h2⟩:=h;have h3:=h1 w rfl;have h4:=Wh rest _ h2;unfold Oper.quietAt at h3;unfold Oper.still;generalize (execOp a.eval o).run P w=r at *;cases r with
   | ok n w'=>
    cases n<;>simp only[Oper.quietUpon]at h3<;>simp only[Oper.stillUpon];case value u=>exact⟨h3.1,h3.2▸h4⟩
    case skip=>exact⟨h3.1,h3.2▸h4⟩
    case enter f args=>exact⟨h3.1,v,h3.2,h4⟩
   | halt x w'=>simp only[Oper.quietUpon]at h3
  ·rw[if_neg hw]at h ⊢;exact Wh rest _ h
theorem uw {P:Program} {id:Nat} {Q:Exit->Act->World->Prop} {a:Act} {w:World} {l:List Oper} (n:Nat) (hm:P.follows .mixedOrders=true) (hB:Region.lexTailB .any l.toArray n=true)
  (h:wpQuiet P l.toArray (λw'=>w'=w.drew) (λa'=>wpList P l.toArray Q (l.drop n) a' w.drew) (l.take n) a):(Code.region id l.toArray true).wp P Q a w:=
 wp_region_still_tail n hm hB (Wh _ _ h)
end lib
namespace bm
open Go
theorem Co (a b:Nat) (h:a<=b):2^a<=2^b:=kr (by omega) h
theorem E9 (v m k:Nat) (hv:v<2^k):v ||| m*2^k=v+2^k*m:=by rw[Nat.or_comm,nE m,<-Nat.two_pow_add_eq_or_of_lt hv,G0]
theorem qrb (q:Nat):((2:Int)^q-1)=((2^q-1:Nat):Int):=by have:=oZ q;rw[Int.natCast_sub (by omega),Ao];rfl
theorem yJ (q:Nat):((2:Int)^q)=((2^q:Nat):Int):=by rw[Ao];rfl
theorem MW:2^32=4294967296:=by decide
theorem qz3 (x q:Nat) (hx:x<4294967296) (hq:q<=32):bits .and .u32 (x:Int) (((2:Int)^q-1)%4294967296)=((x%2^q:Nat):Int):=by
 have h1:=Co q 32 hq;rw[MW]at h1;have h2:=oZ q;rw[qrb,show ((2^q-1:Nat):Int)%4294967296=((2^q-1:Nat):Int) from by omega,
  u32_and_nat x (2^q-1) hx (by omega),MG]
theorem ze6 {v m k q:Nat} (hm:m<2^q) (Gb:k+q<=32):m*2^k<4294967296:=by have h1:=Co (k+q) 32 Gb;rw[MW,nA]at h1;have h2:m*2^k<2^q*2^k:=Nat.mul_lt_mul_of_pos_right hm (oZ k);rw[nE (2^q)]at h2;omega
theorem Uy (v m k q:Nat) (hv:v<2^k) (hm:m<2^q) (Gb:k+q<=32):bits .or .u32 (v:Int) ((m:Int)*2^k%4294967296)=((v+2^k*m:Nat):Int):=by
 have h3:=ze6 (v:=v) hm Gb;have xO:v<4294967296:=by have:=Co k 32 (by omega);rw[MW]at this;omega
 rw[yJ,<-Cz,show ((m*2^k:Nat):Int)%4294967296=((m*2^k:Nat):Int) from by omega,
  u32_or_nat v (m*2^k) xO h3,E9 v m k hv]
theorem qpy (bs:List UInt8) (a k q vn bn:Nat) (aY:(a+k)/8<bs.length) (hq:(a+k)%8+q<=8) (Gb:k+q<=32)
  (hv:num bs/2^a%2^k=vn) (hb:(bs.getD ((a+k)/8) 0).toNat=bn) :
  bits .or .u32 (vn:Int) (bits .and .u32 ((bn:Int)/2^((a+k)%8)) (((2:Int)^q-1)%4294967296)*2^k%4294967296)=((num bs/2^a%2^(k+q):Nat):Int):=by
 have tF:bn<256:=by rw[<-hb];exact iB _
 have SP:bn/2^((a+k)%8)<4294967296:=Az (Nat.div_le_self _ _) (by omega);have hc:=chunk bs (a+k) q aY hq;rw[hb]at hc;rw[more,hv,hc,yJ ((a+k)%8),<-G6,qz3 _ q SP (by omega),
  Uy vn _ k q (by rw[<-hv];exact vZ _ (oZ _)) (vZ _ (oZ _)) Gb]
theorem qz2 (x m:Nat) (hx:x<18446744073709551616) (hm:m<=32):bits .and .u64 (x:Int) (IntKind.u64.wrap (IntKind.u64.wrap ((2:Int)^m)-1))=((x%2^m:Nat):Int):=by
 have h1:=Co m 32 hm;rw[MW]at h1;have h2:=oZ m;have e:IntKind.u64.wrap (IntKind.u64.wrap ((2:Int)^m)-1)=((2^m-1:Nat):Int):=by rw[IntKind.wrap_u64,IntKind.wrap_u64,yJ];omega
 rw[e,u64_and_nat x (2^m-1) hx (by omega),MG]
theorem zc1 (M L:Nat) (hM:M<2^L):M/2^(8*(L/8))<2^(L%8):=by rw[Hz (oZ _),<-nA];rwa [show L%8+8*(L/8)=L from by omega]
theorem zdm (M L y:Nat):(M+2^L*y)/2^(8*(L/8))=M/2^(8*(L/8))+2^(L%8)*y:=by
 have e:2^L=2^(8*(L/8))*2^(L%8):=by rw[<-nA,Nat.div_add_mod]
 rw[e,vH,LY _ _ (oZ _)]
theorem zey (M L x n:Nat) (hM:M<2^L):M+2^L*(x%2^n)<2^(L+n):=by
 have h:=vZ x (oZ n);rw[nA];calc M+2^L*(x%2^n)<2^L+2^L*(x%2^n):=by omega
  _=2^L*(x%2^n+1):=by rw[Ah,qV,G0]
  _<=2^L*2^n:=LW _ h
theorem zam (M L x m:Nat) (hM:M<2^L) (hx:x<4294967296) (hm:m<=32) :
  bits .or .u64 ((M/2^(8*(L/8)):Nat):Int) (IntKind.u64.wrap (bits .and .u64 (x:Int) (IntKind.u64.wrap (IntKind.u64.wrap ((2:Int)^m)-1))*2^(L%8))) =
   (((M+2^L*(x%2^m))/2^(8*(L/8)):Nat):Int):=by
 have hw:=zc1 M L hM;have hy:x%2^m<2^m:=vZ _ (oZ m);have Nl:x%2^m<4294967296:=Az (Nat.mod_le _ _) hx;have h8:=Co (L%8) 8 (by omega);have hp:x%2^m*2^(L%8)<=4294967296*256:=J9 (by omega) h8;rw[qz2 x m (by omega) hm,zdm,yJ,<-Cz,IntKind.wrap_u64,
  show ((x%2^m*2^(L%8):Nat):Int)%18446744073709551616=((x%2^m*2^(L%8):Nat):Int) from by omega,
  u64_or_nat _ _ (by omega) (by omega),E9 _ _ _ hw]
theorem UJ (x:Int) (k:Nat) (hk:k<=62):bits .and .i64 x ((2^k-1:Nat):Int)=x%2^k:=by
 have h1:=Co k 62 hk;have h2:=oZ k;have JG:2^62=4611686018427387904:=by decide
 rw[JG]at h1;have hx:(BitVec.ofInt 64 x).toNat=(x%18446744073709551616).toNat:=by rw[BitVec.toNat_ofInt];rfl
 have hm:(BitVec.ofInt 64 ((2^k-1:Nat):Int)).toNat=2^k-1:=by rw[BitVec.ofInt_natCast,BitVec.toNat_ofNat];exact Aq (by omega)
 show IntKind.i64.wrap ((BitVec.ofInt 64 x &&& BitVec.ofInt 64 ((2^k-1:Nat):Int)).toNat:Int)=_;rw[BitVec.toNat_and,hx,hm,MG];have h3:(x%18446744073709551616).toNat%2^k<2^k:=vZ _ h2;have h4:(0:Int)<=x%18446744073709551616:=Int.emod_nonneg _ (by decide);have h5:(((x%18446744073709551616).toNat%2^k:Nat):Int)=x%2^k:=by
  rw[Int.natCast_emod,Ht h4,Ao];have hd:((2^k:Nat):Int)∣18446744073709551616:=by refine⟨((2^(64-k):Nat):Int),?_⟩;rw[<-Cz,<-nA,show k+(64-k)=64 from by omega];decide
  rw[Ao]at hd;exact Int.emod_emod_of_dvd x hd
 rw[h5,oh];have h6:(0:Int)<=x%2^k:=Int.emod_nonneg _ (by rw[yJ];omega);have h7:x%2^k<2^k:=Int.emod_lt_of_pos _ (by rw[yJ];omega);rw[yJ]at h7;rw[yJ]at h6 ⊢;omega
end bm
namespace sums
open Go Go.RowKit lib bm
theorem aq:ax Tryz.prog 23 5 (.int .u8 0) 1 1:=ax.of Tryz.underlying23 (by kernel_rfl) rfl (by decide)
theorem jQ (bs:List UInt8):∀u∈bs.map bv,u.oneCell'=true:=by intro u hu;obtain⟨b,_,rfl⟩:=jR.1 hu;rfl
def ad:Nat->Nat->List UInt8->Nat×Nat
 | a,b,[]=>(a,b)
 | a,b,c::t=>ad ((a+c.toNat)%65521) ((b+(a+c.toNat)%65521)%65521) t
theorem ZE:∀(a b:Nat) (l:List UInt8),a<65521->b<65521->(ad a b l).1<65521/\(ad a b l).2<65521
 | _,_,[],ha,hb=>⟨ha,hb⟩
 | a,b,c::t,_,_=>ZE _ _ t (vZ _ (by decide)) (vZ _ (by decide))
def jv (l:List UInt8):Nat:=(ad 1 0 l).2*65536+(ad 1 0 l).1
theorem Q8 (l:List UInt8):jv l<4294967296:=by have:=ZE 1 0 l (by decide) (by decide);unfold jv;omega
def Ad (w:World) (g a b:Nat):Prop:=
 ∃C,w.heap[g]?=some (.cells C 188 (0,0))/\C.size=267/\C[0]?=some (.int .i64 3)/\C[265]?=some (.int .u32 a)/\C[266]?=some (.int .u32 b)/\a<65521/\b<65521
theorem qs0 (w:World):Calls Tryz.prog 106 #[.int .i64 3] w λe w'=>e = .returned (.pointer (some ⟨w.heap.size,0,none⟩))/\Ad w' w.heap.size 1 0/\Fr [] w w':=by go_enter Tryz.func106,Tryz.ntmps106;go_wp2;go_ret;exact⟨rfl,⟨_,bx w _,rfl,rfl,rfl,rfl,by decide,by decide⟩,(Fr.refl [] w).alloc _⟩
theorem qrm (g a0 b0 cap:Nat) (ao:Option Addr) (bs:List UInt8) (w:World) (h:Ad w g a0 b0) (hr:Rd w ao cap bs) (FY:bs≠[]->∀x∈ae ao,x≠g) :
  Calls Tryz.prog 94 #[.pointer (some ⟨g,0,none⟩),.slice ao bs.length cap] w λe w'=>e = .returned (.tuple #[])/\Fr [g] w w'/\Ad w' g (ad a0 b0 bs).1 (ad a0 b0 bs).2:=by
 obtain⟨C,hC,cF,bW,_⟩:=h;have c0:=cell_of hC 0;rw[bW]at c0;obtain⟨L,hL⟩:=ah bs.length;have hle:=hr.le;have dv:=hr.max;unfold maxLen at dv;rw[<-hL]at hle ⊢;have H:=aF (show Ad w g a0 b0 from ⟨C,hC,cF,bW,‹_›⟩) hr FY hL;clear hr FY hL hC cF bW;go_enter Tryz.func94,Tryz.ntmps94;go_upto_block 5 with fail;clear c0;go_wp2;go_loopg [7,93] L (λk s7 s93 wr=>∃i a b:Nat,s93 = .int .i64 (i:Nat)/\i+k=L/\Ad wr g a b/\Fr [g] w wr/\ad a b (bs.drop i)=ad a0 b0 bs);case atStart=>exact⟨0,a0,b0,rfl,by omega,H.o0,Fr.refl _ _,rfl⟩
 case round=>
  obtain⟨i,a,b,rfl,bU,hA,hf,had⟩:=hrel;by_cases hi:i<L
  ·obtain⟨k,rfl⟩:∃k,gk=k+1:=⟨gk-1,by omega⟩;have sF:i<bs.length:=by rw[<-H.l3];exact hi
   have tF:bs≠[]:=by intro e;rw[e]at sF;simp at sF
   have jD:=zF H.o1 hf (λhb x hx hm=>H.o2 hb x hx (by simpa using hm));obtain⟨g1,o1,rfl,cc⟩:=jD.at sF;have hdr:bs.drop i=bs[i]::bs.drop (i+1):=AF sF;rw[hdr,ad]at had;have zaF:=iB bs[i];generalize bs[i].toNat=c at *;obtain⟨C,hC,cF,bW,EA,fx,fh,sD⟩:=hA;have ca:=cell_of hC 265;rw[EA]at ca;have za:=aO hC 265;obtain⟨a2,ua⟩:=ah ((a+c)%65521);obtain⟨b2,jY⟩:=ah ((b+a2)%65521);rw[<-ua,<-jY]at had;have e1:((a:Int)+(c:Int))%65521=(a2:Int):=by omega
   have e2:((b:Int)+(a2:Int))%65521=(b2:Int):=by omega
   have I3:a2<65521:=by omega
   have XE:b2<65521:=by omega
   have HC:=bJ hC cF bW fx hf had;clear hC cF bW fx hf had EA ua jY hdr jD sF;go_upto_region 18 with fail;have f2:Fr [g] wr (wr.setCell ⟨g,265,none⟩ (.int .u32 a2)):=(Fr.refl [g] wr).setCell (by simp) _;have ud:=aX (o:=265) HC.o0 (.int .u32 a2);generalize wr.setCell ⟨g,265,none⟩ (.int .u32 a2)=w2 at *;have ca2:=cell_of ud 265;have LB:=cell_of ud 266;have zb:=aO ud 266;rw[iu (by rw[HC.o1];decide)]at ca2;rw[aZ (by decide),HC.o3]at LB;have GN:=ak ud f2;clear ca za cc ud f2;refine uw 13 (by kernel_rfl) (by kernel_rfl) ?_;simp only[uj];repeat (go_big_quiet_step (fail))
   refine wpQuiet_nil ?_;go_wp2;go_roundg k;case measure=>omega
   case rel=>
    have f3:Fr [g] w2 w2.drew:=Fr.av [g] w2;have hC3:=f3.block g (lt_of_block GN.o0);have PA:(w2.drew).heap[g]?=_:=GN.o0;have YO:=aX (o:=266) PA (.int .u32 b2);refine⟨i+1,a2,b2,by go_num,by omega,⟨_,YO,by simp[HC.o1],?_,?_,?_,I3,XE⟩,((HC.o4.trans GN.l1).trans f3).setCell (by simp) _,HC.l5⟩
    ·rw[aZ (by decide),aZ (by decide),HC.o2]
    ·rw[aZ (by decide),iu (by rw[HC.o1];decide)]
    ·rw[iu (by rw[qX,HC.o1];decide)]
  ·obtain rfl:gk=0:=by omega
   obtain rfl:i=L:=by omega
   have hd:bs.drop i=[]:=CK (by rw[<-H.l3];exact aw _);rw[hd,ad]at had;have HA:=au hA hf had;clear hA hf had hd;go_wp2;go_end0;exact⟨rfl,HA.o1,by rw[<-HA.l2];exact HA.o0⟩
end sums
namespace inf
open Go Go.RowKit lib bm bl huf
def uk (x0 x1:Nat):Bool:=(x0%16==8)&&(decide (x0/16<=7)&&(((x0*256+x1)%31==0)&&(x1/32%2==0)))
def zy (bs:List UInt8) (q:Nat):Nat:=aT bs q*16777216+aT bs (q+1)*65536+aT bs (q+2)*256+aT bs (q+3)
def mP (bs:List UInt8) (m:Nat):Except Nat (List UInt8×Nat):=
 if bs.length<2 then .error 4 else if uk (aT bs 0) (aT bs 1)=false then .error 3 else
 match sY (bs.drop 2) m with
 | .error e=>.error e
 | .ok (out,n)=>if bs.length-(n+2)<4 then .error 4 else if zy bs (n+2)=sums.jv out then .ok (out,n+6) else .error 6
theorem u8_and15 (x:Nat) (h:x<256):bits .and .u8 ((x:Nat):Int) 15=((x%16:Nat):Int):=by
 have aE:∀y:Fin 256,bits .and .u8 ((y.val:Nat):Int) 15=((y.val%16:Nat):Int):=by decide +kernel
 exact aE ⟨x,h⟩
theorem qz0 (x:Nat) (h:x<256):bits .and .u8 ((x:Nat):Int) 32=((x/32%2*32:Nat):Int):=by
 have aE:∀y:Fin 256,bits .and .u8 ((y.val:Nat):Int) 32=((y.val/32%2*32:Nat):Int):=by decide +kernel
 exact aE ⟨x,h⟩
end inf
namespace crc
open Go
def uA:Nat:=3988292384
def st (c:Nat):Nat:=if c%2=1 then (c/2) ^^^ uA else c/2
def xA:Nat->Nat->Nat
 | 0,c=>c
 | k+1,c=>xA k (st c)
theorem Uc {a b:Nat} (h1:a<4294967296) (h2:b<4294967296):a ^^^ b<4294967296:=Nat.xor_lt_two_pow (n:=32) h1 h2
theorem ZG {c:Nat} (h:c<4294967296):st c<4294967296:=by
 unfold st;split
 ·exact Uc (by omega) (by decide)
 ·omega
theorem Z0 (k:Nat):∀{c:Nat},c<4294967296->xA k c<4294967296:=by
 induction k with
 | zero=>intro c h;exact h
 | succ k ih=>intro c h;exact ih (ZG h)
theorem qzu (a b:Nat):(a ^^^ b)/2=a/2 ^^^ b/2:=Nat.xor_div_two
theorem zcz (a b:Nat):(a ^^^ b)%2=(a%2+b%2)%2:=by have:=Nat.xor_mod_two_pow (a:=a) (b:=b) (n:=1);simp only[Nat.pow_one]at this;rw[this];rcases KG a with h|h<;>rcases KG b with k|k<;>rw[h,k]<;>rfl
theorem zep (a b:Nat):st (a ^^^ b)=st a ^^^ st b:=by
 unfold st;rw[qzu,zcz];rcases KG a with h|h<;>rcases KG b with k|k<;>rw[h,k]<;>simp
 ·rw[Nat.xor_assoc]
 ·rw[Nat.xor_assoc,Nat.xor_comm (b/2) uA,<-Nat.xor_assoc]
 ·rw[Nat.xor_assoc,<-Nat.xor_assoc uA,Nat.xor_comm uA,Nat.xor_assoc (b/2),Nat.xor_self,Nat.xor_zero]
theorem zde (k:Nat):∀(a b:Nat),xA k (a ^^^ b)=xA k a ^^^ xA k b:=by
 induction k with
 | zero=>intro a b;rfl
 | succ k ih=>intro a b;show xA k (st (a ^^^ b))=_;rw[zep,ih];rfl
theorem zaa (k:Nat):∀(h:Nat),xA k (2^k*h)=h:=by
 induction k with
 | zero=>intro h;simp[xA]
 | succ k ih=>
  intro h;show xA k (st (2^(k+1)*h))=h;have e:2^(k+1)*h=2*(2^k*h):=by rw[pK,nE (2^k) 2,vH]
  unfold st;rw[e,if_neg (by omega),Nat.mul_div_cancel_left _ (by decide),ih]
theorem GV (x:Nat):x=(2^8*(x/256)) ^^^ (x%256):=by
 have h1:2^8*(x/256)+x%256=x:=by omega
 have h2:=Nat.two_pow_add_eq_or_of_lt (i:=8) (b:=x%256) (by omega) (x/256);apply Nat.eq_of_testBit_eq;intro i;rw[Nat.testBit_xor];conv=>lhs;rw[<-h1,h2]
 rw[Nat.testBit_or,Nat.testBit_two_pow_mul];by_cases hi:8<=i
 ·have:(x%256).testBit i=false:=Nat.testBit_lt_two_pow (eT (vZ x (by decide)) (kr (n:=2) (by decide) hi));rw[this];simp
 ·simp[hi]
def tb (i:Nat):Nat:=xA 8 i
def FK (c:Nat) (b:UInt8):Nat:=xA 8 (c ^^^ b.toNat)
theorem qug (a b:Nat):(a ^^^ b)/256=a/256 ^^^ b/256:=by have:=Nat.xor_div_two_pow (a:=a) (b:=b) (n:=8);simpa using this
theorem zd5 (c:Nat) (b:UInt8):FK c b=c/256 ^^^ tb (c%256 ^^^ b.toNat):=by
 have hb:b.toNat<256:=b.toNat_lt;unfold FK tb;conv=>lhs;rw[GV (c ^^^ b.toNat)]
 rw[zde,zaa,qug,Fg hb,Nat.xor_zero];have:=Nat.xor_mod_two_pow (a:=c) (b:=b.toNat) (n:=8);rw[show (2:Nat)^8=256 from rfl]at this;rw[this,Aq hb]
theorem ze9 {c:Nat} (h:c<4294967296) (b:UInt8):FK c b<4294967296:=Z0 8 (Uc h (by have:=b.toNat_lt;omega))
theorem zf0 {i:Nat} (h:i<256):tb i<4294967296:=Z0 8 (by omega)
def Zf (bs:List UInt8):Nat:=bs.foldl FK 4294967295
def crc (bs:List UInt8):Nat:=4294967295-Zf bs
end crc
namespace obj
open Go Go.RowKit lib
def ef (k:Int):List UInt8:=if k=1 then [99,111,109,109,105,116] else if k=2 then [116,114,101,101] else if k=3 then [98,108,111,98] else if k=4 then [116,97,103] else []
def nH:Array Value:=#[.string ⟨#[]⟩,.string ⟨#[99,111,109,109,105,116]⟩,.string ⟨#[116,114,101,101]⟩,.string ⟨#[98,108,111,98]⟩,.string ⟨#[116,97,103]⟩]
theorem Nf:(Tryz.prog.info? 160).map (·.size)=some 5:=by kernel_rfl
theorem V8 {fn:Func} {p:Tmp} (h:fn.results=#[.cell p 160]) (tmps:Array Value) (w:World) (g:Nat) (cs:Array Value) (fr:Nat×Nat)
  (hp:tmps.getD p undef = .pointer (some ⟨g,0,none⟩)) (hg:w.heap[g]?=some (.cells cs 160 fr)) (hs:cs.size=5):(results fn tmps).run Tryz.prog w = .ok (.agg cs) w:=
 results_cell_row h tmps w g 160 cs fr _ hp hg Tryz.underlying160 rfl (by rw[Nf,hs])
theorem qxi (w:World):Calls Tryz.prog 92 #[] w λe w'=>e = .returned (.agg nH)/\Fr [] w w':=by go_enter Tryz.func92,Tryz.ntmps92;go_wp2;exact bodyPost_ret (V8 rfl _ _ w.heap.size _ (0,0) rfl (bx w _) rfl) rfl ⟨rfl,(Fr.refl [] w).alloc _⟩
theorem U3 (k:Int) (w:World):Calls Tryz.prog 62 #[.int .i64 k] w λe w'=>e = .returned (.string (str (ef k)))/\Fr [] w w':=by
 by_cases h0:k<0
 ·have hn:ef k=[]:=by unfold ef;rw[if_neg (by omega),if_neg (by omega),if_neg (by omega),if_neg (by omega)]
  rw[hn];go_enter Tryz.func62,Tryz.ntmps62;go_wp2;go_ret;exact⟨rfl,Fr.refl _ _⟩
 ·by_cases h4:4<k
  ·have hn:ef k=[]:=by unfold ef;rw[if_neg (by omega),if_neg (by omega),if_neg (by omega),if_neg (by omega)]
   rw[hn];go_enter Tryz.func62,Tryz.ntmps62;go_wp2;go_ret;exact⟨rfl,Fr.refl _ _⟩
  ·have hk:k=0\/k=1\/k=2\/k=3\/k=4:=by omega
   have i0:∀w:World,(Instr.index 160 (.agg nH) (.int .i64 0)).run Tryz.prog w = .ok (.string ⟨#[]⟩) w:=λw=>by kernel_rfl
   have i1:∀w:World,(Instr.index 160 (.agg nH) (.int .i64 1)).run Tryz.prog w = .ok (.string ⟨#[99,111,109,109,105,116]⟩) w:=λw=>by kernel_rfl
   have i2:∀w:World,(Instr.index 160 (.agg nH) (.int .i64 2)).run Tryz.prog w = .ok (.string ⟨#[116,114,101,101]⟩) w:=λw=>by kernel_rfl
   have i3:∀w:World,(Instr.index 160 (.agg nH) (.int .i64 3)).run Tryz.prog w = .ok (.string ⟨#[98,108,111,98]⟩) w:=λw=>by kernel_rfl
   have i4:∀w:World,(Instr.index 160 (.agg nH) (.int .i64 4)).run Tryz.prog w = .ok (.string ⟨#[116,97,103]⟩) w:=λw=>by kernel_rfl
   clear h0 h4;rcases hk with rfl|rfl|rfl|rfl|rfl
   all_goals
    go_enter Tryz.func62,Tryz.ntmps62
    go_wp2_with (go_at_call 92;refine (qxi _).mono ?_;rintro e w1 ⟨rfl,f1⟩)
    go_ret
    exact⟨rfl,f1⟩
theorem qwr (k:Int) (w:World):Calls Tryz.prog 84 #[.int .i64 k] w λe w'=>e = .returned (.string (str (ef k)))/\Fr [] w w':=by
 by_cases h0:k<0
 ·have hn:ef k=[]:=by unfold ef;rw[if_neg (by omega),if_neg (by omega),if_neg (by omega),if_neg (by omega)]
  rw[hn];go_enter Tryz.func84,Tryz.ntmps84;go_wp2;go_ret;exact⟨rfl,(Fr.refl [] w).alloc _⟩
 ·by_cases h4:4<k
  ·have hn:ef k=[]:=by unfold ef;rw[if_neg (by omega),if_neg (by omega),if_neg (by omega),if_neg (by omega)]
   rw[hn];go_enter Tryz.func84,Tryz.ntmps84;go_wp2;go_ret;exact⟨rfl,(Fr.refl [] w).alloc _⟩
  ·have hk:k=0\/k=1\/k=2\/k=3\/k=4:=by omega
   clear h0 h4;rcases hk with rfl|rfl|rfl|rfl|rfl
   all_goals
    go_enter Tryz.func84,Tryz.ntmps84
    go_wp2
    go_ret
    exact⟨rfl,(Fr.refl [] w).alloc _⟩
end obj
namespace bm
open Go Go.RowKit
theorem qqm (a:Nat) (ha:a<9223372036854775808):(BitVec.ofInt 64 (a:Int)).toNat=a:=by rw[BitVec.ofInt_natCast,BitVec.toNat_ofNat];exact Aq (by omega)
theorem ML (a b:Nat) (ha:a<9223372036854775808) (hb:b<9223372036854775808):bits .or .i64 (a:Int) (b:Int)=((a ||| b:Nat):Int):=by
 have hx:a ||| b<2^63:=Nat.or_lt_two_pow (by omega) (by omega)
 show IntKind.i64.wrap ((BitVec.ofInt 64 (a:Int) ||| BitVec.ofInt 64 (b:Int)).toNat:Int)=_;rw[BitVec.toNat_or,qqm a ha,qqm b hb,oh];omega
theorem Mg (n v k:Nat) (hk:k<=62) (hv:v<2^k) (hn:n*2^k<9223372036854775808):bits .or .i64 ((n:Int)*((2^k:Nat):Int)) (v:Int)=((n*2^k+v:Nat):Int):=by
 have h1:=Co k 62 hk;have JG:2^62=4611686018427387904:=by decide
 rw[JG]at h1;rw[<-Cz,ML _ _ hn (by omega),Nat.or_comm,E9 v n k hv,nE n,G0]
end bm
namespace lib
open Go Go.RowKit
theorem qtd (bs:List UInt8):(str bs).size=bs.length:=by simp[str,ByteArray.size]
section
variable {P : Program} {w : World} {t u e : TypeId}
end
section
variable {P : Program} {w : World} {ops : Array Oper} {rest : List Oper} {o : Oper} {a : Act} {Q : Exit -> Act -> World -> Prop} {t : TypeId}
theorem DB (a b:List UInt8):str a++str b=str (a++b):=by apply ByteArray.ext;simp[str,ByteArray.data_append]
end
end lib
namespace obj
open Go Go.RowKit lib
theorem Uh {m:Nat} (h:9<m):Lib.decDigits m=Lib.decDigits (m/10)++[UInt8.ofNat (48+m%10)]:=by rw[Lib.decDigits,dif_neg (by omega)]
theorem Vp {m:Nat} (h:¬9<m):Lib.decDigits m=[UInt8.ofNat (48+m)]:=by rw[Lib.decDigits,dif_pos (by omega)]
theorem P0 (x:Nat) (h:x<10):((UInt8.ofNat (48+x)).toNat:Nat)=48+x:=by rw[AA];omega
theorem qve (N:Nat) (w:World) (hN:N<=140737488355328):Calls Tryz.prog 85 #[.int .i64 N] w λe w'=>e = .returned (.string (str (Lib.decDigits N)))/\Fr [] w w':=by
 go_enter Tryz.func85,Tryz.ntmps85;go_wp2;go_loopg [0,3] N (λk s0 s3 wr=>∃(m:Nat) (t:List UInt8),s0 = .int .i64 (m:Nat)/\s3 = .string (str t)/\m<=k/\t.length+m<=N/\Lib.decDigits m++t=Lib.decDigits N/\Fr [] w wr);case atStart=>exact⟨N,[],rfl,rfl,aw _,by simp,by simp,Fr.refl _ _⟩
 case round=>
  obtain⟨m,t,rfl,rfl,hk,hm,he,hf⟩:=hrel;have H:=ak he hf;clear he hf;have Sj:(str t).size=t.length:=by simp[str,ByteArray.size]
  have HN:=af hm;have nL:t.length<=140737488355328:=by omega
  have jq:m<=140737488355328:=by omega
  obtain⟨T,hT⟩:=ah (str t);rw[<-hT]at Sj ⊢;have hTs:T.size<=140737488355328:=by omega
  have HTT:=af hT;clear Sj hm hT nL;by_cases h9:9<m
  ·obtain⟨z,hz⟩:=ah (str [UInt8.ofNat (48+m%10)]);have Nj:z.size=1:=by rw[hz];rfl
   have cv:∀c,(convert 23 9 (.slice (some ⟨wr.heap.size,0,none⟩) 1 c)).run Tryz.prog (wr.alloc (.cells #[.int .u8 (48+(m:Int)%10)] 5)) = .ok (.string z) (wr.alloc (.cells #[.int .u8 (48+(m:Int)%10)] 5)):=by
    rw[hz];exact yK _ Tryz.underlying23 Tryz.underlying5 Tryz.underlying9 (ao:=some ⟨wr.heap.size,0,none⟩) (n:=1) rfl (.inr ⟨wr.heap.size,0,rfl,λj u hj=>by
     rw[cell_of (bx wr _)]
     cases j with
     | zero=>simp only[gW,oJ,aV,bv,P0 _ (show m%10<10 by omega)]at hj;rw[<-hj];simp
     | succ j=>simp at hj⟩)
   have HZ:=af hz;clear hz;go_wp2;go_roundg (m/10);case measure=>omega
   case rel=>exact⟨m/10,[UInt8.ofNat (48+m%10)]++t,by go_num,by rw[HZ.out,HTT.out,DB],aw _,by have:=HN.out;simp;omega,by rw[<-gH,<-Uh h9];exact H.o0,H.l1.alloc _⟩
  ·obtain⟨z,hz⟩:=ah (str [UInt8.ofNat (48+m)]);have Nj:z.size=1:=by rw[hz];rfl
   have cv:∀c,(convert 23 9 (.slice (some ⟨wr.heap.size,0,none⟩) 1 c)).run Tryz.prog (wr.alloc (.cells #[.int .u8 (48+(m:Int))] 5)) = .ok (.string z) (wr.alloc (.cells #[.int .u8 (48+(m:Int))] 5)):=by
    rw[hz];exact yK _ Tryz.underlying23 Tryz.underlying5 Tryz.underlying9 (ao:=some ⟨wr.heap.size,0,none⟩) (n:=1) rfl (.inr ⟨wr.heap.size,0,rfl,λj u hj=>by
     rw[cell_of (bx wr _)]
     cases j with
     | zero=>simp only[gW,oJ,aV,bv,P0 _ (show m<10 by omega)]at hj;rw[<-hj];simp
     | succ j=>simp at hj⟩)
   have HZ:=af hz;clear hz;go_wp2;go_ret;exact⟨by rw[<-H.o0,Vp h9,<-DB,<-HZ.out,<-HTT.out];rfl,H.l1.alloc _⟩
def header (k:Int) (n:Nat):List UInt8:=ef k++[32]++Lib.decDigits n++[0]
theorem UL (k:Int):(ef k).length<=6:=by unfold ef;repeat (split<;>first|decide|skip)
theorem zfk (n:Nat):(Lib.decDigits n).length<=n+1:=by
 induction n using Nat.strongRecOn with
 | _ n ih=>
  by_cases h:9<n
  ·rw[Uh h,aK];have:=ih (n/10) (by omega);simp only[cQ,lK];omega
  ·rw[Vp h];simp
theorem Uf:∀(k n:Nat),0<k->n<10^k->(Lib.decDigits n).length<=k
 | 0,n,h,_=>by omega
 | k+1,n,_,hn=>by
  by_cases h:9<n
  ·rw[Uh h,aK];have h1:n/10<10^k:=by rw[pK]at hn;omega
   have hk:0<k:=by
    rcases Nat.eq_zero_or_pos k with rfl|hk
    ·simp at h1;omega
    ·exact hk
   have:=Uf k (n/10) hk h1;simp only[cQ,lK];omega
  ·rw[Vp h];simp
theorem VI (k:Int) (n:Nat) (hn:n<=140737488355328):(header k n).length<=24:=by
 have h1:=UL k;have h2:=Uf 16 n (by decide) (by
  have:10^16=10000000000000000:=by decide
  omega)
 unfold header;simp only[aK,cQ,lK];omega
theorem qrz (k:Int) (n:Nat) (w:World) (hn:n<=140737488355328):Calls Tryz.prog 52 #[.int .i64 k,.int .i64 n] w λe w'=>e = .returned (.string (str (header k n)))/\Fr [] w w':=by
 obtain⟨A,hA⟩:=ah (str (ef k));obtain⟨D,hD⟩:=ah (str (Lib.decDigits n));have cG:A.size<=6:=by have:=UL k;rw[hA];simpa[str,ByteArray.size] using this
 have YL:D.size<=140737488355329:=by
  have:=zfk n;have e:(str (Lib.decDigits n)).size=(Lib.decDigits n).length:=by simp[str,ByteArray.size]
  rw[hD,e];omega
 have h1:=λw'=>qwr k w'
 have h2:=λw'=>qve n w' (by omega)
 rw[<-hA]at h1;rw[<-hD]at h2;have H:=aF h1 h2 hA hD;clear h1 h2 hA hD;go_enter Tryz.func52,Tryz.ntmps52;go_wp2_with (first
  | (go_at_call 84;refine (H.o0 _).mono ?_;rintro e w1 ⟨rfl,f1⟩)
  | (go_at_call 85;refine (H.o1 _).mono ?_;rintro e w2 ⟨rfl,f2⟩)
  | (refine Fy (n:Int) rfl _ _ _ rfl (n:Int) 0 rfl rfl (by split<;>omega) ?_))
 go_ret;have e1:({ data:=#[32] }:ByteArray)=str [32]:=rfl;have e0:({ data:=#[0] }:ByteArray)=str [0]:=rfl;exact⟨by unfold header;rw[<-DB,<-DB,<-DB,<-H.o2,<-H.l3,<-e1,<-e0];rfl,f1.trans f2⟩
end obj

end Go.Proofs.YtkmpfgpfbmeihaaGreatDoor