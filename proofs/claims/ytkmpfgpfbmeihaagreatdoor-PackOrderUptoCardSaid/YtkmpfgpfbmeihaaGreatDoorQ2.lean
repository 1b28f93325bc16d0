/-
  Texts of this proof, one behind the other: HuffN, BitMore, InflLaw, AppFull, AppMid, RdMore, Tail, BitsOps, SumA, InfZL, CrcLaw, ObjName, BitsInt, AppStr, Digits, RHeader.
-/
import Derived.Test.YtkmpfgpfbmeihaaGreatDoorQ1
import Derived.StillTailTactics
import Derived.Deep.DeepCutAuto
import Derived.Deep.LoopGhost
import Derived.Deep.CutBlock
import Derived.WalkMore
import Derived.Laws.ResultCell
import Derived.Laws.Rows
import Derived.Lib.AppendStr
import Derived.Lib.ItoaNum
set_option maxHeartbeats 16000000
set_option maxRecDepth 100000
set_option linter.unusedVariables false
set_option linter.unusedSimpArgs false
namespace Go.Proofs.YtkmpfgpfbmeihaaGreatDoor
namespace huf
open Go
def syms (ls:LN) (l i:Nat):List Nat:=(List.range i).filter λj=>ae ls j==l
theorem WG (ls:LN) (l:Nat):syms ls l 0=[]:=rfl
theorem WE (ls:LN) (l i:Nat):syms ls l (i+1)=syms ls l i++if ae ls i=l then [i] else []:=by
 unfold syms;rw[List.range_succ,D8];by_cases h:ae ls i=l
 ·simp[h]
 ·simp[h]
theorem Xq (ls:LN) (l:Nat):∀i,i<=ls.length->(syms ls l i).length=(ls.take i).count l
 | 0,_=>by simp[WG]
 | i+1,h=>by rw[WE,aA,Xq ls l i (by omega),Ta ls i l (by omega)];split<;>simp
theorem V0 (ls:LN) (l:Nat):∀(i:Nat),i<=ls.length->∀(t s:Nat),(syms ls l i)[t]?=some s->ae ls s=l/\(ls.take s).count l=t/\s<i
 | 0,_,t,s,h=>by simp[WG]at h
 | i+1,hi,t,s,h=>by
  rw[WE,List.getElem?_append]at h;split at h
  ·have:=V0 ls l i (by omega) t s h;exact⟨this.1,this.2.1,by omega⟩
  ·rename_i bg;split at h
   ·rename_i hl;have ht:t-(syms ls l i).length=0:=by have:=(jq.1 h).1;simp at this;omega
    rw[ht]at h;simp at h;subst h;have:=Xq ls l i (by omega);exact⟨hl,by omega,by omega⟩
   ·simp at h
theorem qq0 {ls:LN} {l t s:Nat} (h:(syms ls l ls.length)[t]?=some s):ae ls s=l/\code ls s=gZ ls l+t/\s<ls.length:=by obtain⟨h1,h2,h3⟩:=V0 ls l ls.length (ay _) t s h;exact⟨h1,by unfold code;rw[h1,h2],h3⟩
theorem qut {ls:LN} {s:Nat} (hs:s<ls.length):(syms ls (ae ls s) ls.length)[(ls.take s).count (ae ls s)]?=some s:=by
 have dP:s∈syms ls (ae ls s) ls.length:=by simp[syms,hs]
 obtain⟨t,ht,e⟩:=List.getElem_of_mem dP;have h2:=(V0 ls _ ls.length (ay _) t s (by rw[br ht,e])).2.1;rw[h2,br ht,e]
theorem qz4 {ls:LN} {n v s:Nat} (hn:0<n) (hv:gZ ls n<=v) (h:(syms ls n ls.length)[v-gZ ls n]?=some s):iq ls n v=some s:=by
 obtain⟨h1,h2,h3⟩:=qq0 h;have hc:code ls s=v:=by omega
 have:=qz7 ls s (by omega);rw[h1,hc]at this;exact this
theorem qz5 {ls:LN} {n v:Nat} (h:n=0\/v<gZ ls n\/(syms ls n ls.length).length<=v-gZ ls n):iq ls n v=none:=by
 unfold iq;rw[KZ];intro s hs hp;simp only[td]at hs;simp only[lQ,decide_eq_true_eq,beq_iff_eq]at hp;obtain⟨h0,h1,h2⟩:=hp;have hg:=qut hs;rw[h1]at hg;have bg:=(jq.1 hg).1;have hc:code ls s=gZ ls n+(ls.take s).count n:=by unfold code;rw[h1]
 omega
def meets (ls:LN) (n v l:Nat):Bool:=decide (0<(syms ls l ls.length).length)&&(decide (gZ ls l<(v+1)*2^(l-n))&&decide (v*2^(l-n)<gZ ls l+(syms ls l ls.length).length))
theorem qws {ls:LN} {n v l:Nat} (hl:n<l) (h:meets ls n v l=true):ef ls n v=true:=by
 simp only[meets,lQ,decide_eq_true_eq]at h;obtain⟨h0,h1,h2⟩:=h;have hp:0<2^(l-n):=nQ _;obtain⟨t,ht,Yc⟩:∃t,t<(syms ls l ls.length).length/\(gZ ls l+t)/2^(l-n)=v:=by
  by_cases hc:v*2^(l-n)<=gZ ls l
  ·exact⟨0,h0,by rw[ie];exact Nat.div_eq_of_lt_le hc h1⟩
  ·refine⟨v*2^(l-n)-gZ ls l,by omega,?_⟩;rw[show gZ ls l+(v*2^(l-n)-gZ ls l)=v*2^(l-n) by omega];exact Nat.mul_div_cancel _ hp
 obtain⟨s,hs⟩:∃s,(syms ls l ls.length)[t]?=some s:=⟨_,br ht⟩;obtain⟨k1,k2,k3⟩:=qq0 hs;unfold ef;rw[List.any_eq_true];refine⟨s,td.2 k3,?_⟩;simp only[lQ,decide_eq_true_eq,beq_iff_eq];rw[k1,k2];exact⟨hl,Yc⟩
theorem qtq {ls:LN} {n v:Nat} {m:Nat} (hm:∀s,s<ls.length->ae ls s<=m) (h:∀l,n<l->l<=m->meets ls n v l=false):ef ls n v=false:=by
 unfold ef;rw[List.any_eq_false];intro s hs hp;simp only[td]at hs;simp only[lQ,decide_eq_true_eq,beq_iff_eq]at hp;obtain⟨h1,h2⟩:=hp;have hx:=h (ae ls s) h1 (hm s hs);have hg:=qut hs;have bg:=(jq.1 hg).1;have hc:code ls s=gZ ls (ae ls s)+(ls.take s).count (ae ls s):=rfl;have hp:0<2^(ae ls s-n):=nQ _;have rQ:v*2^(ae ls s-n)<=code ls s:=by rw[<-h2];exact Nat.div_mul_le_self _ _
 have Me:code ls s<(v+1)*2^(ae ls s-n):=(Dg hp).1 (by rw[h2];exact Nat.lt_succ_self v);have:meets ls n v (ae ls s)=true:=by simp only[meets,lQ,decide_eq_true_eq];exact⟨by omega,by omega,by omega⟩
 rw[this]at hx;cases hx
end huf
namespace bl
open Go bm
theorem qpi (l:List Bool) (k:Nat) (h:k<=l.length):cG l=cG (l.take k)+2^k*cG (l.drop k):=by have h1:=FV (l.take k) (l.drop k);rw[Df,dU,uP h]at h1;exact h1
theorem S8 (l:List Bool) (k:Nat):cG (l.take k)<2^k:=by have h1:=qua (l.take k);have h2:2^(l.take k).length<=2^k:=kh (by decide) (by rw[dU];omega);omega
theorem zbc (l:List Bool) (k:Nat) (h:k<=l.length):cG l/2^k=cG (l.drop k):=by rw[qpi l k h,MZ _ _ (nQ k),DY (S8 l k),ft]
theorem zbb (l:List Bool) (k:Nat) (h:k<=l.length):cG l%2^k=cG (l.take k):=by rw[qpi l k h,Nat.add_mul_mod_self_left,x9 (S8 l k)]
theorem zc6 (bs:LB) (a n:Nat) (h:a+n<=8*bs.length):num bs/2^a%2^n=cG (((au bs).drop a).take n):=by rw[<-Lq,zbc _ _ (by rw[uo];omega),zbb _ _ (by rw[eV,uo];omega)]
theorem qxd (bs:LB) (q n:Nat):au ((bs.drop q).take n)=((au bs).drop (8*q)).take (8*n):=by
 have hd:∀(q:Nat) (bs:LB),au (bs.drop q)=(au bs).drop (8*q):=λq=>by
  induction q with
  | zero=>intro bs;rfl
  | succ q ih=>
   intro bs;cases bs with
   | nil=>simp[au]
   | cons c t=>have e:(dM 8 c.toNat++au t).drop 8=au t:=List.drop_left' (ax 8 c.toNat);rw[wO,ih,NW,show 8*(q+1)=8+8*q from by omega,<-C5,e]
 have ht:∀(n:Nat) (bs:LB),au (bs.take n)=(au bs).take (8*n):=λn=>by
  induction n with
  | zero=>intro bs;simp[au]
  | succ n ih=>
   intro bs;cases bs with
   | nil=>simp[au]
   | cons c t=>rw[qs,NW,NW,ih,show 8*(n+1)=(dM 8 c.toNat).length+8*n from by rw[ax];omega,List.take_length_add_append]
 rw[ht,hd]
end bl
namespace inf
open Go bm bl huf
def aY (bs:LB) (a n:Nat):Except Nat (Nat×Nat):=
 if a+n<=8*bs.length then .ok (cG (((au bs).drop a).take n),a+n) else .error 4
def jA (most:Nat) (out:LB) (c:UInt8):Except Nat (List UInt8):=
 if most<=out.length then .error 5 else .ok (out++[c])
def lD (bs:LB) (ls:LN) (a:Nat):Except Nat (Nat×Nat):=
 if (cu ls 15 0 0 ((au bs).drop a)).2.2=0 then .ok ((cu ls 15 0 0 ((au bs).drop a)).1,a+(cu ls 15 0 0 ((au bs).drop a)).2.1)
 else .error (cu ls 15 0 0 ((au bs).drop a)).2.2
def aO (bs:LB) (i:Nat):Nat:=(bs[i]?.getD 0).toNat
def df (bs:LB) (most:Nat):Nat->List UInt8->Nat->Except Nat (List UInt8×Nat)
 | 0,out,q=>.ok (out,8*q)
 | n+1,out,q=>if q<bs.length then
   match jA most out (bs[q]?.getD 0) with
   | .error e=>.error e
   | .ok o=>df bs most n o (q+1)
  else .error 4
def fE (bs:LB) (most:Nat) (out:LB) (a:Nat):Except Nat (List UInt8×Nat):=
 if (a+7)/8+4<=bs.length then
  if aO bs ((a+7)/8)+aO bs ((a+7)/8+2)=255/\aO bs ((a+7)/8+1)+aO bs ((a+7)/8+3)=255 then
   df bs most (aO bs ((a+7)/8)+256*aO bs ((a+7)/8+1)) out ((a+7)/8+4)
  else .error 3
 else .error 4
def cL (bs:LB) (s a:Nat):Except Nat (Nat×Nat):=
 if s<265 then .ok (s-254,a) else if s=285 then .ok (258,a) else
  match aY bs a ((s-261)/4) with
  | .error e=>.error e
  | .ok (v,a1)=>.ok (3+(4+(s-265)%4)*2^((s-261)/4)+v,a1)
def gu (bs:LB) (s a:Nat):Except Nat (Nat×Nat):=
 if s<4 then .ok (s+1,a) else
  match aY bs a ((s-2)/2) with
  | .error e=>.error e
  | .ok (v,a1)=>.ok (1+(2+s%2)*2^((s-2)/2)+v,a1)
def j7 (most back:Nat):Nat->List UInt8->Except Nat (List UInt8)
 | 0,out=>.ok out
 | n+1,out=>match jA most out (out[out.length-back]?.getD 0) with
  | .error e=>.error e
  | .ok o=>j7 most back n o
def eY (bs:LB) (most:Nat) (dl:LN) (s:Nat) (out:LB) (a:Nat):Except Nat (List UInt8×Nat):=
 match cL bs s a with
 | .error e=>.error e
 | .ok (n,a1)=>match lD bs dl a1 with
  | .error e=>.error e
  | .ok (d,a2)=>if 30<=d then .error 3 else match gu bs d a2 with
   | .error e=>.error e
   | .ok (back,a3)=>if out.length<back then .error 3 else match j7 most back n out with
    | .error e=>.error e
    | .ok o=>.ok (o,a3)
def cU (bs:LB) (most:Nat) (ll dl:LN):Nat->List UInt8->Nat->Except Nat (List UInt8×Nat)
 | 0,_,_=>.error 0
 | f+1,out,a=>match lD bs ll a with
  | .error e=>.error e
  | .ok (s,a1)=>if s<256 then
    match jA most out (UInt8.ofNat s) with
    | .error e=>.error e
    | .ok o=>cU bs most ll dl f o a1
   else if s=256 then .ok (out,a1) else if 286<=s then .error 3 else
    match eY bs most dl s out a1 with
    | .error e=>.error e
    | .ok (o,a2)=>cU bs most ll dl f o a2
def fuel (bs:LB):Nat:=8*bs.length+1
def kM (i:Nat):Nat:=if i<144 then 8 else if i<256 then 9 else if i<280 then 7 else 8
def fixed (n:Nat):List Nat:=(List.range n).map kM
def wV (bs:LB) (most:Nat) (out:LB) (a:Nat):Except Nat (List UInt8×Nat):=cU bs most (fixed 288) (List.replicate 32 5) (fuel bs) out a
def some_ (ls:LN):Nat:=(ls.filter λl=>decide (0<l)).length
def ones (ls:LN):Bool:=ls.all λl=>decide (l<=1)
def dG (ls:LN) (few:Bool):Bool:=decide (weight ls<=32768)&&(decide (weight ls=32768)||(few&&(decide (some_ ls<2)&&ones ls)))
def places:List Nat:=[16,17,18,0,8,7,9,6,10,5,11,4,12,3,13,2,14,1,15]
def eM (bs:LB):List Nat->List Nat->Nat->Except Nat (List Nat×Nat)
 | [],fs,a=>.ok (fs,a)
 | i::t,fs,a=>match aY bs a 3 with
  | .error e=>.error e
  | .ok (v,a1)=>eM bs t (fs.set i v) a1
def least (s:Nat):Nat:=if s=18 then 11 else 3
def wide (s:Nat):Nat:=if s=17 then 3 else if s=18 then 7 else 2
def cD (bs:LB) (ls:LN) (n:Nat):Nat->List Nat->Nat->Except Nat (List Nat×Nat)
 | 0,_,_=>.error 0
 | f+1,out,a=>if n<=out.length then .ok (out,a) else match lD bs ls a with
  | .error e=>.error e
  | .ok (s,a1)=>if s<16 then cD bs ls n f (out++[s]) a1 else
   match aY bs a1 (wide s) with
   | .error e=>.error e
   | .ok (v,a2)=>if (s=16/\out=[])\/n-out.length<least s+v then .error 3 else
    cD bs ls n f (out++List.replicate (least s+v) (if s=16 then out.getLast?.getD 0 else 0)) a2
def qz (bs:LB) (most:Nat) (out:LB) (lit jW:Nat) (fs:LN) (a:Nat):Except Nat (List UInt8×Nat):=
 match cD bs fs (lit+257+jW+1) (lit+257+jW+1+1) [] a with
 | .error e=>.error e
 | .ok (ls,a5)=>if ae ls 256=0 then .error 3 else if dG (ls.take (lit+257)) false=false then .error 3 else if dG (ls.drop (lit+257)) true=false then .error 3 else
  cU bs most (ls.take (lit+257)) (ls.drop (lit+257)) (fuel bs) out a5
def qA (bs:LB) (most:Nat) (out:LB) (lit jW n a:Nat):Except Nat (List UInt8×Nat):=
 match eM bs (places.take (n+4)) (List.replicate 19 0) a with
 | .error e=>.error e
 | .ok (fs,a4)=>if dG fs false=false then .error 3 else qz bs most out lit jW fs a4
def nr (bs:LB) (most:Nat) (out:LB) (a:Nat):Except Nat (List UInt8×Nat):=
 match aY bs a 5 with
 | .error e=>.error e
 | .ok (lit,a1)=>if 29<lit then .error 3 else match aY bs a1 5 with
  | .error e=>.error e
  | .ok (jW,a2)=>if 29<jW then .error 3 else match aY bs a2 4 with
   | .error e=>.error e
   | .ok (n,a3)=>qA bs most out lit jW n a3
def eZ (bs:LB) (most h:Nat) (out:LB) (a:Nat):Except Nat (List UInt8×Nat):=
 if h=0 then fE bs most out a else if h=1 then wV bs most out a else nr bs most out a
def dB (bs:LB) (most:Nat):Nat->List UInt8->Nat->Except Nat (List UInt8×Nat)
 | 0,_,_=>.error 0
 | f+1,out,a=>match aY bs a 1 with
  | .error e=>.error e
  | .ok (last,a1)=>match aY bs a1 2 with
   | .error e=>.error e
   | .ok (h,a2)=>if h=3 then .error 3 else match eZ bs most h out a2 with
    | .error e=>.error e
    | .ok (o,a3)=>if last=0 then dB bs most f o a3 else .ok (o,a3)
def kL (bs:LB) (most:Nat):Except Nat (List UInt8×Nat):=
 match dB bs most (fuel bs) [] 0 with
 | .error e=>.error e
 | .ok (o,a)=>.ok (o,(a+7)/8)
end inf
namespace lib
open Go Go.RowKit
section
variable {P : Program} {w : World} {t e : TypeId} {z : Value} {size bytes : Nat}
theorem UU {g o:Nat} {vs:LV} (h:∀j v,vs[j]?=some v->w.cell? ⟨g,o+j,none⟩=some v):∀j v,vs[j]?=some v->w.cell? ((⟨g,o,none⟩:Addr).add j)=some v:=λj v hv=>by rw[Bb];exact h j v hv
theorem XB (T:az P t e z size bytes) (ty:TypeId) (b:OA) (n c:Nat) (km:LV) (hb:Cs w b km) (iw:km.length=n*size) (Jk:n<=c) (xB:b=none->c=0)
  (ao:OA) (m c':Nat) (news:LV) (hc:Cs w ao news) (hl:news.length=m*size) (lU:c<n+m)
  (kA:(n+m)*bytes<=140737488355328) (oR:n+m<=maxLen) :
  ∃aS w',(Builtin.append_ #[t,t] ty #[.slice b n c,.slice ao m c']).run P w = .ok (.slice (some ⟨w.heap.size,0,none⟩) (n+m) aS) w'/\aV w w' e size [] (some ⟨w.heap.size,0,none⟩) (n+m) aS (km++news):=by
 obtain⟨hu,⟨i,hi,hz,hs,Cf⟩,uv,hp⟩:=T;have Yg:n+m<=9223372036854775807:=by simp only[maxLen]at oR;omega
 have cQ:0<news.length:=by rw[hl];exact Nat.mul_pos (by omega) hp
 obtain⟨g,o,rfl,kQ⟩:=hc.at cQ;have xq:=UU kQ;have key:∀(old:Nat),old<n+m->aV w (w.drew.alloc (.cells (km.toArray++news.toArray++Builtin.zeroCells z.cells (grownCap w (n+m) old e-(n+m))) e)) e size []
   (some ⟨w.heap.size,0,none⟩) (n+m) (grownCap w (n+m) old e) (km++news):=by
  intro old ho
  have B7:=grownCap_ge w (n+m) old e
  have nT:grownCap w (n+m) old e<=maxLen:=grownCap_le_maxLen w (n+m) old e oR
  refine⟨⟨by rw[aA,iw,hl,oV],.inr ⟨w.heap.size,_,_,rfl,ep _,heap_alloc_new w.drew _,B7,nT,?_,?_⟩⟩,(Fr.av [] w).alloc _,λx hx=>by right;simpa[af] using hx,B7,nT,λh=>by cases h⟩
  ·simp only[Array.size_append,List.size_toArray,size_zeroCells,uv,iw,hl]
   rw[<-oV,<-oV]
   congr 1
   omega
  ·simp only[Array.toList_append]
   rw[IG (by simp[iw,hl,oV])]
   rw[mL (by simp[iw,hl,oV])]
 cases b with
 | none=>
  have bZ:=xB rfl;subst bZ;obtain rfl:n=0:=by omega
  obtain rfl:km=[]:=wN (by simpa using iw);have hr:=run_append_nil (P:=P) w t ty e i z hu hi hz ⟨g,o,none⟩ m c' news (by rw[hs];exact hl) xq (by omega) (by omega) (by rw[Cf];simp at kA;omega);have hk:=key 0 (by omega);simp only[ft,qj,Array.empty_append]at hk ⊢;exact⟨_,_,hr,hk⟩
 | some a=>
  have ho:∀j v,km[j]?=some v->w.cell? (a.add j)=some v:=by
   intro j v hv;rcases hb with rfl|⟨g',o',ha,hb⟩
   ·simp at hv
   ·obtain rfl:=lA ha;rw[Bb];exact hb j v hv
  have Zc:Builtin.nextslicecap (n+m) c*i.bytes<=281474976710656:=by rw[Cf];exact growslice_fits (by omega) (by omega)
  have hr:=run_append_grow (P:=P) w t ty e i z hu hi hz a n c km (by rw[hs];exact iw) ho ⟨g,o,none⟩ m c' news (by rw[hs];exact hl) xq lU (by omega) Zc;exact⟨_,_,hr,key c lU⟩
theorem XA (T:az P t e z size bytes) {o:Oper} {a:Act} {K:Act->World->Prop} {Q:Exit->Act->World->Prop} (s x:Operand)
  (ho:o.op = .call { callee:=.builtin .append,args:=#[s,x],argTypes:=#[t,t] })
  (b:OA) (n c:Nat) (km:LV) (hs:a.eval s = .slice b n c) (hb:Cs w b km) (iw:km.length=n*size) (Jk:n<=c) (xB:b=none->c=0)
  (ao:OA) (m c':Nat) (news:LV) (hx:a.eval x = .slice ao m c') (hc:Cs w ao news) (hl:news.length=m*size) (lU:c<n+m)
  (kA:(n+m)*bytes<=140737488355328) (oR:n+m<=maxLen)
  (h:∀aS w',aV w w' e size [] (some ⟨w.heap.size,0,none⟩) (n+m) aS (km++news)->K (a.put o.dst (.slice (some ⟨w.heap.size,0,none⟩) (n+m) aS)) w'):o.wp P a w K Q:=by
 obtain⟨aS,w',hr,h2⟩:=XB (P:=P) T o.type b n c km hb iw Jk xB ao m c' news hc hl lU kA oR;unfold Oper.wp execOp;simp only[ho,resolve,invoke,builtin,DR,Sem.run_pure,Ia,List.map_toArray,gX,qq,hs,hx,hr];exact h aS w' h2
theorem XE (T:az P t e z size bytes) {ops:Array Oper} {rest:List Oper} {o:Oper} {a:Act} {Q:Exit->Act->World->Prop} (oe:o.guard=none) (s x:Operand)
  (ho:o.op = .call { callee:=.builtin .append,args:=#[s,x],argTypes:=#[t,t] })
  (b:OA) (n c:Nat) (km:LV) (hs:a.eval s = .slice b n c) (hb:Cs w b km) (iw:km.length=n*size) (Jk:n<=c) (xB:b=none->c=0)
  (ao:OA) (m c':Nat) (news:LV) (hx:a.eval x = .slice ao m c') (hc:Cs w ao news) (hl:news.length=m*size) (lU:c<n+m)
  (kA:(n+m)*bytes<=140737488355328) (oR:n+m<=maxLen)
  (h:∀aS w',aV w w' e size [] (some ⟨w.heap.size,0,none⟩) (n+m) aS (km++news)->wpList P ops Q rest (a.put o.dst (.slice (some ⟨w.heap.size,0,none⟩) (n+m) aS)) w'):wpList P ops Q (o::rest) a w:=
 wpList_plain oe λ_ hK=>XA T s x ho b n c km hs hb iw Jk xB ao m c' news hx hc hl lU kA oR λaS w' h2=>hK _ _ (h aS w' h2)
end
end lib
namespace lib
open Go Go.RowKit
def ej (w:World) (e:TypeId) (a:OA) (cap:Nat) (xs:LV):Prop:=
 (a=none/\cap=0/\xs=[])\/∃g o cur,a=some ⟨g,o,none⟩/\w.heap[g]?=some (.cells cur e (0,0))/\xs.length<=cap/\cap<=maxLen/\o+cap<=cur.size/\(cur.toList.drop o).take xs.length=xs
theorem ej.nil (w:World) (e:TypeId):ej w e none 0 []:=.inl ⟨rfl,rfl,rfl⟩
theorem ej.shape {w:World} {e:TypeId} {a:OA} {cap:Nat} {xs:LV} (h:ej w e a cap xs):xs.length<=cap/\cap<=maxLen/\(a=none->cap=0):=by
 rcases h with⟨_,rfl,rfl⟩|⟨g,o,cur,rfl,_,h1,h2,_⟩
 ·exact⟨ay _,ep _,λ_=>rfl⟩
 ·exact⟨h1,h2,λh=>by cases h⟩
theorem ej.cs {w:World} {e:TypeId} {a:OA} {cap:Nat} {xs:LV} (h:ej w e a cap xs):Cs w a xs:=by
 rcases h with⟨_,_,rfl⟩|⟨g,o,cur,rfl,hg,h1,h2,h3,h4⟩
 ·exact .inl rfl
 ·refine .inr ⟨g,o,rfl,λj v hv=>?_⟩;rw[cell_of hg,<-oY];rw[<-h4,oX]at hv;split at hv
  ·simpa using hv
  ·cases hv
theorem ej.fr {S:LN} {w w':World} {e:TypeId} {a:OA} {cap:Nat} {xs:LV} (h:ej w e a cap xs) (f:Fr S w w') (hn:∀x∈af a,x∉S):ej w' e a cap xs:=by
 rcases h with h|⟨g,o,cur,rfl,hg,r⟩
 ·exact .inl h
 ·exact .inr ⟨g,o,cur,rfl,f.af hg (hn g (by simp[af])),r⟩
theorem ej.lt {w:World} {e:TypeId} {a:OA} {cap:Nat} {xs:LV} (h:ej w e a cap xs):∀x∈af a,x<w.heap.size:=by
 rcases h with⟨rfl,_⟩|⟨g,o,cur,rfl,hg,r⟩
 ·simp[af]
 ·intro x hx;simp[af]at hx;rw[hx];exact lt_of_block hg
theorem ej.rd {w:World} {e:TypeId} {a:OA} {cap:Nat} {bs:LB} (h:ej w e a cap (bs.map bv)):Rd w a cap bs:=by obtain⟨h1,h2,h3⟩:=h.shape;exact⟨h.cs,by simpa using h1,h2,h3⟩
theorem SG {w:World} {e:TypeId} {a:OA} {n cap:Nat} {xs:LV} (h:w.ownsRow 0 e 1 (.slice a n cap) n xs):ej w e a cap xs/\xs.length=n:=by
 have hl:xs.length=n:=by simpa using h.1
 refine⟨?_,hl⟩;rcases h.2 with⟨h1,h2⟩|⟨g,aS,cur,h1,hb,hg,hn,hm,hs,ht⟩
 ·simp only[mV]at h1;obtain⟨rfl,h3,rfl⟩:=h1;exact .inl ⟨rfl,rfl,wN (by omega)⟩
 ·simp only[mV]at h1;obtain⟨rfl,_,rfl⟩:=h1;refine .inr ⟨g,0,cur,rfl,hg,by omega,hm,by omega,?_⟩;rw[yf,hl];simpa using ht
theorem ej.take {w:World} {e:TypeId} {a:OA} {cap:Nat} {xs:LV} (h:ej w e a cap xs) (k:Nat):ej w e a cap (xs.take k):=by
 rcases h with⟨h1,h2,rfl⟩|⟨g,o,cur,rfl,hg,h1,h2,h3,h4⟩
 ·exact .inl ⟨h1,h2,by simp⟩
 ·refine .inr ⟨g,o,cur,rfl,hg,by rw[dU];omega,h2,h3,?_⟩;have e1:xs.take k=((cur.toList.drop o).take xs.length).take k:=by rw[h4]
  rw[e1,Hx,dU];congr 1;have:=congrArg List.length h4;rw[dU]at this;omega
theorem ej.drop {w:World} {e:TypeId} {a:OA} {cap:Nat} {xs:LV} (h:ej w e a cap xs) (k:Nat) (hk:k<=xs.length):ej w e (aL a cap k 1) (cap-k) (xs.drop k):=by
 rcases h with⟨rfl,rfl,rfl⟩|⟨g,o,cur,rfl,hg,h1,h2,h3,h4⟩
 ·obtain rfl:k=0:=by simpa using hk
  exact .inl ⟨rfl,rfl,rfl⟩
 ·unfold aL;by_cases hc:cap=k
  ·rw[if_pos hc];have hx:xs.drop k=[]:=Dh (by omega);rw[hx];exact .inr ⟨g,o,cur,rfl,hg,by simp,by omega,by omega,rfl⟩
  ·rw[if_neg hc];refine .inr ⟨g,o+k,cur,by simp only[Aj,Bb,pI],hg,by rw[eV];omega,by omega,by omega,?_⟩;have e1:xs.drop k=((cur.toList.drop o).take xs.length).drop k:=by rw[h4]
   rw[e1,List.drop_take,C5,dU,eV];congr 1;have:=congrArg List.length h4;rw[dU,eV]at this;simp only[Lc]at *;omega
section
variable {P : Program} {w : World} {t e : TypeId} {z : Value} {bytes : Nat}
structure eU (w w':World) (e:TypeId) (a a':OA) (aS:Nat) (xs:LV):Prop where
 own:ej w' e a' aS xs
 fr:Fr (af a) w w'
 at_:∀x∈af a',x∈af a\/w.heap.size<=x
theorem qi8 (T:az P t e z 1 bytes) (ty:TypeId) (a:OA) (n cap:Nat) (xs:LV) (aI:ej w e a cap xs) (hn:xs.length=n)
  (ao:OA) (m c:Nat) (news:LV) (rC:m<=c) (cz:ao=none->c=0) (hc:Cs w ao news) (hl:news.length=m) (h1:∀u∈news,u.oneCell'=true)
  (kA:(n+m)*bytes<=140737488355328) (oR:n+m<=maxLen) :
  ∃a' aS w',(Builtin.append_ #[t,t] ty #[.slice a n cap,.slice ao m c]).run P w = .ok (.slice a' (n+m) aS) w'/\eU w w' e a a' aS (xs++news):=by
 subst hn;rcases aI with⟨rfl,rfl,rfl⟩|⟨g,o,cur,rfl,hg,k1,k2,k3,k4⟩
 ·obtain⟨a',aS,w',hr,A⟩:=qot (P:=P) T ty (.slice none 0 0) 0 [] [] rfl (wM w 0 e 1) ao m c news rC cz hc (by omega) h1 (by simpa using kA) (by simpa using oR);obtain⟨o1,_⟩:=SG A.own;exact⟨a',aS,w',by simpa using hr,o1,A.fr,λx hx=>.inr (Nat.le_of_eq (by have:=A.at_ x hx;simp at this;exact this.symm))⟩
 ·have cV:xs.length<=cur.size-o:=by have:=congrArg List.length k4;rw[dU,eV]at this;simp only[Lc]at this;omega
  by_cases xu:m=0
  ·subst xu;obtain rfl:news=[]:=wN hl;obtain⟨hu,⟨i,hi,hz,hs,Cf⟩,uv,hp⟩:=T;refine⟨some ⟨g,o,none⟩,cap,w,?_,by rw[mW];exact .inr ⟨g,o,cur,rfl,hg,k1,k2,k3,k4⟩,Fr.refl _ _,λx hx=>.inl hx⟩;cases ao with
   | none=>
    have bZ:=cz rfl;simp[Builtin.append_,run_underlying hu,sizeOf,typeInfo,hi,Builtin.lenOf,k1,Builtin.firstCells,storeCells]
   | some b=>have hf:=run_firstCells_some (P:=P) w i.size 0 b 0 c [] (by simp) (by simp);simp[Builtin.append_,run_underlying hu,sizeOf,typeInfo,hi,Builtin.lenOf,k1,hf,storeCells]
  ·by_cases hroom:xs.length+m<=cap
   ·obtain⟨hu,⟨i,hi,hz,hs,Cf⟩,uv,hp⟩:=T;obtain⟨g',o',rfl,kQ⟩:=hc.at (by omega);have xq:=UU kQ;have hf:=run_firstCells_some (P:=P) w i.size m ⟨g',o',none⟩ m c news (by rw[hs];omega) xq;have aH:=run_storeCells_at P g (o+xs.length*i.size) e news 0 cur w hg (by rw[hs];omega) h1;simp only[ie]at aH;refine⟨some ⟨g,o,none⟩,cap,_,?_,⟨.inr ⟨g,o,_,rfl,setRow_heap w g cur (cur.toList.take (o+xs.length*i.size)++news++cur.toList.drop (o+xs.length*i.size+news.length)).toArray e (0,0) hg,by rw[aA,hl];exact hroom,k2,?_,?_⟩,⟨rfl,rfl,rfl,by simp,λk _ hk=>setRow_other w g k _ (λe=>hk (by simp[af,e]))⟩,λx hx=>.inl hx⟩⟩
    ·simp[Builtin.append_,run_underlying hu,sizeOf,typeInfo,hi,Builtin.lenOf,hroom,hf,Addr.add_lit,aH]
    ·simp only[List.size_toArray,aA,dU,eV,Lc,hs];omega
    ·simp only[hs,pI];rw[NI (by simp;omega),NI (by simp;omega),List.drop_take,Nat.add_sub_cancel_left,k4,aA,hl];rw[IG (by simp[hl]),mL (by simp[hl])]
   ·have hcs:Cs w (some ⟨g,o,none⟩) xs:=ej.cs (.inr ⟨g,o,cur,rfl,hg,k1,k2,k3,k4⟩);obtain⟨aS,w',hr,A⟩:=XB (P:=P) T ty (some ⟨g,o,none⟩) xs.length cap xs hcs (by omega) k1 (by simp) ao m c news hc (by omega) (by omega) kA oR;obtain⟨o1,_⟩:=SG A.own;exact⟨_,aS,w',hr,o1,A.fr.mono (by simp),λx hx=>.inr (Nat.le_of_eq (by have:=A.at_ x hx;simp at this;exact this.symm))⟩
theorem S6 (T:az P t e z 1 bytes) {o:Oper} {A:Act} {K:Act->World->Prop} {Q:Exit->Act->World->Prop} (s x:Operand)
  (ho:o.op = .call { callee:=.builtin .append,args:=#[s,x],argTypes:=#[t,t] })
  (a:OA) (n cap:Nat) (xs:LV) (hs:A.eval s = .slice a n cap) (aI:ej w e a cap xs) (hn:xs.length=n)
  (ao:OA) (m c:Nat) (news:LV) (hx:A.eval x = .slice ao m c) (rC:m<=c) (cz:ao=none->c=0) (hc:Cs w ao news) (hl:news.length=m) (h1:∀u∈news,u.oneCell'=true)
  (kA:(n+m)*bytes<=140737488355328) (oR:n+m<=maxLen)
  (h:∀a' aS w',eU w w' e a a' aS (xs++news)->K (A.put o.dst (.slice a' (n+m) aS)) w'):o.wp P A w K Q:=by
 obtain⟨a',aS,w',hr,h2⟩:=qi8 (P:=P) T o.type a n cap xs aI hn ao m c news rC cz hc hl h1 kA oR;unfold Oper.wp execOp;simp only[ho,resolve,invoke,builtin,DR,Sem.run_pure,Ia,List.map_toArray,gX,qq,hs,hx,hr];exact h a' aS w' h2
theorem Bn (T:az P t e z 1 bytes) {ops:Array Oper} {rest:List Oper} {o:Oper} {A:Act} {Q:Exit->Act->World->Prop} (oe:o.guard=none) (s x:Operand)
  (ho:o.op = .call { callee:=.builtin .append,args:=#[s,x],argTypes:=#[t,t] })
  (a:OA) (n cap:Nat) (xs:LV) (hs:A.eval s = .slice a n cap) (aI:ej w e a cap xs) (hn:xs.length=n)
  (ao:OA) (m c:Nat) (news:LV) (hx:A.eval x = .slice ao m c) (rC:m<=c) (cz:ao=none->c=0) (hc:Cs w ao news) (hl:news.length=m) (h1:∀u∈news,u.oneCell'=true)
  (kA:(n+m)*bytes<=140737488355328) (oR:n+m<=maxLen)
  (h:∀a' aS w',eU w w' e a a' aS (xs++news)->wpList P ops Q rest (A.put o.dst (.slice a' (n+m) aS)) w'):wpList P ops Q (o::rest) A w:=
 wpList_plain oe λ_ hK=>S6 T s x ho a n cap xs hs aI hn ao m c news hx rC cz hc hl h1 kA oR λa' aS w' h2=>hK _ _ (h a' aS w' h2)
theorem eU.two {w1 w2 w3:World} {a a2 a3:OA} {c2 c3:Nat} {xs ys:LV} (A:eU w1 w2 e a a2 c2 xs) (B:eU w2 w3 e a2 a3 c3 ys):eU w1 w3 e a a3 c3 ys:=by
 refine⟨B.own,A.fr.step B.fr λy hy=>A.at_ y hy,λy hy=>?_⟩;rcases B.at_ y hy with h|h
 ·exact A.at_ y h
 ·exact .inr (ck A.fr.size h)
end
end lib
namespace lib
open Go Go.RowKit
theorem Af {S:LN} {w w':World} {a:OA} {cap:Nat} {bs:LB} (h:Rd w a cap bs) (f:Fr S w w') (hn:bs≠[]->∀x∈af a,x∉S):Rd w' a cap bs:=by
 by_cases hb:bs=[]
 ·exact⟨.inl (by rw[hb];rfl),h.le,h.max,h.nil⟩
 ·exact h.gJ f (hn hb)
theorem A7 {w:World} {a:OA} {cap:Nat} {bs:LB} (h:Rd w a cap bs) (hb:bs≠[]):∀x∈af a,x<w.heap.size:=by
 intro x hx;cases a with
 | none=>simp[af]at hx
 | some a=>simp[af]at hx;rw[hx];exact h.cs.lt (by simpa using hb) a rfl
theorem Xy {P:Program} {t e:TypeId} {z:Value} {size bytes:Nat} (T:az P t e z size bytes) (n:Nat) (a:OA) (cap:Nat) (hc:n<=cap) (w:World) :
  (Instr.slice t (.slice a n cap) Option.none (some (.int .i64 n)) (some (.int .i64 n))).run P w = .ok (.slice a n n) w:=by
 obtain⟨hu,⟨i,iR,_,hs,_⟩,_,_⟩:=T;have c1:(0:Int)<=(n:Int)/\(n:Int)<=(cap:Int):=by omega
 have Kl:∀x:Addr,x.add 0=x:=λx=>rfl
 cases a<;>simp[run_underlying hu,Instr.slice,Instr.sliceBounds,Instr.sliceBound,asIntOf,c1,hc,sizeOf,typeInfo,iR,hs,Result.andThen,Kl]
theorem y9 {w:World} {base:Nat} {e:TypeId} {size n:Nat} {xs:LV} {ao:OA} {len cap:Nat} (h:w.ownsRow base e size (.slice ao len cap) n xs):Cs w ao xs:=by
 rcases h.2 with⟨h1,h2⟩|⟨g,aS,cur,h1,hb,hg,hn,hm,hs,ht⟩
 ·left;have:=h.1;rw[h2]at this;exact wN (by simpa using this)
 ·simp only[mV]at h1;obtain⟨rfl,rfl,rfl⟩:=h1;refine .inr ⟨g,0,rfl,λj v hv=>?_⟩;rw[cell_of hg,ft];rw[<-ht,oX]at hv;split at hv
  ·simpa using hv
  ·cases hv
theorem Ae (w:World) (C:AV) (t:TypeId) (fr:Nat×Nat):Cs (w.alloc (.cells C t fr)) (some ⟨w.heap.size,0,none⟩) C.toList:=
 .inr ⟨w.heap.size,0,rfl,λj v hv=>by rw[cell_of (bC w _),ft,<-oY];exact hv⟩
end lib
namespace lib
open Go
theorem Xz {P:Program} {ops:Array Oper} {w:World} {L:Act->Prop}:∀(l:List Oper) (a:Act),wpQuiet P ops (λw'=>w'=w) L l a->wpStill P ops w L l a
 | [],_,h=>h
 | o::rest,a,h=>by
  unfold wpQuiet at h;unfold wpStill;by_cases hw:Region.wanted o (yielded ops a.tmps)=true
  ·rw[if_pos hw]at h ⊢;obtain⟨v,h1,h2⟩:=h;have h3:=h1 w rfl;have h4:=Xz rest _ h2;unfold Oper.quietAt at h3;unfold Oper.still;generalize (execOp a.eval o).run P w=r at *;cases r with
   | ok n w'=>
    cases n<;>simp only[Oper.quietUpon]at h3<;>simp only[Oper.stillUpon];case value u=>exact⟨h3.1,h3.2▸h4⟩
    case skip=>exact⟨h3.1,h3.2▸h4⟩
    case enter f args=>exact⟨h3.1,v,h3.2,h4⟩
   | halt x w'=>simp only[Oper.quietUpon]at h3
  ·rw[if_neg hw]at h ⊢;exact Xz rest _ h
theorem uO {P:Program} {id:Nat} {Q:Exit->Act->World->Prop} {a:Act} {w:World} {l:List Oper} (n:Nat) (hm:P.follows .mixedOrders=true) (hB:Region.lexTailB .any l.toArray n=true)
  (h:wpQuiet P l.toArray (λw'=>w'=w.drew) (λa'=>wpList P l.toArray Q (l.drop n) a' w.drew) (l.take n) a):(Code.region id l.toArray true).wp P Q a w:=
 wp_region_still_tail n hm hB (Xz _ _ h)
end lib
namespace bm
open Go
theorem CY (a b:Nat) (h:a<=b):2^a<=2^b:=kh (by omega) h
theorem Fy (v m k:Nat) (hv:v<2^k):v ||| m*2^k=v+2^k*m:=by rw[Nat.or_comm,mf m,<-Nat.two_pow_add_eq_or_of_lt hv,Hg]
theorem qsj (q:Nat):((2:Int)^q-1)=((2^q-1:Nat):Int):=by have:=nQ q;rw[Int.natCast_sub (by omega),Bh];rfl
theorem zh (q:Nat):((2:Int)^q)=((2^q:Nat):Int):=by rw[Bh];rfl
theorem NY:2^32=4294967296:=by decide
theorem zb6 (x q:Nat) (hx:x<4294967296) (hq:q<=32):bits .and .u32 (x:Int) (((2:Int)^q-1)%4294967296)=((x%2^q:Nat):Int):=by
 have h1:=CY q 32 hq;rw[NY]at h1;have h2:=nQ q;rw[qsj,show ((2^q-1:Nat):Int)%4294967296=((2^q-1:Nat):Int) from by omega,
  u32_and_nat x (2^q-1) hx (by omega),NJ]
theorem zh4 {v m k q:Nat} (hm:m<2^q) (GF:k+q<=32):m*2^k<4294967296:=by have h1:=CY (k+q) 32 GF;rw[NY,mU]at h1;have h2:m*2^k<2^q*2^k:=Nat.mul_lt_mul_of_pos_right hm (nQ k);rw[mf (2^q)]at h2;omega
theorem VG (v m k q:Nat) (hv:v<2^k) (hm:m<2^q) (GF:k+q<=32):bits .or .u32 (v:Int) ((m:Int)*2^k%4294967296)=((v+2^k*m:Nat):Int):=by
 have h3:=zh4 (v:=v) hm GF;have wg:v<4294967296:=by have:=CY k 32 (by omega);rw[NY]at this;omega
 rw[zh,<-C6,show ((m*2^k:Nat):Int)%4294967296=((m*2^k:Nat):Int) from by omega,
  u32_or_nat v (m*2^k) wg h3,Fy v m k hv]
theorem qqz (bs:LB) (a k q vn bn:Nat) (bg:(a+k)/8<bs.length) (hq:(a+k)%8+q<=8) (GF:k+q<=32)
  (hv:num bs/2^a%2^k=vn) (hb:(bs.getD ((a+k)/8) 0).toNat=bn) :
  bits .or .u32 (vn:Int) (bits .and .u32 ((bn:Int)/2^((a+k)%8)) (((2:Int)^q-1)%4294967296)*2^k%4294967296)=((num bs/2^a%2^(k+q):Nat):Int):=by
 have xB:bn<256:=by rw[<-hb];exact iL _
 have Qg:bn/2^((a+k)%8)<4294967296:=Dj (Nat.div_le_self _ _) (by omega);have hc:=chunk bs (a+k) q bg hq;rw[hb]at hc;rw[more,hv,hc,zh ((a+k)%8),<-Ib,zb6 _ q Qg (by omega),
  VG vn _ k q (by rw[<-hv];exact wH _ (nQ _)) (wH _ (nQ _)) GF]
theorem zb5 (x m:Nat) (hx:x<18446744073709551616) (hm:m<=32):bits .and .u64 (x:Int) (IntKind.u64.wrap (IntKind.u64.wrap ((2:Int)^m)-1))=((x%2^m:Nat):Int):=by
 have h1:=CY m 32 hm;rw[NY]at h1;have h2:=nQ m;have e:IntKind.u64.wrap (IntKind.u64.wrap ((2:Int)^m)-1)=((2^m-1:Nat):Int):=by rw[IntKind.wrap_u64,IntKind.wrap_u64,zh];omega
 rw[e,u64_and_nat x (2^m-1) hx (by omega),NJ]
theorem zfn (M L:Nat) (hM:M<2^L):M/2^(8*(L/8))<2^(L%8):=by rw[Dg (nQ _),<-mU];rwa [show L%8+8*(L/8)=L from by omega]
theorem zgf (M L y:Nat):(M+2^L*y)/2^(8*(L/8))=M/2^(8*(L/8))+2^(L%8)*y:=by
 have e:2^L=2^(8*(L/8))*2^(L%8):=by rw[<-mU,KO]
 rw[e,uk,MZ _ _ (nQ _)]
theorem zhv (M L x n:Nat) (hM:M<2^L):M+2^L*(x%2^n)<2^(L+n):=by
 have h:=wH x (nQ n);rw[mU];calc M+2^L*(x%2^n)<2^L+2^L*(x%2^n):=by omega
  _=2^L*(x%2^n+1):=by rw[Ba,pI,Hg]
  _<=2^L*2^n:=Nat.mul_le_mul_left _ h
theorem zcu (M L x m:Nat) (hM:M<2^L) (hx:x<4294967296) (hm:m<=32) :
  bits .or .u64 ((M/2^(8*(L/8)):Nat):Int) (IntKind.u64.wrap (bits .and .u64 (x:Int) (IntKind.u64.wrap (IntKind.u64.wrap ((2:Int)^m)-1))*2^(L%8))) =
   (((M+2^L*(x%2^m))/2^(8*(L/8)):Nat):Int):=by
 have hw:=zfn M L hM;have hy:x%2^m<2^m:=wH _ (nQ m);have Ou:x%2^m<4294967296:=Dj (Nat.mod_le _ _) hx;have h8:=CY (L%8) 8 (by omega);have hp:x%2^m*2^(L%8)<=4294967296*256:=KF (by omega) h8;rw[zb5 x m (by omega) hm,zgf,zh,<-C6,IntKind.wrap_u64,
  show ((x%2^m*2^(L%8):Nat):Int)%18446744073709551616=((x%2^m*2^(L%8):Nat):Int) from by omega,
  u64_or_nat _ _ (by omega) (by omega),Fy _ _ _ hw]
theorem VP (x:Int) (k:Nat) (hk:k<=62):bits .and .i64 x ((2^k-1:Nat):Int)=x%2^k:=by
 have h1:=CY k 62 hk;have h2:=nQ k;have Ka:2^62=4611686018427387904:=by decide
 rw[Ka]at h1;have hx:(BitVec.ofInt 64 x).toNat=(x%18446744073709551616).toNat:=by rw[BitVec.toNat_ofInt];rfl
 have hm:(BitVec.ofInt 64 ((2^k-1:Nat):Int)).toNat=2^k-1:=by rw[BitVec.ofInt_natCast,BitVec.toNat_ofNat];exact x9 (by omega)
 show IntKind.i64.wrap ((BitVec.ofInt 64 x &&& BitVec.ofInt 64 ((2^k-1:Nat):Int)).toNat:Int)=_;rw[BitVec.toNat_and,hx,hm,NJ];have h3:(x%18446744073709551616).toNat%2^k<2^k:=wH _ h2;have h4:(0:Int)<=x%18446744073709551616:=Int.emod_nonneg _ (by decide);have h5:(((x%18446744073709551616).toNat%2^k:Nat):Int)=x%2^k:=by
  rw[Int.natCast_emod,FO h4,Bh];have hd:((2^k:Nat):Int)∣18446744073709551616:=by refine⟨((2^(64-k):Nat):Int),?_⟩;rw[<-C6,<-mU,show k+(64-k)=64 from by omega];decide
  rw[Bh]at hd;exact Int.emod_emod_of_dvd x hd
 rw[h5,oE];have h6:(0:Int)<=x%2^k:=Int.emod_nonneg _ (by rw[zh];omega);have h7:x%2^k<2^k:=Int.emod_lt_of_pos _ (by rw[zh];omega);rw[zh]at h7;rw[zh]at h6 ⊢;omega
end bm
namespace sums
open Go Go.RowKit lib bm
theorem aq:az Tryz.prog 23 5 (.int .u8 0) 1 1:=az.of Tryz.underlying23 (by kernel_rfl) rfl (by decide)
theorem j3 (bs:LB):∀u∈bs.map bv,u.oneCell'=true:=by intro u hu;obtain⟨b,_,rfl⟩:=jo.1 hu;rfl
def ad:Nat->Nat->List UInt8->Nat×Nat
 | a,b,[]=>(a,b)
 | a,b,c::t=>ad ((a+c.toNat)%65521) ((b+(a+c.toNat)%65521)%65521) t
theorem ziy:∀(a b:Nat) (l:LB),a<65521->b<65521->(ad a b l).1<65521/\(ad a b l).2<65521
 | _,_,[],ha,hb=>⟨ha,hb⟩
 | a,b,c::t,_,_=>ziy _ _ t (wH _ (by decide)) (wH _ (by decide))
def fV (l:LB):Nat:=(ad 1 0 l).2*65536+(ad 1 0 l).1
theorem Np (l:LB):fV l<4294967296:=by have:=ziy 1 0 l (by decide) (by decide);unfold fV;omega
def Ad (w:World) (g a b:Nat):Prop:=
 ∃C,w.heap[g]?=some (.cells C 188 (0,0))/\C.size=267/\C[0]?=some (.int .i64 3)/\C[265]?=some (.int .u32 a)/\C[266]?=some (.int .u32 b)/\a<65521/\b<65521
theorem qud (w:World):Calls Tryz.prog 106 #[.int .i64 3] w λe w'=>e = .returned (.pointer (some ⟨w.heap.size,0,none⟩))/\Ad w' w.heap.size 1 0/\Fr [] w w':=by go_enter Tryz.func106,Tryz.ntmps106;go_wp2;go_ret;exact⟨rfl,⟨_,bC w _,rfl,rfl,rfl,rfl,by decide,by decide⟩,(Fr.refl [] w).alloc _⟩
theorem qsv (g a0 b0 cap:Nat) (ao:OA) (bs:LB) (w:World) (h:Ad w g a0 b0) (hr:Rd w ao cap bs) (Gx:bs≠[]->∀x∈af ao,x≠g) :
  Calls Tryz.prog 94 #[.pointer (some ⟨g,0,none⟩),.slice ao bs.length cap] w λe w'=>e = .returned (.tuple #[])/\Fr [g] w w'/\Ad w' g (ad a0 b0 bs).1 (ad a0 b0 bs).2:=by
 obtain⟨C,hC,cV,bZ,_⟩:=h;have c0:=cell_of hC 0;rw[bZ]at c0;obtain⟨L,hL⟩:=ai bs.length;have hle:=hr.le;have dK:=hr.max;unfold maxLen at dK;rw[<-hL]at hle ⊢;have H:=aG (show Ad w g a0 b0 from ⟨C,hC,cV,bZ,‹_›⟩) hr Gx hL;clear hr Gx hL hC cV bZ;go_enter Tryz.func94,Tryz.ntmps94;go_upto_block 5 with fail;clear c0;go_wp2;go_loopg [7,93] L (λk s7 s93 wr=>∃i a b:Nat,s93 = .int .i64 (i:Nat)/\i+k=L/\Ad wr g a b/\Fr [g] w wr/\ad a b (bs.drop i)=ad a0 b0 bs);case atStart=>exact⟨0,a0,b0,rfl,by omega,H.o0,Fr.refl _ _,rfl⟩
 case round=>
  obtain⟨i,a,b,rfl,bX,hA,hf,had⟩:=hrel;by_cases hi:i<L
  ·obtain⟨k,rfl⟩:∃k,gk=k+1:=⟨gk-1,by omega⟩;have rS:i<bs.length:=by rw[<-H.l3];exact hi
   have xB:bs≠[]:=by intro e;rw[e]at rS;simp at rS
   have ku:=Af H.o1 hf (λhb x hx hm=>H.o2 hb x hx (by simpa using hm));obtain⟨g1,o1,rfl,cc⟩:=ku.at rS;have hdr:bs.drop i=bs[i]::bs.drop (i+1):=Al rS;rw[hdr,ad]at had;have zaR:=iL bs[i];generalize bs[i].toNat=c at *;obtain⟨C,hC,cV,bZ,EZ,fM,fH,vu⟩:=hA;have ca:=cell_of hC 265;rw[EZ]at ca;have za:=aW hC 265;obtain⟨a2,uz⟩:=ai ((a+c)%65521);obtain⟨b2,kT⟩:=ai ((b+a2)%65521);rw[<-uz,<-kT]at had;have e1:((a:Int)+(c:Int))%65521=(a2:Int):=by omega
   have e2:((b:Int)+(a2:Int))%65521=(b2:Int):=by omega
   have Js:a2<65521:=by omega
   have YV:b2<65521:=by omega
   have HC:=cJ hC cV bZ fM hf had;clear hC cV bZ fM hf had EZ uz kT hdr ku rS;go_upto_region 18 with fail;have f2:Fr [g] wr (wr.setCell ⟨g,265,none⟩ (.int .u32 a2)):=(Fr.refl [g] wr).setCell (by simp) _;have uB:=bI (o:=265) HC.o0 (.int .u32 a2);generalize wr.setCell ⟨g,265,none⟩ (.int .u32 a2)=w2 at *;have ca2:=cell_of uB 265;have My:=cell_of uB 266;have zb:=aW uB 266;rw[iG (by rw[HC.o1];decide)]at ca2;rw[aX (by decide),HC.o3]at My;have Hf:=ak uB f2;clear ca za cc uB f2;refine uO 13 (by kernel_rfl) (by kernel_rfl) ?_;simp only[uF];repeat (go_big_quiet_step (fail))
   refine wpQuiet_nil ?_;go_wp2;go_roundg k;case measure=>omega
   case rel=>
    have f3:Fr [g] w2 w2.drew:=Fr.av [g] w2;have hC3:=f3.block g (lt_of_block Hf.o0);have QE:(w2.drew).heap[g]?=_:=Hf.o0;have ZV:=bI (o:=266) QE (.int .u32 b2);refine⟨i+1,a2,b2,by go_num,by omega,⟨_,ZV,by simp[HC.o1],?_,?_,?_,Js,YV⟩,((HC.o4.trans Hf.l1).trans f3).setCell (by simp) _,HC.l5⟩
    ·rw[aX (by decide),aX (by decide),HC.o2]
    ·rw[aX (by decide),iG (by rw[HC.o1];decide)]
    ·rw[iG (by rw[rA,HC.o1];decide)]
  ·obtain rfl:gk=0:=by omega
   obtain rfl:i=L:=by omega
   have hd:bs.drop i=[]:=Dh (by rw[<-H.l3];exact ay _);rw[hd,ad]at had;have HA:=aw hA hf had;clear hA hf had hd;go_wp2;go_end0;exact⟨rfl,HA.o1,by rw[<-HA.l2];exact HA.o0⟩
end sums
namespace inf
open Go Go.RowKit lib bm bl huf
def sq (x0 x1:Nat):Bool:=(x0%16==8)&&(decide (x0/16<=7)&&(((x0*256+x1)%31==0)&&(x1/32%2==0)))
def vN (bs:LB) (q:Nat):Nat:=aO bs q*16777216+aO bs (q+1)*65536+aO bs (q+2)*256+aO bs (q+3)
def kK (bs:LB) (m:Nat):Except Nat (List UInt8×Nat):=
 if bs.length<2 then .error 4 else if sq (aO bs 0) (aO bs 1)=false then .error 3 else
 match kL (bs.drop 2) m with
 | .error e=>.error e
 | .ok (out,n)=>if bs.length-(n+2)<4 then .error 4 else if vN bs (n+2)=sums.fV out then .ok (out,n+6) else .error 6
theorem u8_and15 (x:Nat) (h:x<256):bits .and .u8 ((x:Nat):Int) 15=((x%16:Nat):Int):=by
 have aD:∀y:Fin 256,bits .and .u8 ((y.val:Nat):Int) 15=((y.val%16:Nat):Int):=by decide +kernel
 exact aD ⟨x,h⟩
theorem zb3 (x:Nat) (h:x<256):bits .and .u8 ((x:Nat):Int) 32=((x/32%2*32:Nat):Int):=by
 have aD:∀y:Fin 256,bits .and .u8 ((y.val:Nat):Int) 32=((y.val/32%2*32:Nat):Int):=by decide +kernel
 exact aD ⟨x,h⟩
end inf
namespace crc
open Go
def uQ:Nat:=3988292384
def st (c:Nat):Nat:=if c%2=1 then (c/2) ^^^ uQ else c/2
def xY:Nat->Nat->Nat
 | 0,c=>c
 | k+1,c=>xY k (st c)
theorem Vi {a b:Nat} (h1:a<4294967296) (h2:b<4294967296):a ^^^ b<4294967296:=Nat.xor_lt_two_pow (n:=32) h1 h2
theorem zhn {c:Nat} (h:c<4294967296):st c<4294967296:=by
 unfold st;split
 ·exact Vi (by omega) (by decide)
 ·omega
theorem zez (k:Nat):∀{c:Nat},c<4294967296->xY k c<4294967296:=by
 induction k with
 | zero=>intro c h;exact h
 | succ k ih=>intro c h;exact ih (zhn h)
theorem zbx (a b:Nat):(a ^^^ b)/2=a/2 ^^^ b/2:=Nat.xor_div_two
theorem zfl (a b:Nat):(a ^^^ b)%2=(a%2+b%2)%2:=by have:=Nat.xor_mod_two_pow (a:=a) (b:=b) (n:=1);simp only[Nat.pow_one]at this;rw[this];rcases Ls a with h|h<;>rcases Ls b with k|k<;>rw[h,k]<;>rfl
theorem zhm (a b:Nat):st (a ^^^ b)=st a ^^^ st b:=by
 unfold st;rw[zbx,zfl];rcases Ls a with h|h<;>rcases Ls b with k|k<;>rw[h,k]<;>simp
 ·rw[Nat.xor_assoc]
 ·rw[Nat.xor_assoc,Nat.xor_comm (b/2) uQ,<-Nat.xor_assoc]
 ·rw[Nat.xor_assoc,<-Nat.xor_assoc uQ,Nat.xor_comm uQ,Nat.xor_assoc (b/2),Nat.xor_self,Nat.xor_zero]
theorem zf7 (k:Nat):∀(a b:Nat),xY k (a ^^^ b)=xY k a ^^^ xY k b:=by
 induction k with
 | zero=>intro a b;rfl
 | succ k ih=>intro a b;show xY k (st (a ^^^ b))=_;rw[zhm,ih];rfl
theorem zcg (k:Nat):∀(h:Nat),xY k (2^k*h)=h:=by
 induction k with
 | zero=>intro h;simp[xY]
 | succ k ih=>
  intro h;show xY k (st (2^(k+1)*h))=h;have e:2^(k+1)*h=2*(2^k*h):=by rw[pH,mf (2^k) 2,uk]
  unfold st;rw[e,if_neg (by omega),Nat.mul_div_cancel_left _ (by decide),ih]
theorem Hn (x:Nat):x=(2^8*(x/256)) ^^^ (x%256):=by
 have h1:2^8*(x/256)+x%256=x:=by omega
 have h2:=Nat.two_pow_add_eq_or_of_lt (i:=8) (b:=x%256) (by omega) (x/256);apply Nat.eq_of_testBit_eq;intro i;rw[Nat.testBit_xor];conv=>lhs;rw[<-h1,h2]
 rw[Nat.testBit_or,Nat.testBit_two_pow_mul];by_cases hi:8<=i
 ·have:(x%256).testBit i=false:=Nat.testBit_lt_two_pow (eW (wH x (by decide)) (kh (n:=2) (by decide) hi));rw[this];simp
 ·simp[hi]
def tb (i:Nat):Nat:=xY 8 i
def Gf (c:Nat) (b:UInt8):Nat:=xY 8 (c ^^^ b.toNat)
theorem qv7 (a b:Nat):(a ^^^ b)/256=a/256 ^^^ b/256:=by have:=Nat.xor_div_two_pow (a:=a) (b:=b) (n:=8);simpa using this
theorem zgy (c:Nat) (b:UInt8):Gf c b=c/256 ^^^ tb (c%256 ^^^ b.toNat):=by
 have hb:b.toNat<256:=b.toNat_lt;unfold Gf tb;conv=>lhs;rw[Hn (c ^^^ b.toNat)]
 rw[zf7,zcg,qv7,DY hb,Nat.xor_zero];have:=Nat.xor_mod_two_pow (a:=c) (b:=b.toNat) (n:=8);rw[show (2:Nat)^8=256 from rfl]at this;rw[this,x9 hb]
theorem zh9 {c:Nat} (h:c<4294967296) (b:UInt8):Gf c b<4294967296:=zez 8 (Vi h (by have:=b.toNat_lt;omega))
theorem zi3 {i:Nat} (h:i<256):tb i<4294967296:=zez 8 (by omega)
def zaE (bs:LB):Nat:=bs.foldl Gf 4294967295
def crc (bs:LB):Nat:=4294967295-zaE bs
end crc
namespace obj
open Go Go.RowKit lib
def fg (k:Int):List UInt8:=if k=1 then [99,111,109,109,105,116] else if k=2 then [116,114,101,101] else if k=3 then [98,108,111,98] else if k=4 then [116,97,103] else []
def nW:Array Value:=#[.string ⟨#[]⟩,.string ⟨#[99,111,109,109,105,116]⟩,.string ⟨#[116,114,101,101]⟩,.string ⟨#[98,108,111,98]⟩,.string ⟨#[116,97,103]⟩]
theorem Ol:(Tryz.prog.info? 160).map (·.size)=some 5:=by kernel_rfl
theorem Xs {fn:Func} {p:Tmp} (h:fn.results=#[.cell p 160]) (tmps:AV) (w:World) (g:Nat) (cs:AV) (fr:Nat×Nat)
  (hp:tmps.getD p undef = .pointer (some ⟨g,0,none⟩)) (hg:w.heap[g]?=some (.cells cs 160 fr)) (hs:cs.size=5):(results fn tmps).run Tryz.prog w = .ok (.agg cs) w:=
 results_cell_row h tmps w g 160 cs fr _ hp hg Tryz.underlying160 rfl (by rw[Ol,hs])
theorem qzd (w:World):Calls Tryz.prog 92 #[] w λe w'=>e = .returned (.agg nW)/\Fr [] w w':=by go_enter Tryz.func92,Tryz.ntmps92;go_wp2;exact bodyPost_ret (Xs rfl _ _ w.heap.size _ (0,0) rfl (bC w _) rfl) rfl ⟨rfl,(Fr.refl [] w).alloc _⟩
theorem qvd (k:Int) (w:World):Calls Tryz.prog 62 #[.int .i64 k] w λe w'=>e = .returned (.string (str (fg k)))/\Fr [] w w':=by
 by_cases h0:k<0
 ·have hn:fg k=[]:=by unfold fg;rw[if_neg (by omega),if_neg (by omega),if_neg (by omega),if_neg (by omega)]
  rw[hn];go_enter Tryz.func62,Tryz.ntmps62;go_wp2;go_ret;exact⟨rfl,Fr.refl _ _⟩
 ·by_cases h4:4<k
  ·have hn:fg k=[]:=by unfold fg;rw[if_neg (by omega),if_neg (by omega),if_neg (by omega),if_neg (by omega)]
   rw[hn];go_enter Tryz.func62,Tryz.ntmps62;go_wp2;go_ret;exact⟨rfl,Fr.refl _ _⟩
  ·have hk:k=0\/k=1\/k=2\/k=3\/k=4:=by omega
   have i0:∀w:World,(Instr.index 160 (.agg nW) (.int .i64 0)).run Tryz.prog w = .ok (.string ⟨#[]⟩) w:=λw=>by kernel_rfl
   have i1:∀w:World,(Instr.index 160 (.agg nW) (.int .i64 1)).run Tryz.prog w = .ok (.string ⟨#[99,111,109,109,105,116]⟩) w:=λw=>by kernel_rfl
   have i2:∀w:World,(Instr.index 160 (.agg nW) (.int .i64 2)).run Tryz.prog w = .ok (.string ⟨#[116,114,101,101]⟩) w:=λw=>by kernel_rfl
   have i3:∀w:World,(Instr.index 160 (.agg nW) (.int .i64 3)).run Tryz.prog w = .ok (.string ⟨#[98,108,111,98]⟩) w:=λw=>by kernel_rfl
   have i4:∀w:World,(Instr.index 160 (.agg nW) (.int .i64 4)).run Tryz.prog w = .ok (.string ⟨#[116,97,103]⟩) w:=λw=>by kernel_rfl
   clear h0 h4;rcases hk with rfl|rfl|rfl|rfl|rfl
   all_goals
    go_enter Tryz.func62,Tryz.ntmps62
    go_wp2_with (go_at_call 92;refine (qzd _).mono ?_;rintro e w1 ⟨rfl,f1⟩)
    go_ret
    exact⟨rfl,f1⟩
theorem qyk (k:Int) (w:World):Calls Tryz.prog 84 #[.int .i64 k] w λe w'=>e = .returned (.string (str (fg k)))/\Fr [] w w':=by
 by_cases h0:k<0
 ·have hn:fg k=[]:=by unfold fg;rw[if_neg (by omega),if_neg (by omega),if_neg (by omega),if_neg (by omega)]
  rw[hn];go_enter Tryz.func84,Tryz.ntmps84;go_wp2;go_ret;exact⟨rfl,(Fr.refl [] w).alloc _⟩
 ·by_cases h4:4<k
  ·have hn:fg k=[]:=by unfold fg;rw[if_neg (by omega),if_neg (by omega),if_neg (by omega),if_neg (by omega)]
   rw[hn];go_enter Tryz.func84,Tryz.ntmps84;go_wp2;go_ret;exact⟨rfl,(Fr.refl [] w).alloc _⟩
  ·have hk:k=0\/k=1\/k=2\/k=3\/k=4:=by omega
   clear h0 h4;rcases hk with rfl|rfl|rfl|rfl|rfl
   all_goals
    go_enter Tryz.func84,Tryz.ntmps84
    go_wp2
    go_ret
    exact⟨rfl,(Fr.refl [] w).alloc _⟩
end obj
namespace bm
open Go Go.RowKit
theorem qrp (a:Nat) (ha:a<9223372036854775808):(BitVec.ofInt 64 (a:Int)).toNat=a:=by rw[BitVec.ofInt_natCast,BitVec.toNat_ofNat];exact x9 (by omega)
theorem NG (a b:Nat) (ha:a<9223372036854775808) (hb:b<9223372036854775808):bits .or .i64 (a:Int) (b:Int)=((a ||| b:Nat):Int):=by
 have hx:a ||| b<2^63:=Nat.or_lt_two_pow (by omega) (by omega)
 show IntKind.i64.wrap ((BitVec.ofInt 64 (a:Int) ||| BitVec.ofInt 64 (b:Int)).toNat:Int)=_;rw[BitVec.toNat_or,qrp a ha,qrp b hb,oE];omega
theorem Na (n v k:Nat) (hk:k<=62) (hv:v<2^k) (hn:n*2^k<9223372036854775808):bits .or .i64 ((n:Int)*((2^k:Nat):Int)) (v:Int)=((n*2^k+v:Nat):Int):=by
 have h1:=CY k 62 hk;have Ka:2^62=4611686018427387904:=by decide
 rw[Ka]at h1;rw[<-C6,NG _ _ hn (by omega),Nat.or_comm,Fy v n k hv,mf n,Hg]
end bm
namespace lib
open Go Go.RowKit
theorem quv (bs:LB):(str bs).size=bs.length:=by simp[str,ByteArray.size]
section
variable {P : Program} {w : World} {t u e : TypeId}
end
section
variable {P : Program} {w : World} {ops : Array Oper} {rest : List Oper} {o : Oper} {a : Act} {Q : Exit -> Act -> World -> Prop} {t : TypeId}
theorem D7 (a b:LB):str a++str b=str (a++b):=by apply ByteArray.ext;simp[str,ByteArray.data_append]
end
end lib
namespace obj
open Go Go.RowKit lib
theorem VD {m:Nat} (h:9<m):Lib.decDigits m=Lib.decDigits (m/10)++[UInt8.ofNat (48+m%10)]:=by rw[Lib.decDigits,dif_neg (by omega)]
theorem WA {m:Nat} (h:¬9<m):Lib.decDigits m=[UInt8.ofNat (48+m)]:=by rw[Lib.decDigits,dif_pos (by omega)]
theorem QW (x:Nat) (h:x<10):((UInt8.ofNat (48+x)).toNat:Nat)=48+x:=by rw[zk];omega
theorem qw7 (N:Nat) (w:World) (hN:N<=140737488355328):Calls Tryz.prog 85 #[.int .i64 N] w λe w'=>e = .returned (.string (str (Lib.decDigits N)))/\Fr [] w w':=by
 go_enter Tryz.func85,Tryz.ntmps85;go_wp2;go_loopg [0,3] N (λk s0 s3 wr=>∃(m:Nat) (t:LB),s0 = .int .i64 (m:Nat)/\s3 = .string (str t)/\m<=k/\t.length+m<=N/\Lib.decDigits m++t=Lib.decDigits N/\Fr [] w wr);case atStart=>exact⟨N,[],rfl,rfl,ay _,by simp,by simp,Fr.refl _ _⟩
 case round=>
  obtain⟨m,t,rfl,rfl,hk,hm,he,hf⟩:=hrel;have H:=ak he hf;clear he hf;have Ts:(str t).size=t.length:=by simp[str,ByteArray.size]
  have HN:=ah hm;have nZ:t.length<=140737488355328:=by omega
  have oM:m<=140737488355328:=by omega
  obtain⟨T,hT⟩:=ai (str t);rw[<-hT]at Ts ⊢;have hTs:T.size<=140737488355328:=by omega
  have HTT:=ah hT;clear Ts hm hT nZ;by_cases h9:9<m
  ·obtain⟨z,hz⟩:=ai (str [UInt8.ofNat (48+m%10)]);have Oq:z.size=1:=by rw[hz];rfl
   have cv:∀c,(convert 23 9 (.slice (some ⟨wr.heap.size,0,none⟩) 1 c)).run Tryz.prog (wr.alloc (.cells #[.int .u8 (48+(m:Int)%10)] 5)) = .ok (.string z) (wr.alloc (.cells #[.int .u8 (48+(m:Int)%10)] 5)):=by
    rw[hz];exact vU _ Tryz.underlying23 Tryz.underlying5 Tryz.underlying9 (ao:=some ⟨wr.heap.size,0,none⟩) (n:=1) rfl (.inr ⟨wr.heap.size,0,rfl,λj u hj=>by
     rw[cell_of (bC wr _)]
     cases j with
     | zero=>simp only[gX,qq,aT,bv,QW _ (show m%10<10 by omega)]at hj;rw[<-hj];simp
     | succ j=>simp at hj⟩)
   have HZ:=ah hz;clear hz;go_wp2;go_roundg (m/10);case measure=>omega
   case rel=>exact⟨m/10,[UInt8.ofNat (48+m%10)]++t,by go_num,by rw[HZ.out,HTT.out,D7],ay _,by have:=HN.out;simp;omega,by rw[<-eE,<-VD h9];exact H.o0,H.l1.alloc _⟩
  ·obtain⟨z,hz⟩:=ai (str [UInt8.ofNat (48+m)]);have Oq:z.size=1:=by rw[hz];rfl
   have cv:∀c,(convert 23 9 (.slice (some ⟨wr.heap.size,0,none⟩) 1 c)).run Tryz.prog (wr.alloc (.cells #[.int .u8 (48+(m:Int))] 5)) = .ok (.string z) (wr.alloc (.cells #[.int .u8 (48+(m:Int))] 5)):=by
    rw[hz];exact vU _ Tryz.underlying23 Tryz.underlying5 Tryz.underlying9 (ao:=some ⟨wr.heap.size,0,none⟩) (n:=1) rfl (.inr ⟨wr.heap.size,0,rfl,λj u hj=>by
     rw[cell_of (bC wr _)]
     cases j with
     | zero=>simp only[gX,qq,aT,bv,QW _ (show m<10 by omega)]at hj;rw[<-hj];simp
     | succ j=>simp at hj⟩)
   have HZ:=ah hz;clear hz;go_wp2;go_ret;exact⟨by rw[<-H.o0,WA h9,<-D7,<-HZ.out,<-HTT.out];rfl,H.l1.alloc _⟩
def header (k:Int) (n:Nat):List UInt8:=fg k++[32]++Lib.decDigits n++[0]
theorem VR (k:Int):(fg k).length<=6:=by unfold fg;repeat (split<;>first|decide|skip)
theorem zim (n:Nat):(Lib.decDigits n).length<=n+1:=by
 induction n using Nat.strongRecOn with
 | _ n ih=>
  by_cases h:9<n
  ·rw[VD h,aA];have:=ih (n/10) (by omega);simp only[bU,kg];omega
  ·rw[WA h];simp
theorem VB:∀(k n:Nat),0<k->n<10^k->(Lib.decDigits n).length<=k
 | 0,n,h,_=>by omega
 | k+1,n,_,hn=>by
  by_cases h:9<n
  ·rw[VD h,aA];have h1:n/10<10^k:=by rw[pH]at hn;omega
   have hk:0<k:=by
    rcases Nat.eq_zero_or_pos k with rfl|hk
    ·simp at h1;omega
    ·exact hk
   have:=VB k (n/10) hk h1;simp only[bU,kg];omega
  ·rw[WA h];simp
theorem Xh (k:Int) (n:Nat) (hn:n<=140737488355328):(header k n).length<=24:=by
 have h1:=VR k;have h2:=VB 16 n (by decide) (by
  have:10^16=10000000000000000:=by decide
  omega)
 unfold header;simp only[aA,bU,kg];omega
theorem qs7 (k:Int) (n:Nat) (w:World) (hn:n<=140737488355328):Calls Tryz.prog 52 #[.int .i64 k,.int .i64 n] w λe w'=>e = .returned (.string (str (header k n)))/\Fr [] w w':=by
 obtain⟨A,hA⟩:=ai (str (fg k));obtain⟨D,hD⟩:=ai (str (Lib.decDigits n));have dW:A.size<=6:=by have:=VR k;rw[hA];simpa[str,ByteArray.size] using this
 have ZS:D.size<=140737488355329:=by
  have:=zim n;have e:(str (Lib.decDigits n)).size=(Lib.decDigits n).length:=by simp[str,ByteArray.size]
  rw[hD,e];omega
 have h1:=λw'=>qyk k w'
 have h2:=λw'=>qw7 n w' (by omega)
 rw[<-hA]at h1;rw[<-hD]at h2;have H:=aG h1 h2 hA hD;clear h1 h2 hA hD;go_enter Tryz.func52,Tryz.ntmps52;go_wp2_with (first
  | (go_at_call 84;refine (H.o0 _).mono ?_;rintro e w1 ⟨rfl,f1⟩)
  | (go_at_call 85;refine (H.o1 _).mono ?_;rintro e w2 ⟨rfl,f2⟩)
  | (refine FX (n:Int) rfl _ _ _ rfl (n:Int) 0 rfl rfl (by split<;>omega) ?_))
 go_ret;have e1:({ data:=#[32] }:ByteArray)=str [32]:=rfl;have e0:({ data:=#[0] }:ByteArray)=str [0]:=rfl;exact⟨by unfold header;rw[<-D7,<-D7,<-D7,<-H.o2,<-H.l3,<-e1,<-e0];rfl,f1.trans f2⟩
end obj

end Go.Proofs.YtkmpfgpfbmeihaaGreatDoor