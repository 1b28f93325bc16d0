/-
  Texts of this proof, one behind the other: HuffN, BitMore, InflLaw, AppFull, AppMid, RdMore, Tail, BitsOps, SumA, InfZL, CrcLaw, ObjName, BitsInt, AppStr, Digits, RHeader.
-/
import Derived.Test.YtkmpfgpfbmeihaaGreatDoorS1
import Derived.StillTailTactics
import Derived.Deep.DeepCutAuto
import Derived.Deep.LoopGhost
import Derived.Deep.CutBlock
import Derived.WalkMore
import Derived.Laws.ResultCell
import Derived.Laws.Rows
import Derived.Lib.AppendStr
import Derived.Lib.ItoaNum
set_option maxHeartbeats 16000000
set_option maxRecDepth 100000
set_option linter.unusedVariables false
set_option linter.unusedSimpArgs false
namespace Go.Proofs.YtkmpfgpfbmeihaaGreatDoor.huf
open Go
def syms (ls:List Nat) (l i:Nat):List Nat:=(List.range i).filter λj=>lenAt ls j==l
theorem ql0 (ls:List Nat) (l:Nat):syms ls l 0=[]:=rfl
theorem ql1 (ls:List Nat) (l i:Nat):syms ls l (i+1)=syms ls l i++if lenAt ls i=l then [i] else []:=by
 unfold syms;rw[List.range_succ,qg0];by_cases h:lenAt ls i=l
 ·simp[h]
 ·simp[h]
theorem qit (ls:List Nat) (l:Nat):∀i,i≤ls.length→(syms ls l i).length=(ls.take i).count l
 | 0,_=>by simp[ql0]
 | i+1,h=>by rw[ql1,qab,qit ls l i (by omega),qe5 ls i l (by omega)];split<;>simp
theorem qo2 (ls:List Nat) (l:Nat):∀(i:Nat),i≤ls.length→∀(t s:Nat),(syms ls l i)[t]?=some s→lenAt ls s=l∧(ls.take s).count l=t∧s<i
 | 0,_,t,s,h=>by simp[ql0]at h
 | i+1,hi,t,s,h=>by
  rw[ql1,List.getElem?_append]at h;split at h
  ·have:=qo2 ls l i (by omega) t s h;exact⟨this.1,this.2.1,by omega⟩
  ·rename_i hlt;split at h
   ·rename_i hl;have ht:t-(syms ls l i).length=0:=by have:=(qa9.1 h).1;simp at this;omega
    rw[ht]at h;simp at h;subst h;have:=qit ls l i (by omega);exact⟨hl,by omega,by omega⟩
   ·simp at h
theorem qqc {ls:List Nat} {l t s:Nat} (h:(syms ls l ls.length)[t]?=some s):lenAt ls s=l∧code ls s=nxt ls l+t∧s<ls.length:=by obtain⟨h1,h2,h3⟩:=qo2 ls l ls.length (qae _) t s h;exact⟨h1,by unfold code;rw[h1,h2],h3⟩
theorem qtp {ls:List Nat} {s:Nat} (hs:s<ls.length):(syms ls (lenAt ls s) ls.length)[(ls.take s).count (lenAt ls s)]?=some s:=by
 have hin:s∈syms ls (lenAt ls s) ls.length:=by simp[syms,hs]
 obtain⟨t,ht,e⟩:=List.getElem_of_mem hin;have h2:=(qo2 ls _ ls.length (qae _) t s (by rw[qai ht,e])).2.1;rw[h2,qai ht,e]
theorem qyz {ls:List Nat} {n v s:Nat} (hn:0<n) (hv:nxt ls n≤v) (h:(syms ls n ls.length)[v-nxt ls n]?=some s):hsym ls n v=some s:=by
 obtain⟨h1,h2,h3⟩:=qqc h;have hc:code ls s=v:=by omega
 have:=qy2 ls s (by omega);rw[h1,hc]at this;exact this
theorem qy0 {ls:List Nat} {n v:Nat} (h:n=0∨v<nxt ls n∨(syms ls n ls.length).length≤v-nxt ls n):hsym ls n v=none:=by
 unfold hsym;rw[qle];intro s hs hp;simp only[qdq]at hs;simp only[qbj,decide_eq_true_eq,beq_iff_eq]at hp;obtain⟨h0,h1,h2⟩:=hp;have hg:=qtp hs;rw[h1]at hg;have hlt:=(qa9.1 hg).1;have hc:code ls s=nxt ls n+(ls.take s).count n:=by unfold code;rw[h1]
 omega
def meets (ls:List Nat) (n v l:Nat):Bool:=decide (0<(syms ls l ls.length).length)&&(decide (nxt ls l<(v+1)*2^(l-n))&&decide (v*2^(l-n)<nxt ls l+(syms ls l ls.length).length))
theorem qvn {ls:List Nat} {n v l:Nat} (hl:n<l) (h:meets ls n v l=true):hmore ls n v=true:=by
 simp only[meets,qbj,decide_eq_true_eq]at h;obtain⟨h0,h1,h2⟩:=h;have hp:0<2^(l-n):=qbt _;obtain⟨t,ht,htl⟩:∃t,t<(syms ls l ls.length).length∧(nxt ls l+t)/2^(l-n)=v:=by
  by_cases hc:v*2^(l-n)≤nxt ls l
  ·exact⟨0,h0,by rw[qbn];exact Nat.div_eq_of_lt_le hc h1⟩
  ·refine⟨v*2^(l-n)-nxt ls l,by omega,?_⟩;rw[show nxt ls l+(v*2^(l-n)-nxt ls l)=v*2^(l-n) by omega];exact Nat.mul_div_cancel _ hp
 obtain⟨s,hs⟩:∃s,(syms ls l ls.length)[t]?=some s:=⟨_,qai ht⟩;obtain⟨k1,k2,k3⟩:=qqc hs;unfold hmore;rw[List.any_eq_true];refine⟨s,qdq.2 k3,?_⟩;simp only[qbj,decide_eq_true_eq,beq_iff_eq];rw[k1,k2];exact⟨hl,htl⟩
theorem qsq {ls:List Nat} {n v:Nat} {m:Nat} (hm:∀s,s<ls.length→lenAt ls s≤m) (h:∀l,n<l→l≤m→meets ls n v l=false):hmore ls n v=false:=by
 unfold hmore;rw[List.any_eq_false];intro s hs hp;simp only[qdq]at hs;simp only[qbj,decide_eq_true_eq,beq_iff_eq]at hp;obtain⟨h1,h2⟩:=hp;have hx:=h (lenAt ls s) h1 (hm s hs);have hg:=qtp hs;have hlt:=(qa9.1 hg).1;have hc:code ls s=nxt ls (lenAt ls s)+(ls.take s).count (lenAt ls s):=rfl;have hp:0<2^(lenAt ls s-n):=qbt _;have hlo:v*2^(lenAt ls s-n)≤code ls s:=by rw[<-h2];exact Nat.div_mul_le_self _ _
 have hhi:code ls s<(v+1)*2^(lenAt ls s-n):=(qc7 hp).1 (by rw[h2];exact Nat.lt_succ_self v);have:meets ls n v (lenAt ls s)=true:=by simp only[meets,qbj,decide_eq_true_eq];exact⟨by omega,by omega,by omega⟩
 rw[this]at hx;cases hx
end Go.Proofs.YtkmpfgpfbmeihaaGreatDoor.huf
namespace Go.Proofs.YtkmpfgpfbmeihaaGreatDoor.bl
open Go bm
theorem qos (l:List Bool) (k:Nat) (h:k≤l.length):bval l=bval (l.take k)+2^k*bval (l.drop k):=by have h1:=qed (l.take k) (l.drop k);rw[qfc,qaq,qc6 h]at h1;exact h1
theorem qgj (l:List Bool) (k:Nat):bval (l.take k)<2^k:=by have h1:=qta (l.take k);have h2:2^(l.take k).length≤2^k:=qa3 (by decide) (by rw[qaq];omega);omega
theorem qz5 (l:List Bool) (k:Nat) (h:k≤l.length):bval l/2^k=bval (l.drop k):=by rw[qos l k h,qrz _ _ (qbt k),qi4 (qgj l k),qbg]
theorem qz4 (l:List Bool) (k:Nat) (h:k≤l.length):bval l%2^k=bval (l.take k):=by rw[qos l k h,Nat.add_mul_mod_self_left,qei (qgj l k)]
theorem zbu (bs:List UInt8) (a n:Nat) (h:a+n≤8*bs.length):num bs/2^a%2^n=bval (((bytesBits bs).drop a).take n):=by rw[<-qfy,qz5 _ _ (by rw[qb1];omega),qz4 _ _ (by rw[qav,qb1];omega)]
theorem qwb (bs:List UInt8) (q n:Nat):bytesBits ((bs.drop q).take n)=((bytesBits bs).drop (8*q)).take (8*n):=by
 have hd:∀(q:Nat) (bs:List UInt8),bytesBits (bs.drop q)=(bytesBits bs).drop (8*q):=λq=>by
  induction q with
  | zero=>intro bs;rfl
  | succ q ih=>
   intro bs;cases bs with
   | nil=>simp[bytesBits]
   | cons c t=>have e:(lsb 8 c.toNat++bytesBits t).drop 8=bytesBits t:=List.drop_left' (lsb_length 8 c.toNat);rw[qad,ih,qel,show 8*(q+1)=8+8*q from by omega,<-qep,e]
 have ht:∀(n:Nat) (bs:List UInt8),bytesBits (bs.take n)=(bytesBits bs).take (8*n):=λn=>by
  induction n with
  | zero=>intro bs;simp[bytesBits]
  | succ n ih=>
   intro bs;cases bs with
   | nil=>simp[bytesBits]
   | cons c t=>rw[qah,qel,qel,ih,show 8*(n+1)=(lsb 8 c.toNat).length+8*n from by rw[lsb_length];omega,List.take_length_add_append]
 rw[ht,hd]
end Go.Proofs.YtkmpfgpfbmeihaaGreatDoor.bl
namespace Go.Proofs.YtkmpfgpfbmeihaaGreatDoor.inf
open Go bm bl huf
def itake (bs:List UInt8) (a n:Nat):Except Nat (Nat×Nat):=
 if a+n≤8*bs.length then .ok (bval (((bytesBits bs).drop a).take n),a+n) else .error 4
def iput (most:Nat) (out:List UInt8) (c:UInt8):Except Nat (List UInt8):=
 if most≤out.length then .error 5 else .ok (out++[c])
def isym (bs:List UInt8) (ls:List Nat) (a:Nat):Except Nat (Nat×Nat):=
 if (hread ls 15 0 0 ((bytesBits bs).drop a)).2.2=0 then .ok ((hread ls 15 0 0 ((bytesBits bs).drop a)).1,a+(hread ls 15 0 0 ((bytesBits bs).drop a)).2.1)
 else .error (hread ls 15 0 0 ((bytesBits bs).drop a)).2.2
def byteAt (bs:List UInt8) (i:Nat):Nat:=(bs[i]?.getD 0).toNat
def ibytes (bs:List UInt8) (most:Nat):Nat→List UInt8→Nat→Except Nat (List UInt8×Nat)
 | 0,out,q=>.ok (out,8*q)
 | n+1,out,q=>if q<bs.length then
   match iput most out (bs[q]?.getD 0) with
   | .error e=>.error e
   | .ok o=>ibytes bs most n o (q+1)
  else .error 4
def istored (bs:List UInt8) (most:Nat) (out:List UInt8) (a:Nat):Except Nat (List UInt8×Nat):=
 if (a+7)/8+4≤bs.length then
  if byteAt bs ((a+7)/8)+byteAt bs ((a+7)/8+2)=255∧byteAt bs ((a+7)/8+1)+byteAt bs ((a+7)/8+3)=255 then
   ibytes bs most (byteAt bs ((a+7)/8)+256*byteAt bs ((a+7)/8+1)) out ((a+7)/8+4)
  else .error 3
 else .error 4
def ilength (bs:List UInt8) (s a:Nat):Except Nat (Nat×Nat):=
 if s<265 then .ok (s-254,a) else if s=285 then .ok (258,a) else
  match itake bs a ((s-261)/4) with
  | .error e=>.error e
  | .ok (v,a1)=>.ok (3+(4+(s-265)%4)*2^((s-261)/4)+v,a1)
def idist (bs:List UInt8) (s a:Nat):Except Nat (Nat×Nat):=
 if s<4 then .ok (s+1,a) else
  match itake bs a ((s-2)/2) with
  | .error e=>.error e
  | .ok (v,a1)=>.ok (1+(2+s%2)*2^((s-2)/2)+v,a1)
def icopy (most back:Nat):Nat→List UInt8→Except Nat (List UInt8)
 | 0,out=>.ok out
 | n+1,out=>match iput most out (out[out.length-back]?.getD 0) with
  | .error e=>.error e
  | .ok o=>icopy most back n o
def imatch (bs:List UInt8) (most:Nat) (dl:List Nat) (s:Nat) (out:List UInt8) (a:Nat):Except Nat (List UInt8×Nat):=
 match ilength bs s a with
 | .error e=>.error e
 | .ok (n,a1)=>match isym bs dl a1 with
  | .error e=>.error e
  | .ok (d,a2)=>if 30≤d then .error 3 else match idist bs d a2 with
   | .error e=>.error e
   | .ok (back,a3)=>if out.length<back then .error 3 else match icopy most back n out with
    | .error e=>.error e
    | .ok o=>.ok (o,a3)
def isyms (bs:List UInt8) (most:Nat) (ll dl:List Nat):Nat→List UInt8→Nat→Except Nat (List UInt8×Nat)
 | 0,_,_=>.error 0
 | f+1,out,a=>match isym bs ll a with
  | .error e=>.error e
  | .ok (s,a1)=>if s<256 then
    match iput most out (UInt8.ofNat s) with
    | .error e=>.error e
    | .ok o=>isyms bs most ll dl f o a1
   else if s=256 then .ok (out,a1) else if 286≤s then .error 3 else
    match imatch bs most dl s out a1 with
    | .error e=>.error e
    | .ok (o,a2)=>isyms bs most ll dl f o a2
def fuel (bs:List UInt8):Nat:=8*bs.length+1
def ifix (i:Nat):Nat:=if i<144 then 8 else if i<256 then 9 else if i<280 then 7 else 8
def fixed (n:Nat):List Nat:=(List.range n).map ifix
def ifixed (bs:List UInt8) (most:Nat) (out:List UInt8) (a:Nat):Except Nat (List UInt8×Nat):=isyms bs most (fixed 288) (List.replicate 32 5) (fuel bs) out a
def some_ (ls:List Nat):Nat:=(ls.filter λl=>decide (0<l)).length
def ones (ls:List Nat):Bool:=ls.all λl=>decide (l≤1)
def iwhole (ls:List Nat) (few:Bool):Bool:=decide (weight ls≤32768)&&(decide (weight ls=32768)||(few&&(decide (some_ ls<2)&&ones ls)))
def places:List Nat:=[16,17,18,0,8,7,9,6,10,5,11,4,12,3,13,2,14,1,15]
def ifirst (bs:List UInt8):List Nat→List Nat→Nat→Except Nat (List Nat×Nat)
 | [],fs,a=>.ok (fs,a)
 | i::t,fs,a=>match itake bs a 3 with
  | .error e=>.error e
  | .ok (v,a1)=>ifirst bs t (fs.set i v) a1
def least (s:Nat):Nat:=if s=18 then 11 else 3
def wide (s:Nat):Nat:=if s=17 then 3 else if s=18 then 7 else 2
def ilens (bs:List UInt8) (ls:List Nat) (n:Nat):Nat→List Nat→Nat→Except Nat (List Nat×Nat)
 | 0,_,_=>.error 0
 | f+1,out,a=>if n≤out.length then .ok (out,a) else match isym bs ls a with
  | .error e=>.error e
  | .ok (s,a1)=>if s<16 then ilens bs ls n f (out++[s]) a1 else
   match itake bs a1 (wide s) with
   | .error e=>.error e
   | .ok (v,a2)=>if (s=16∧out=[])∨n-out.length<least s+v then .error 3 else
    ilens bs ls n f (out++List.replicate (least s+v) (if s=16 then out.getLast?.getD 0 else 0)) a2
def idyn3 (bs:List UInt8) (most:Nat) (out:List UInt8) (lit dist:Nat) (fs:List Nat) (a:Nat):Except Nat (List UInt8×Nat):=
 match ilens bs fs (lit+257+dist+1) (lit+257+dist+1+1) [] a with
 | .error e=>.error e
 | .ok (ls,a5)=>if lenAt ls 256=0 then .error 3 else if iwhole (ls.take (lit+257)) false=false then .error 3 else if iwhole (ls.drop (lit+257)) true=false then .error 3 else
  isyms bs most (ls.take (lit+257)) (ls.drop (lit+257)) (fuel bs) out a5
def idyn2 (bs:List UInt8) (most:Nat) (out:List UInt8) (lit dist n a:Nat):Except Nat (List UInt8×Nat):=
 match ifirst bs (places.take (n+4)) (List.replicate 19 0) a with
 | .error e=>.error e
 | .ok (fs,a4)=>if iwhole fs false=false then .error 3 else idyn3 bs most out lit dist fs a4
def idyn (bs:List UInt8) (most:Nat) (out:List UInt8) (a:Nat):Except Nat (List UInt8×Nat):=
 match itake bs a 5 with
 | .error e=>.error e
 | .ok (lit,a1)=>if 29<lit then .error 3 else match itake bs a1 5 with
  | .error e=>.error e
  | .ok (dist,a2)=>if 29<dist then .error 3 else match itake bs a2 4 with
   | .error e=>.error e
   | .ok (n,a3)=>idyn2 bs most out lit dist n a3
def iblock (bs:List UInt8) (most h:Nat) (out:List UInt8) (a:Nat):Except Nat (List UInt8×Nat):=
 if h=0 then istored bs most out a else if h=1 then ifixed bs most out a else idyn bs most out a
def irawF (bs:List UInt8) (most:Nat):Nat→List UInt8→Nat→Except Nat (List UInt8×Nat)
 | 0,_,_=>.error 0
 | f+1,out,a=>match itake bs a 1 with
  | .error e=>.error e
  | .ok (last,a1)=>match itake bs a1 2 with
   | .error e=>.error e
   | .ok (h,a2)=>if h=3 then .error 3 else match iblock bs most h out a2 with
    | .error e=>.error e
    | .ok (o,a3)=>if last=0 then irawF bs most f o a3 else .ok (o,a3)
def iraw (bs:List UInt8) (most:Nat):Except Nat (List UInt8×Nat):=
 match irawF bs most (fuel bs) [] 0 with
 | .error e=>.error e
 | .ok (o,a)=>.ok (o,(a+7)/8)
end Go.Proofs.YtkmpfgpfbmeihaaGreatDoor.inf
namespace Go.Proofs.YtkmpfgpfbmeihaaGreatDoor.lib
open Go Go.RowKit
section
variable {P : Program} {w : World} {t e : TypeId} {z : Value} {size bytes : Nat}
theorem qzo {g o:Nat} {vs:List Value} (h:∀j v,vs[j]?=some v→w.cell? ⟨g,o+j,none⟩=some v):∀j v,vs[j]?=some v→w.cell? ((⟨g,o,none⟩:Addr).add j)=some v:=λj v hv=>by rw[qe6];exact h j v hv
theorem qf2 (T:SliceTy P t e z size bytes) (ty:TypeId) (b:Option Addr) (n c:Nat) (olds:List Value) (hb:Cs w b olds) (hol:olds.length=n*size) (hnc:n≤c) (hbn:b=none→c=0)
  (ao:Option Addr) (m c':Nat) (news:List Value) (hc:Cs w ao news) (hl:news.length=m*size) (hfull:c<n+m)
  (hby:(n+m)*bytes≤140737488355328) (h63:n+m≤maxLen) :
  ∃cap' w',(Builtin.append_ #[t,t] ty #[.slice b n c,.slice ao m c']).run P w = .ok (.slice (some ⟨w.heap.size,0,none⟩) (n+m) cap') w'∧Appended w w' e size [] (some ⟨w.heap.size,0,none⟩) (n+m) cap' (olds++news):=by
 obtain⟨hu,⟨i,hi,hz,hs,hbt⟩,hcz,hp⟩:=T;have hsmall:n+m≤9223372036854775807:=by simp only[maxLen]at h63;omega
 have hne:0<news.length:=by rw[hl];exact Nat.mul_pos (by omega) hp
 obtain⟨g,o,rfl,hcn⟩:=hc.at hne;have hn':=qzo hcn;have key:∀(old:Nat),old<n+m→Appended w (w.drew.alloc (.cells (olds.toArray++news.toArray++Builtin.zeroCells z.cells (grownCap w (n+m) old e-(n+m))) e)) e size []
   (some ⟨w.heap.size,0,none⟩) (n+m) (grownCap w (n+m) old e) (olds++news):=by
  intro old ho
  have hge:=grownCap_ge w (n+m) old e
  have hcm:grownCap w (n+m) old e≤maxLen:=grownCap_le_maxLen w (n+m) old e h63
  refine⟨⟨by rw[qab,hol,hl,qc8],.inr ⟨w.heap.size,_,_,rfl,qa5 _,heap_alloc_new w.drew _,hge,hcm,?_,?_⟩⟩,(Fr.drew1 [] w).alloc _,λx hx=>by right;simpa[blk] using hx,hge,hcm,λh=>by cases h⟩
  ·simp only[Array.size_append,List.size_toArray,size_zeroCells,hcz,hol,hl]
   rw[<-qc8,<-qc8]
   congr 1
   omega
  ·simp only[Array.toList_append]
   rw[qc2 (by simp[hol,hl,qc8])]
   rw[qbd (by simp[hol,hl,qc8])]
 cases b with
 | none=>
  have hc0:=hbn rfl;subst hc0;obtain rfl:n=0:=by omega
  obtain rfl:olds=[]:=qbv (by simpa using hol);have hr:=run_append_nil (P:=P) w t ty e i z hu hi hz ⟨g,o,none⟩ m c' news (by rw[hs];exact hl) hn' (by omega) (by omega) (by rw[hbt];simp at hby;omega);have hk:=key 0 (by omega);simp only[qbg,qb4,Array.empty_append]at hk ⊢;exact⟨_,_,hr,hk⟩
 | some a=>
  have ho:∀j v,olds[j]?=some v→w.cell? (a.add j)=some v:=by
   intro j v hv;rcases hb with rfl|⟨g',o',ha,hb⟩
   ·simp at hv
   ·obtain rfl:=qbm ha;rw[qe6];exact hb j v hv
  have hfit:Builtin.nextslicecap (n+m) c*i.bytes≤281474976710656:=by rw[hbt];exact growslice_fits (by omega) (by omega)
  have hr:=run_append_grow (P:=P) w t ty e i z hu hi hz a n c olds (by rw[hs];exact hol) ho ⟨g,o,none⟩ m c' news (by rw[hs];exact hl) hn' hfull (by omega) hfit;exact⟨_,_,hr,key c hfull⟩
theorem qin (T:SliceTy P t e z size bytes) {o:Oper} {a:Act} {K:Act→World→Prop} {Q:Exit→Act→World→Prop} (s x:Operand)
  (ho:o.op = .call { callee:=.builtin .append,args:=#[s,x],argTypes:=#[t,t] })
  (b:Option Addr) (n c:Nat) (olds:List Value) (hs:a.eval s = .slice b n c) (hb:Cs w b olds) (hol:olds.length=n*size) (hnc:n≤c) (hbn:b=none→c=0)
  (ao:Option Addr) (m c':Nat) (news:List Value) (hx:a.eval x = .slice ao m c') (hc:Cs w ao news) (hl:news.length=m*size) (hfull:c<n+m)
  (hby:(n+m)*bytes≤140737488355328) (h63:n+m≤maxLen)
  (h:∀cap' w',Appended w w' e size [] (some ⟨w.heap.size,0,none⟩) (n+m) cap' (olds++news)→K (a.put o.dst (.slice (some ⟨w.heap.size,0,none⟩) (n+m) cap')) w'):o.wp P a w K Q:=by
 obtain⟨cap',w',hr,h2⟩:=qf2 (P:=P) T o.type b n c olds hb hol hnc hbn ao m c' news hc hl hfull hby h63;unfold Oper.wp execOp;simp only[ho,resolve,invoke,builtin,qi2,Sem.run_pure,qgq,List.map_toArray,qak,qam,hs,hx,hr];exact h cap' w' h2
theorem qd6 (T:SliceTy P t e z size bytes) {ops:Array Oper} {rest:List Oper} {o:Oper} {a:Act} {Q:Exit→Act→World→Prop} (hgd:o.guard=none) (s x:Operand)
  (ho:o.op = .call { callee:=.builtin .append,args:=#[s,x],argTypes:=#[t,t] })
  (b:Option Addr) (n c:Nat) (olds:List Value) (hs:a.eval s = .slice b n c) (hb:Cs w b olds) (hol:olds.length=n*size) (hnc:n≤c) (hbn:b=none→c=0)
  (ao:Option Addr) (m c':Nat) (news:List Value) (hx:a.eval x = .slice ao m c') (hc:Cs w ao news) (hl:news.length=m*size) (hfull:c<n+m)
  (hby:(n+m)*bytes≤140737488355328) (h63:n+m≤maxLen)
  (h:∀cap' w',Appended w w' e size [] (some ⟨w.heap.size,0,none⟩) (n+m) cap' (olds++news)→wpList P ops Q rest (a.put o.dst (.slice (some ⟨w.heap.size,0,none⟩) (n+m) cap')) w'):wpList P ops Q (o::rest) a w:=
 wpList_plain hgd λ_ hK=>qin T s x ho b n c olds hs hb hol hnc hbn ao m c' news hx hc hl hfull hby h63 λcap' w' h2=>hK _ _ (h cap' w' h2)
end
end Go.Proofs.YtkmpfgpfbmeihaaGreatDoor.lib
namespace Go.Proofs.YtkmpfgpfbmeihaaGreatDoor.lib
open Go Go.RowKit
def Own (w:World) (e:TypeId) (a:Option Addr) (cap:Nat) (xs:List Value):Prop:=
 (a=none∧cap=0∧xs=[])∨∃g o cur,a=some ⟨g,o,none⟩∧w.heap[g]?=some (.cells cur e (0,0))∧xs.length≤cap∧cap≤maxLen∧o+cap≤cur.size∧(cur.toList.drop o).take xs.length=xs
theorem Own.nil (w:World) (e:TypeId):Own w e none 0 []:=.inl ⟨rfl,rfl,rfl⟩
theorem Own.shape {w:World} {e:TypeId} {a:Option Addr} {cap:Nat} {xs:List Value} (h:Own w e a cap xs):xs.length≤cap∧cap≤maxLen∧(a=none→cap=0):=by
 rcases h with⟨_,rfl,rfl⟩|⟨g,o,cur,rfl,_,h1,h2,_⟩
 ·exact⟨qae _,qa5 _,λ_=>rfl⟩
 ·exact⟨h1,h2,λh=>by cases h⟩
theorem Own.cs {w:World} {e:TypeId} {a:Option Addr} {cap:Nat} {xs:List Value} (h:Own w e a cap xs):Cs w a xs:=by
 rcases h with⟨_,_,rfl⟩|⟨g,o,cur,rfl,hg,h1,h2,h3,h4⟩
 ·exact .inl rfl
 ·refine .inr ⟨g,o,rfl,λj v hv=>?_⟩;rw[cell_of hg,<-qbz];rw[<-h4,qbs]at hv;split at hv
  ·simpa using hv
  ·cases hv
theorem Own.fr {S:List Nat} {w w':World} {e:TypeId} {a:Option Addr} {cap:Nat} {xs:List Value} (h:Own w e a cap xs) (f:Fr S w w') (hn:∀x∈blk a,x∉S):Own w' e a cap xs:=by
 rcases h with h|⟨g,o,cur,rfl,hg,r⟩
 ·exact .inl h
 ·exact .inr ⟨g,o,cur,rfl,f.blk hg (hn g (by simp[blk])),r⟩
theorem Own.lt {w:World} {e:TypeId} {a:Option Addr} {cap:Nat} {xs:List Value} (h:Own w e a cap xs):∀x∈blk a,x<w.heap.size:=by
 rcases h with⟨rfl,_⟩|⟨g,o,cur,rfl,hg,r⟩
 ·simp[blk]
 ·intro x hx;simp[blk]at hx;rw[hx];exact lt_of_block hg
theorem Own.rd {w:World} {e:TypeId} {a:Option Addr} {cap:Nat} {bs:List UInt8} (h:Own w e a cap (bs.map bv)):Rd w a cap bs:=by obtain⟨h1,h2,h3⟩:=h.shape;exact⟨h.cs,by simpa using h1,h2,h3⟩
theorem qh8 {w:World} {e:TypeId} {a:Option Addr} {n cap:Nat} {xs:List Value} (h:w.ownsRow 0 e 1 (.slice a n cap) n xs):Own w e a cap xs∧xs.length=n:=by
 have hl:xs.length=n:=by simpa using h.1
 refine⟨?_,hl⟩;rcases h.2 with⟨h1,h2⟩|⟨g,cap',cur,h1,hb,hg,hn,hm,hs,ht⟩
 ·simp only[qbp]at h1;obtain⟨rfl,h3,rfl⟩:=h1;exact .inl ⟨rfl,rfl,qbv (by omega)⟩
 ·simp only[qbp]at h1;obtain⟨rfl,_,rfl⟩:=h1;refine .inr ⟨g,0,cur,rfl,hg,by omega,hm,by omega,?_⟩;rw[qaj,hl];simpa using ht
theorem Own.take {w:World} {e:TypeId} {a:Option Addr} {cap:Nat} {xs:List Value} (h:Own w e a cap xs) (k:Nat):Own w e a cap (xs.take k):=by
 rcases h with⟨h1,h2,rfl⟩|⟨g,o,cur,rfl,hg,h1,h2,h3,h4⟩
 ·exact .inl ⟨h1,h2,by simp⟩
 ·refine .inr ⟨g,o,cur,rfl,hg,by rw[qaq];omega,h2,h3,?_⟩;have e1:xs.take k=((cur.toList.drop o).take xs.length).take k:=by rw[h4]
  rw[e1,qov,qaq];congr 1;have:=congrArg List.length h4;rw[qaq]at this;omega
theorem Own.drop {w:World} {e:TypeId} {a:Option Addr} {cap:Nat} {xs:List Value} (h:Own w e a cap xs) (k:Nat) (hk:k≤xs.length):Own w e (cutAtN a cap k 1) (cap-k) (xs.drop k):=by
 rcases h with⟨rfl,rfl,rfl⟩|⟨g,o,cur,rfl,hg,h1,h2,h3,h4⟩
 ·obtain rfl:k=0:=by simpa using hk
  exact .inl ⟨rfl,rfl,rfl⟩
 ·unfold cutAtN;by_cases hc:cap=k
  ·rw[if_pos hc];have hx:xs.drop k=[]:=qc3 (by omega);rw[hx];exact .inr ⟨g,o,cur,rfl,hg,by simp,by omega,by omega,rfl⟩
  ·rw[if_neg hc];refine .inr ⟨g,o+k,cur,by simp only[qfr,qe6,qce],hg,by rw[qav];omega,by omega,by omega,?_⟩;have e1:xs.drop k=((cur.toList.drop o).take xs.length).drop k:=by rw[h4]
   rw[e1,List.drop_take,qep,qaq,qav];congr 1;have:=congrArg List.length h4;rw[qaq,qav]at this;simp only[qj2]at *;omega
section
variable {P : Program} {w : World} {t e : TypeId} {z : Value} {bytes : Nat}
structure OwnMore (w w':World) (e:TypeId) (a a':Option Addr) (cap':Nat) (xs:List Value):Prop where
 own:Own w' e a' cap' xs
 fr:Fr (blk a) w w'
 at_:∀x∈blk a',x∈blk a∨w.heap.size≤x
theorem qio (T:SliceTy P t e z 1 bytes) (ty:TypeId) (a:Option Addr) (n cap:Nat) (xs:List Value) (hown:Own w e a cap xs) (hn:xs.length=n)
  (ao:Option Addr) (m c:Nat) (news:List Value) (hmc:m≤c) (hnone:ao=none→c=0) (hc:Cs w ao news) (hl:news.length=m) (h1:∀u∈news,u.oneCell'=true)
  (hby:(n+m)*bytes≤140737488355328) (h63:n+m≤maxLen) :
  ∃a' cap' w',(Builtin.append_ #[t,t] ty #[.slice a n cap,.slice ao m c]).run P w = .ok (.slice a' (n+m) cap') w'∧OwnMore w w' e a a' cap' (xs++news):=by
 subst hn;rcases hown with⟨rfl,rfl,rfl⟩|⟨g,o,cur,rfl,hg,k1,k2,k3,k4⟩
 ·obtain⟨a',cap',w',hr,A⟩:=qn3 (P:=P) T ty (.slice none 0 0) 0 [] [] rfl (qch w 0 e 1) ao m c news hmc hnone hc (by omega) h1 (by simpa using hby) (by simpa using h63);obtain⟨o1,_⟩:=qh8 A.own;exact⟨a',cap',w',by simpa using hr,o1,A.fr,λx hx=>.inr (Nat.le_of_eq (by have:=A.at_ x hx;simp at this;exact this.symm))⟩
 ·have hsz:xs.length≤cur.size-o:=by have:=congrArg List.length k4;rw[qaq,qav]at this;simp only[qj2]at this;omega
  by_cases hm0:m=0
  ·subst hm0;obtain rfl:news=[]:=qbv hl;obtain⟨hu,⟨i,hi,hz,hs,hbt⟩,hcz,hp⟩:=T;refine⟨some ⟨g,o,none⟩,cap,w,?_,by rw[qbr];exact .inr ⟨g,o,cur,rfl,hg,k1,k2,k3,k4⟩,Fr.refl _ _,λx hx=>.inl hx⟩;cases ao with
   | none=>
    have hc0:=hnone rfl;simp[Builtin.append_,run_underlying hu,sizeOf,typeInfo,hi,Builtin.lenOf,k1,Builtin.firstCells,storeCells]
   | some b=>have hf:=run_firstCells_some (P:=P) w i.size 0 b 0 c [] (by simp) (by simp);simp[Builtin.append_,run_underlying hu,sizeOf,typeInfo,hi,Builtin.lenOf,k1,hf,storeCells]
  ·by_cases hroom:xs.length+m≤cap
   ·obtain⟨hu,⟨i,hi,hz,hs,hbt⟩,hcz,hp⟩:=T;obtain⟨g',o',rfl,hcn⟩:=hc.at (by omega);have hn':=qzo hcn;have hf:=run_firstCells_some (P:=P) w i.size m ⟨g',o',none⟩ m c news (by rw[hs];omega) hn';have hst:=run_storeCells_at P g (o+xs.length*i.size) e news 0 cur w hg (by rw[hs];omega) h1;simp only[qbn]at hst;refine⟨some ⟨g,o,none⟩,cap,_,?_,⟨.inr ⟨g,o,_,rfl,setRow_heap w g cur (cur.toList.take (o+xs.length*i.size)++news++cur.toList.drop (o+xs.length*i.size+news.length)).toArray e (0,0) hg,by rw[qab,hl];exact hroom,k2,?_,?_⟩,⟨rfl,rfl,rfl,by simp,λk _ hk=>setRow_other w g k _ (λe=>hk (by simp[blk,e]))⟩,λx hx=>.inl hx⟩⟩
    ·simp[Builtin.append_,run_underlying hu,sizeOf,typeInfo,hi,Builtin.lenOf,hroom,hf,Addr.add_lit,hst]
    ·simp only[List.size_toArray,qab,qaq,qav,qj2,hs];omega
    ·simp only[hs,qce];rw[qgr (by simp;omega),qgr (by simp;omega),List.drop_take,Nat.add_sub_cancel_left,k4,qab,hl];rw[qc2 (by simp[hl]),qbd (by simp[hl])]
   ·have hcs:Cs w (some ⟨g,o,none⟩) xs:=Own.cs (.inr ⟨g,o,cur,rfl,hg,k1,k2,k3,k4⟩);obtain⟨cap',w',hr,A⟩:=qf2 (P:=P) T ty (some ⟨g,o,none⟩) xs.length cap xs hcs (by omega) k1 (by simp) ao m c news hc (by omega) (by omega) hby h63;obtain⟨o1,_⟩:=qh8 A.own;exact⟨_,cap',w',hr,o1,A.fr.mono (by simp),λx hx=>.inr (Nat.le_of_eq (by have:=A.at_ x hx;simp at this;exact this.symm))⟩
theorem qfn (T:SliceTy P t e z 1 bytes) {o:Oper} {A:Act} {K:Act→World→Prop} {Q:Exit→Act→World→Prop} (s x:Operand)
  (ho:o.op = .call { callee:=.builtin .append,args:=#[s,x],argTypes:=#[t,t] })
  (a:Option Addr) (n cap:Nat) (xs:List Value) (hs:A.eval s = .slice a n cap) (hown:Own w e a cap xs) (hn:xs.length=n)
  (ao:Option Addr) (m c:Nat) (news:List Value) (hx:A.eval x = .slice ao m c) (hmc:m≤c) (hnone:ao=none→c=0) (hc:Cs w ao news) (hl:news.length=m) (h1:∀u∈news,u.oneCell'=true)
  (hby:(n+m)*bytes≤140737488355328) (h63:n+m≤maxLen)
  (h:∀a' cap' w',OwnMore w w' e a a' cap' (xs++news)→K (A.put o.dst (.slice a' (n+m) cap')) w'):o.wp P A w K Q:=by
 obtain⟨a',cap',w',hr,h2⟩:=qio (P:=P) T o.type a n cap xs hown hn ao m c news hmc hnone hc hl h1 hby h63;unfold Oper.wp execOp;simp only[ho,resolve,invoke,builtin,qi2,Sem.run_pure,qgq,List.map_toArray,qak,qam,hs,hx,hr];exact h a' cap' w' h2
theorem qcn (T:SliceTy P t e z 1 bytes) {ops:Array Oper} {rest:List Oper} {o:Oper} {A:Act} {Q:Exit→Act→World→Prop} (hgd:o.guard=none) (s x:Operand)
  (ho:o.op = .call { callee:=.builtin .append,args:=#[s,x],argTypes:=#[t,t] })
  (a:Option Addr) (n cap:Nat) (xs:List Value) (hs:A.eval s = .slice a n cap) (hown:Own w e a cap xs) (hn:xs.length=n)
  (ao:Option Addr) (m c:Nat) (news:List Value) (hx:A.eval x = .slice ao m c) (hmc:m≤c) (hnone:ao=none→c=0) (hc:Cs w ao news) (hl:news.length=m) (h1:∀u∈news,u.oneCell'=true)
  (hby:(n+m)*bytes≤140737488355328) (h63:n+m≤maxLen)
  (h:∀a' cap' w',OwnMore w w' e a a' cap' (xs++news)→wpList P ops Q rest (A.put o.dst (.slice a' (n+m) cap')) w'):wpList P ops Q (o::rest) A w:=
 wpList_plain hgd λ_ hK=>qfn T s x ho a n cap xs hs hown hn ao m c news hx hmc hnone hc hl h1 hby h63 λa' cap' w' h2=>hK _ _ (h a' cap' w' h2)
theorem OwnMore.two {w1 w2 w3:World} {a a2 a3:Option Addr} {c2 c3:Nat} {xs ys:List Value} (A:OwnMore w1 w2 e a a2 c2 xs) (B:OwnMore w2 w3 e a2 a3 c3 ys):OwnMore w1 w3 e a a3 c3 ys:=by
 refine⟨B.own,A.fr.step B.fr λy hy=>A.at_ y hy,λy hy=>?_⟩;rcases B.at_ y hy with h|h
 ·exact A.at_ y h
 ·exact .inr (qar A.fr.size h)
end
end Go.Proofs.YtkmpfgpfbmeihaaGreatDoor.lib
namespace Go.Proofs.YtkmpfgpfbmeihaaGreatDoor.lib
open Go Go.RowKit
theorem qhj {S:List Nat} {w w':World} {a:Option Addr} {cap:Nat} {bs:List UInt8} (h:Rd w a cap bs) (f:Fr S w w') (hn:bs≠[]→∀x∈blk a,x∉S):Rd w' a cap bs:=by
 by_cases hb:bs=[]
 ·exact⟨.inl (by rw[hb];rfl),h.le,h.max,h.nil⟩
 ·exact h.frS f (hn hb)
theorem qmj {w:World} {a:Option Addr} {cap:Nat} {bs:List UInt8} (h:Rd w a cap bs) (hb:bs≠[]):∀x∈blk a,x<w.heap.size:=by
 intro x hx;cases a with
 | none=>simp[blk]at hx
 | some a=>simp[blk]at hx;rw[hx];exact h.cs.lt (by simpa using hb) a rfl
theorem qgn {P:Program} {t e:TypeId} {z:Value} {size bytes:Nat} (T:SliceTy P t e z size bytes) (n:Nat) (a:Option Addr) (cap:Nat) (hc:n≤cap) (w:World) :
  (Instr.slice t (.slice a n cap) Option.none (some (.int .i64 n)) (some (.int .i64 n))).run P w = .ok (.slice a n n) w:=by
 obtain⟨hu,⟨i,hi',_,hs,_⟩,_,_⟩:=T;have c1:(0:Int)≤(n:Int)∧(n:Int)≤(cap:Int):=by omega
 have ad0:∀x:Addr,x.add 0=x:=λx=>rfl
 cases a<;>simp[run_underlying hu,Instr.slice,Instr.sliceBounds,Instr.sliceBound,asIntOf,c1,hc,sizeOf,typeInfo,hi',hs,Result.andThen,ad0]
theorem qhe {w:World} {base:Nat} {e:TypeId} {size n:Nat} {xs:List Value} {ao:Option Addr} {len cap:Nat} (h:w.ownsRow base e size (.slice ao len cap) n xs):Cs w ao xs:=by
 rcases h.2 with⟨h1,h2⟩|⟨g,cap',cur,h1,hb,hg,hn,hm,hs,ht⟩
 ·left;have:=h.1;rw[h2]at this;exact qbv (by simpa using this)
 ·simp only[qbp]at h1;obtain⟨rfl,rfl,rfl⟩:=h1;refine .inr ⟨g,0,rfl,λj v hv=>?_⟩;rw[cell_of hg,qbg];rw[<-ht,qbs]at hv;split at hv
  ·simpa using hv
  ·cases hv
theorem qhk (w:World) (C:Array Value) (t:TypeId) (fr:Nat×Nat):Cs (w.alloc (.cells C t fr)) (some ⟨w.heap.size,0,none⟩) C.toList:=
 .inr ⟨w.heap.size,0,rfl,λj v hv=>by rw[cell_of (qay w _),qbg,<-qbz];exact hv⟩
end Go.Proofs.YtkmpfgpfbmeihaaGreatDoor.lib
namespace Go.Proofs.YtkmpfgpfbmeihaaGreatDoor.lib
open Go
theorem qgl {P:Program} {ops:Array Oper} {w:World} {L:Act→Prop}:∀(l:List Oper) (a:Act),wpQuiet P ops (λw'=>w'=w) L l a→wpStill P ops w L l a
 | [],_,h=>h
 | o::rest,a,h=>by
  unfold wpQuiet at h;unfold wpStill;by_cases hw:Region.wanted o (yielded ops a.tmps)=true
  ·rw[if_pos hw]at h ⊢;obtain⟨v,h1,h2⟩:=h;have h3:=h1 w rfl;have h4:=qgl rest _ h2;unfold Oper.quietAt at h3;unfold Oper.still;generalize (execOp a.eval o).run P w=r at *;cases r with
   | ok n w'=>
    cases n<;>simp only[Oper.quietUpon]at h3<;>simp only[Oper.stillUpon];case value u=>exact⟨h3.1,h3.2▸h4⟩
    case skip=>exact⟨h3.1,h3.2▸h4⟩
    case enter f args=>exact⟨h3.1,v,h3.2,h4⟩
   | halt x w'=>simp only[Oper.quietUpon]at h3
  ·rw[if_neg hw]at h ⊢;exact qgl rest _ h
theorem qcu {P:Program} {id:Nat} {Q:Exit→Act→World→Prop} {a:Act} {w:World} {l:List Oper} (n:Nat) (hm:P.follows .mixedOrders=true) (hB:Region.lexTailB .any l.toArray n=true)
  (h:wpQuiet P l.toArray (λw'=>w'=w.drew) (λa'=>wpList P l.toArray Q (l.drop n) a' w.drew) (l.take n) a):(Code.region id l.toArray true).wp P Q a w:=
 wp_region_still_tail n hm hB (qgl _ _ h)
end Go.Proofs.YtkmpfgpfbmeihaaGreatDoor.lib
namespace Go.Proofs.YtkmpfgpfbmeihaaGreatDoor.bm
open Go
theorem qir (a b:Nat) (h:a≤b):2^a≤2^b:=qa3 (by omega) h
theorem qk5 (v m k:Nat) (hv:v<2^k):v ||| m*2^k=v+2^k*m:=by rw[Nat.or_comm,qcc m,<-Nat.two_pow_add_eq_or_of_lt hv,zan]
theorem qrq (q:Nat):((2:Int)^q-1)=((2^q-1:Nat):Int):=by have:=qbt q;rw[Int.natCast_sub (by omega),qd7];rfl
theorem qeh (q:Nat):((2:Int)^q)=((2^q:Nat):Int):=by rw[qd7];rfl
theorem p32:2^32=4294967296:=by decide
theorem zay (x q:Nat) (hx:x<4294967296) (hq:q≤32):bits .and .u32 (x:Int) (((2:Int)^q-1)%4294967296)=((x%2^q:Nat):Int):=by
 have h1:=qir q 32 hq;rw[p32]at h1;have h2:=qbt q;rw[qrq,show ((2^q-1:Nat):Int)%4294967296=((2^q-1:Nat):Int) from by omega,
  u32_and_nat x (2^q-1) hx (by omega),qf7]
theorem zgg {v m k q:Nat} (hm:m<2^q) (hkq:k+q≤32):m*2^k<4294967296:=by have h1:=qir (k+q) 32 hkq;rw[p32,qci]at h1;have h2:m*2^k<2^q*2^k:=Nat.mul_lt_mul_of_pos_right hm (qbt k);rw[qcc (2^q)]at h2;omega
theorem qr3 (v m k q:Nat) (hv:v<2^k) (hm:m<2^q) (hkq:k+q≤32):bits .or .u32 (v:Int) ((m:Int)*2^k%4294967296)=((v+2^k*m:Nat):Int):=by
 have h3:=zgg (v:=v) hm hkq;have hv2:v<4294967296:=by have:=qir k 32 (by omega);rw[p32]at this;omega
 rw[qeh,<-qev,show ((m*2^k:Nat):Int)%4294967296=((m*2^k:Nat):Int) from by omega,
  u32_or_nat v (m*2^k) hv2 h3,qk5 v m k hv]
theorem qqb (bs:List UInt8) (a k q vn bn:Nat) (hlt:(a+k)/8<bs.length) (hq:(a+k)%8+q≤8) (hkq:k+q≤32)
  (hv:num bs/2^a%2^k=vn) (hb:(bs.getD ((a+k)/8) 0).toNat=bn) :
  bits .or .u32 (vn:Int) (bits .and .u32 ((bn:Int)/2^((a+k)%8)) (((2:Int)^q-1)%4294967296)*2^k%4294967296)=((num bs/2^a%2^(k+q):Nat):Int):=by
 have hbn:bn<256:=by rw[<-hb];exact qbc _
 have hbd:bn/2^((a+k)%8)<4294967296:=qdr (Nat.div_le_self _ _) (by omega);have hc:=chunk bs (a+k) q hlt hq;rw[hb]at hc;rw[more,hv,hc,qeh ((a+k)%8),<-qi6,zay _ q hbd (by omega),
  qr3 vn _ k q (by rw[<-hv];exact qgs _ (qbt _)) (qgs _ (qbt _)) hkq]
theorem zax (x m:Nat) (hx:x<18446744073709551616) (hm:m≤32):bits .and .u64 (x:Int) (IntKind.u64.wrap (IntKind.u64.wrap ((2:Int)^m)-1))=((x%2^m:Nat):Int):=by
 have h1:=qir m 32 hm;rw[p32]at h1;have h2:=qbt m;have e:IntKind.u64.wrap (IntKind.u64.wrap ((2:Int)^m)-1)=((2^m-1:Nat):Int):=by rw[IntKind.wrap_u64,IntKind.wrap_u64,qeh];omega
 rw[e,u64_and_nat x (2^m-1) hx (by omega),qf7]
theorem zd6 (M L:Nat) (hM:M<2^L):M/2^(8*(L/8))<2^(L%8):=by rw[qc7 (qbt _),<-qci];rwa [show L%8+8*(L/8)=L from by omega]
theorem zew (M L y:Nat):(M+2^L*y)/2^(8*(L/8))=M/2^(8*(L/8))+2^(L%8)*y:=by
 have e:2^L=2^(8*(L/8))*2^(L%8):=by rw[<-qci,qla]
 rw[e,qc4,qrz _ _ (qbt _)]
theorem zgc (M L x n:Nat) (hM:M<2^L):M+2^L*(x%2^n)<2^(L+n):=by
 have h:=qgs x (qbt n);rw[qci];calc M+2^L*(x%2^n)<2^L+2^L*(x%2^n):=by omega
  _=2^L*(x%2^n+1):=by rw[qhl,qce,zan]
  _≤2^L*2^n:=Nat.mul_le_mul_left _ h
theorem zbn (M L x m:Nat) (hM:M<2^L) (hx:x<4294967296) (hm:m≤32) :
  bits .or .u64 ((M/2^(8*(L/8)):Nat):Int) (IntKind.u64.wrap (bits .and .u64 (x:Int) (IntKind.u64.wrap (IntKind.u64.wrap ((2:Int)^m)-1))*2^(L%8))) =
   (((M+2^L*(x%2^m))/2^(8*(L/8)):Nat):Int):=by
 have hw:=zd6 M L hM;have hy:x%2^m<2^m:=qgs _ (qbt m);have hym:x%2^m<4294967296:=qdr (Nat.mod_le _ _) hx;have h8:=qir (L%8) 8 (by omega);have hp:x%2^m*2^(L%8)≤4294967296*256:=zdc (by omega) h8;rw[zax x m (by omega) hm,zew,qeh,<-qev,IntKind.wrap_u64,
  show ((x%2^m*2^(L%8):Nat):Int)%18446744073709551616=((x%2^m*2^(L%8):Nat):Int) from by omega,
  u64_or_nat _ _ (by omega) (by omega),qk5 _ _ _ hw]
theorem qpr (x:Int) (k:Nat) (hk:k≤62):bits .and .i64 x ((2^k-1:Nat):Int)=x%2^k:=by
 have h1:=qir k 62 hk;have h2:=qbt k;have e62:2^62=4611686018427387904:=by decide
 rw[e62]at h1;have hx:(BitVec.ofInt 64 x).toNat=(x%18446744073709551616).toNat:=by rw[BitVec.toNat_ofInt];rfl
 have hm:(BitVec.ofInt 64 ((2^k-1:Nat):Int)).toNat=2^k-1:=by rw[BitVec.ofInt_natCast,BitVec.toNat_ofNat];exact qei (by omega)
 show IntKind.i64.wrap ((BitVec.ofInt 64 x &&& BitVec.ofInt 64 ((2^k-1:Nat):Int)).toNat:Int)=_;rw[BitVec.toNat_and,hx,hm,qf7];have h3:(x%18446744073709551616).toNat%2^k<2^k:=qgs _ h2;have h4:(0:Int)≤x%18446744073709551616:=Int.emod_nonneg _ (by decide);have h5:(((x%18446744073709551616).toNat%2^k:Nat):Int)=x%2^k:=by
  rw[Int.natCast_emod,qga h4,qd7];have hd:((2^k:Nat):Int)∣18446744073709551616:=by refine⟨((2^(64-k):Nat):Int),?_⟩;rw[<-qev,<-qci,show k+(64-k)=64 from by omega];decide
  rw[qd7]at hd;exact Int.emod_emod_of_dvd x hd
 rw[h5,qbw];have h6:(0:Int)≤x%2^k:=Int.emod_nonneg _ (by rw[qeh];omega);have h7:x%2^k<2^k:=Int.emod_lt_of_pos _ (by rw[qeh];omega);rw[qeh]at h7;rw[qeh]at h6 ⊢;omega
end Go.Proofs.YtkmpfgpfbmeihaaGreatDoor.bm
namespace Go.Proofs.YtkmpfgpfbmeihaaGreatDoor.sums
open Go Go.RowKit lib bm
theorem sliceU8:SliceTy Tryz.prog 23 5 (.int .u8 0) 1 1:=SliceTy.of Tryz.underlying23 (by kernel_rfl) rfl (by decide)
theorem qc0 (bs:List UInt8):∀u∈bs.map bv,u.oneCell'=true:=by intro u hu;obtain⟨b,_,rfl⟩:=qcj.1 hu;rfl
def ad:Nat→Nat→List UInt8→Nat×Nat
 | a,b,[]=>(a,b)
 | a,b,c::t=>ad ((a+c.toNat)%65521) ((b+(a+c.toNat)%65521)%65521) t
theorem zg6:∀(a b:Nat) (l:List UInt8),a<65521→b<65521→(ad a b l).1<65521∧(ad a b l).2<65521
 | _,_,[],ha,hb=>⟨ha,hb⟩
 | a,b,c::t,_,_=>zg6 _ _ t (qgs _ (by decide)) (qgs _ (by decide))
def adler (l:List UInt8):Nat:=(ad 1 0 l).2*65536+(ad 1 0 l).1
theorem qj0 (l:List UInt8):adler l<4294967296:=by have:=zg6 1 0 l (by decide) (by decide);unfold adler;omega
def Ad (w:World) (g a b:Nat):Prop:=
 ∃C,w.heap[g]?=some (.cells C 188 (0,0))∧C.size=267∧C[0]?=some (.int .i64 3)∧C[265]?=some (.int .u32 a)∧C[266]?=some (.int .u32 b)∧a<65521∧b<65521
theorem qtc (w:World):Calls Tryz.prog 106 #[.int .i64 3] w λe w'=>e = .returned (.pointer (some ⟨w.heap.size,0,none⟩))∧Ad w' w.heap.size 1 0∧Fr [] w w':=by go_enter Tryz.func106,Tryz.ntmps106;go_wp2;go_ret;exact⟨rfl,⟨_,qay w _,rfl,rfl,rfl,rfl,by decide,by decide⟩,(Fr.refl [] w).alloc _⟩
theorem qr1 (g a0 b0 cap:Nat) (ao:Option Addr) (bs:List UInt8) (w:World) (h:Ad w g a0 b0) (hr:Rd w ao cap bs) (hng:bs≠[]→∀x∈blk ao,x≠g) :
  Calls Tryz.prog 94 #[.pointer (some ⟨g,0,none⟩),.slice ao bs.length cap] w λe w'=>e = .returned (.tuple #[])∧Fr [g] w w'∧Ad w' g (ad a0 b0 bs).1 (ad a0 b0 bs).2:=by
 obtain⟨C,hC,hsz,hc0,_⟩:=h;have c0:=cell_of hC 0;rw[hc0]at c0;obtain⟨L,hL⟩:=zex bs.length;have hle:=hr.le;have hmax:=hr.max;unfold maxLen at hmax;rw[<-hL]at hle ⊢;have H:=zhd4 (show Ad w g a0 b0 from ⟨C,hC,hsz,hc0,‹_›⟩) hr hng hL;clear hr hng hL hC hsz hc0;go_enter Tryz.func94,Tryz.ntmps94;go_upto_block 5 with fail;clear c0;go_wp2;go_loopg [7,93] L (λk s7 s93 wr=>∃i a b:Nat,s93 = .int .i64 (i:Nat)∧i+k=L∧Ad wr g a b∧Fr [g] w wr∧ad a b (bs.drop i)=ad a0 b0 bs);case atStart=>exact⟨0,a0,b0,rfl,by omega,H.o0,Fr.refl _ _,rfl⟩
 case round=>
  obtain⟨i,a,b,rfl,hik,hA,hf,had⟩:=hrel;by_cases hi:i<L
  ·obtain⟨k,rfl⟩:∃k,gk=k+1:=⟨gk-1,by omega⟩;have hib:i<bs.length:=by rw[<-H.l3];exact hi
   have hbn:bs≠[]:=by intro e;rw[e]at hib;simp at hib
   have hrr:=qhj H.o1 hf (λhb x hx hm=>H.o2 hb x hx (by simpa using hm));obtain⟨g1,o1,rfl,cc⟩:=hrr.at hib;have hdr:bs.drop i=bs[i]::bs.drop (i+1):=qcg hib;rw[hdr,ad]at had;have hc256:=qbc bs[i];generalize bs[i].toNat=c at *;obtain⟨C,hC,hsz,hc0,ha1,hb1,hla,hlb⟩:=hA;have ca:=cell_of hC 265;rw[ha1]at ca;have za:=qau hC 265;obtain⟨a2,ha2⟩:=zex ((a+c)%65521);obtain⟨b2,hb2⟩:=zex ((b+a2)%65521);rw[<-ha2,<-hb2]at had;have e1:((a:Int)+(c:Int))%65521=(a2:Int):=by omega
   have e2:((b:Int)+(a2:Int))%65521=(b2:Int):=by omega
   have hla2:a2<65521:=by omega
   have hlb2:b2<65521:=by omega
   have HC:=zhd6 hC hsz hc0 hb1 hf had;clear hC hsz hc0 hb1 hf had ha1 ha2 hb2 hdr hrr hib;go_upto_region 18 with fail;have f2:Fr [g] wr (wr.setCell ⟨g,265,none⟩ (.int .u32 a2)):=(Fr.refl [g] wr).setCell (by simp) _;have hC2:=qax (o:=265) HC.o0 (.int .u32 a2);generalize wr.setCell ⟨g,265,none⟩ (.int .u32 a2)=w2 at *;have ca2:=cell_of hC2 265;have cb2:=cell_of hC2 266;have zb:=qau hC2 266;rw[qal (by rw[HC.o1];decide)]at ca2;rw[qaa (by decide),HC.o3]at cb2;have HC2:=zhd2 hC2 f2;clear ca za cc hC2 f2;refine qcu 13 (by kernel_rfl) (by kernel_rfl) ?_;simp only[qah,qan,qad,qaj];repeat (go_big_quiet_step (fail))
   refine wpQuiet_nil ?_;go_wp2;go_roundg k;case measure=>omega
   case rel=>
    have f3:Fr [g] w2 w2.drew:=Fr.drew1 [g] w2;have hC3:=f3.block g (lt_of_block HC2.o0);have hC4:(w2.drew).heap[g]?=_:=HC2.o0;have hC5:=qax (o:=266) hC4 (.int .u32 b2);refine⟨i+1,a2,b2,by go_num,by omega,⟨_,hC5,by simp[HC.o1],?_,?_,?_,hla2,hlb2⟩,((HC.o4.trans HC2.l1).trans f3).setCell (by simp) _,HC.l5⟩
    ·rw[qaa (by decide),qaa (by decide),HC.o2]
    ·rw[qaa (by decide),qal (by rw[HC.o1];decide)]
    ·rw[qal (by rw[qbf,HC.o1];decide)]
  ·obtain rfl:gk=0:=by omega
   obtain rfl:i=L:=by omega
   have hd:bs.drop i=[]:=qc3 (by rw[<-H.l3];exact qae _);rw[hd,ad]at had;have HA:=zhd3 hA hf had;clear hA hf had hd;go_wp2;go_end0;exact⟨rfl,HA.o1,by rw[<-HA.l2];exact HA.o0⟩
end Go.Proofs.YtkmpfgpfbmeihaaGreatDoor.sums
namespace Go.Proofs.YtkmpfgpfbmeihaaGreatDoor.inf
open Go Go.RowKit lib bm bl huf
def zhead (x0 x1:Nat):Bool:=(x0%16==8)&&(decide (x0/16≤7)&&(((x0*256+x1)%31==0)&&(x1/32%2==0)))
def be32 (bs:List UInt8) (q:Nat):Nat:=byteAt bs q*16777216+byteAt bs (q+1)*65536+byteAt bs (q+2)*256+byteAt bs (q+3)
def izlib (bs:List UInt8) (m:Nat):Except Nat (List UInt8×Nat):=
 if bs.length<2 then .error 4 else if zhead (byteAt bs 0) (byteAt bs 1)=false then .error 3 else
 match iraw (bs.drop 2) m with
 | .error e=>.error e
 | .ok (out,n)=>if bs.length-(n+2)<4 then .error 4 else if be32 bs (n+2)=sums.adler out then .ok (out,n+6) else .error 6
theorem u8_and15 (x:Nat) (h:x<256):bits .and .u8 ((x:Nat):Int) 15=((x%16:Nat):Int):=by
 have hall:∀y:Fin 256,bits .and .u8 ((y.val:Nat):Int) 15=((y.val%16:Nat):Int):=by decide +kernel
 exact hall ⟨x,h⟩
theorem zav (x:Nat) (h:x<256):bits .and .u8 ((x:Nat):Int) 32=((x/32%2*32:Nat):Int):=by
 have hall:∀y:Fin 256,bits .and .u8 ((y.val:Nat):Int) 32=((y.val/32%2*32:Nat):Int):=by decide +kernel
 exact hall ⟨x,h⟩
end Go.Proofs.YtkmpfgpfbmeihaaGreatDoor.inf
namespace Go.Proofs.YtkmpfgpfbmeihaaGreatDoor.crc
open Go
def poly:Nat:=3988292384
def st (c:Nat):Nat:=if c%2=1 then (c/2) ^^^ poly else c/2
def stN:Nat→Nat→Nat
 | 0,c=>c
 | k+1,c=>stN k (st c)
theorem qwl {a b:Nat} (h1:a<4294967296) (h2:b<4294967296):a ^^^ b<4294967296:=Nat.xor_lt_two_pow (n:=32) h1 h2
theorem zf4 {c:Nat} (h:c<4294967296):st c<4294967296:=by
 unfold st;split
 ·exact qwl (by omega) (by decide)
 ·omega
theorem zdj (k:Nat):∀{c:Nat},c<4294967296→stN k c<4294967296:=by
 induction k with
 | zero=>intro c h;exact h
 | succ k ih=>intro c h;exact ih (zf4 h)
theorem zap (a b:Nat):(a ^^^ b)/2=a/2 ^^^ b/2:=Nat.xor_div_two
theorem zd5 (a b:Nat):(a ^^^ b)%2=(a%2+b%2)%2:=by have:=Nat.xor_mod_two_pow (a:=a) (b:=b) (n:=1);simp only[Nat.pow_one]at this;rw[this];rcases qe7 a with h|h<;>rcases qe7 b with k|k<;>rw[h,k]<;>rfl
theorem zf3 (a b:Nat):st (a ^^^ b)=st a ^^^ st b:=by
 unfold st;rw[zap,zd5];rcases qe7 a with h|h<;>rcases qe7 b with k|k<;>rw[h,k]<;>simp
 ·rw[Nat.xor_assoc]
 ·rw[Nat.xor_assoc,Nat.xor_comm (b/2) poly,<-Nat.xor_assoc]
 ·rw[Nat.xor_assoc,<-Nat.xor_assoc poly,Nat.xor_comm poly,Nat.xor_assoc (b/2),Nat.xor_self,Nat.xor_zero]
theorem zem (k:Nat):∀(a b:Nat),stN k (a ^^^ b)=stN k a ^^^ stN k b:=by
 induction k with
 | zero=>intro a b;rfl
 | succ k ih=>intro a b;show stN k (st (a ^^^ b))=_;rw[zf3,ih];rfl
theorem za8 (k:Nat):∀(h:Nat),stN k (2^k*h)=h:=by
 induction k with
 | zero=>intro h;simp[stN]
 | succ k ih=>
  intro h;show stN k (st (2^(k+1)*h))=h;have e:2^(k+1)*h=2*(2^k*h):=by rw[qcs,qcc (2^k) 2,qc4]
  unfold st;rw[e,if_neg (by omega),Nat.mul_div_cancel_left _ (by decide),ih]
theorem split8 (x:Nat):x=(2^8*(x/256)) ^^^ (x%256):=by
 have h1:2^8*(x/256)+x%256=x:=by omega
 have h2:=Nat.two_pow_add_eq_or_of_lt (i:=8) (b:=x%256) (by omega) (x/256);apply Nat.eq_of_testBit_eq;intro i;rw[Nat.testBit_xor];conv=>lhs;rw[<-h1,h2]
 rw[Nat.testBit_or,Nat.testBit_two_pow_mul];by_cases hi:8≤i
 ·have:(x%256).testBit i=false:=Nat.testBit_lt_two_pow (qat (qgs x (by decide)) (qa3 (n:=2) (by decide) hi));rw[this];simp
 ·simp[hi]
def tb (i:Nat):Nat:=stN 8 i
def inb (c:Nat) (b:UInt8):Nat:=stN 8 (c ^^^ b.toNat)
theorem qu0 (a b:Nat):(a ^^^ b)/256=a/256 ^^^ b/256:=by have:=Nat.xor_div_two_pow (a:=a) (b:=b) (n:=8);simpa using this
theorem zfi (c:Nat) (b:UInt8):inb c b=c/256 ^^^ tb (c%256 ^^^ b.toNat):=by
 have hb:b.toNat<256:=b.toNat_lt;unfold inb tb;conv=>lhs;rw[split8 (c ^^^ b.toNat)]
 rw[zem,za8,qu0,qi4 hb,Nat.xor_zero];have:=Nat.xor_mod_two_pow (a:=c) (b:=b.toNat) (n:=8);rw[show (2:Nat)^8=256 from rfl]at this;rw[this,qei hb]
theorem zgk {c:Nat} (h:c<4294967296) (b:UInt8):inb c b<4294967296:=zdj 8 (qwl h (by have:=b.toNat_lt;omega))
theorem zhb {i:Nat} (h:i<256):tb i<4294967296:=zdj 8 (by omega)
def crcs (bs:List UInt8):Nat:=bs.foldl inb 4294967295
def crc (bs:List UInt8):Nat:=4294967295-crcs bs
end Go.Proofs.YtkmpfgpfbmeihaaGreatDoor.crc
namespace Go.Proofs.YtkmpfgpfbmeihaaGreatDoor.obj
open Go Go.RowKit lib
def kname (k:Int):List UInt8:=if k=1 then [99,111,109,109,105,116] else if k=2 then [116,114,101,101] else if k=3 then [98,108,111,98] else if k=4 then [116,97,103] else []
def names5:Array Value:=#[.string ⟨#[]⟩,.string ⟨#[99,111,109,109,105,116]⟩,.string ⟨#[116,114,101,101]⟩,.string ⟨#[98,108,111,98]⟩,.string ⟨#[116,97,103]⟩]
theorem infoN:(Tryz.prog.info? 160).map (·.size)=some 5:=by kernel_rfl
theorem qhv {fn:Func} {p:Tmp} (h:fn.results=#[.cell p 160]) (tmps:Array Value) (w:World) (g:Nat) (cs:Array Value) (fr:Nat×Nat)
  (hp:tmps.getD p undef = .pointer (some ⟨g,0,none⟩)) (hg:w.heap[g]?=some (.cells cs 160 fr)) (hs:cs.size=5):(results fn tmps).run Tryz.prog w = .ok (.agg cs) w:=
 results_cell_row h tmps w g 160 cs fr _ hp hg Tryz.underlying160 rfl (by rw[infoN,hs])
theorem qx7 (w:World):Calls Tryz.prog 92 #[] w λe w'=>e = .returned (.agg names5)∧Fr [] w w':=by go_enter Tryz.func92,Tryz.ntmps92;go_wp2;exact bodyPost_ret (qhv rfl _ _ w.heap.size _ (0,0) rfl (qay w _) rfl) rfl ⟨rfl,(Fr.refl [] w).alloc _⟩
theorem qt7 (k:Int) (w:World):Calls Tryz.prog 62 #[.int .i64 k] w λe w'=>e = .returned (.string (str (kname k)))∧Fr [] w w':=by
 by_cases h0:k<0
 ·have hn:kname k=[]:=by unfold kname;rw[if_neg (by omega),if_neg (by omega),if_neg (by omega),if_neg (by omega)]
  rw[hn];go_enter Tryz.func62,Tryz.ntmps62;go_wp2;go_ret;exact⟨rfl,Fr.refl _ _⟩
 ·by_cases h4:4<k
  ·have hn:kname k=[]:=by unfold kname;rw[if_neg (by omega),if_neg (by omega),if_neg (by omega),if_neg (by omega)]
   rw[hn];go_enter Tryz.func62,Tryz.ntmps62;go_wp2;go_ret;exact⟨rfl,Fr.refl _ _⟩
  ·have hk:k=0∨k=1∨k=2∨k=3∨k=4:=by omega
   have i0:∀w:World,(Instr.index 160 (.agg names5) (.int .i64 0)).run Tryz.prog w = .ok (.string ⟨#[]⟩) w:=λw=>by kernel_rfl
   have i1:∀w:World,(Instr.index 160 (.agg names5) (.int .i64 1)).run Tryz.prog w = .ok (.string ⟨#[99,111,109,109,105,116]⟩) w:=λw=>by kernel_rfl
   have i2:∀w:World,(Instr.index 160 (.agg names5) (.int .i64 2)).run Tryz.prog w = .ok (.string ⟨#[116,114,101,101]⟩) w:=λw=>by kernel_rfl
   have i3:∀w:World,(Instr.index 160 (.agg names5) (.int .i64 3)).run Tryz.prog w = .ok (.string ⟨#[98,108,111,98]⟩) w:=λw=>by kernel_rfl
   have i4:∀w:World,(Instr.index 160 (.agg names5) (.int .i64 4)).run Tryz.prog w = .ok (.string ⟨#[116,97,103]⟩) w:=λw=>by kernel_rfl
   clear h0 h4;rcases hk with rfl|rfl|rfl|rfl|rfl
   all_goals
    go_enter Tryz.func62,Tryz.ntmps62
    go_wp2_with (go_at_call 92;refine (qx7 _).mono ?_;rintro e w1 ⟨rfl,f1⟩)
    go_ret
    exact⟨rfl,f1⟩
theorem qxf (k:Int) (w:World):Calls Tryz.prog 84 #[.int .i64 k] w λe w'=>e = .returned (.string (str (kname k)))∧Fr [] w w':=by
 by_cases h0:k<0
 ·have hn:kname k=[]:=by unfold kname;rw[if_neg (by omega),if_neg (by omega),if_neg (by omega),if_neg (by omega)]
  rw[hn];go_enter Tryz.func84,Tryz.ntmps84;go_wp2;go_ret;exact⟨rfl,(Fr.refl [] w).alloc _⟩
 ·by_cases h4:4<k
  ·have hn:kname k=[]:=by unfold kname;rw[if_neg (by omega),if_neg (by omega),if_neg (by omega),if_neg (by omega)]
   rw[hn];go_enter Tryz.func84,Tryz.ntmps84;go_wp2;go_ret;exact⟨rfl,(Fr.refl [] w).alloc _⟩
  ·have hk:k=0∨k=1∨k=2∨k=3∨k=4:=by omega
   clear h0 h4;rcases hk with rfl|rfl|rfl|rfl|rfl
   all_goals
    go_enter Tryz.func84,Tryz.ntmps84
    go_wp2
    go_ret
    exact⟨rfl,(Fr.refl [] w).alloc _⟩
end Go.Proofs.YtkmpfgpfbmeihaaGreatDoor.obj
namespace Go.Proofs.YtkmpfgpfbmeihaaGreatDoor.bm
open Go Go.RowKit
theorem qqz (a:Nat) (ha:a<9223372036854775808):(BitVec.ofInt 64 (a:Int)).toNat=a:=by rw[BitVec.ofInt_natCast,BitVec.toNat_ofNat];exact qei (by omega)
theorem qgw (a b:Nat) (ha:a<9223372036854775808) (hb:b<9223372036854775808):bits .or .i64 (a:Int) (b:Int)=((a ||| b:Nat):Int):=by
 have hx:a ||| b<2^63:=Nat.or_lt_two_pow (by omega) (by omega)
 show IntKind.i64.wrap ((BitVec.ofInt 64 (a:Int) ||| BitVec.ofInt 64 (b:Int)).toNat:Int)=_;rw[BitVec.toNat_or,qqz a ha,qqz b hb,qbw];omega
theorem qm6 (n v k:Nat) (hk:k≤62) (hv:v<2^k) (hn:n*2^k<9223372036854775808):bits .or .i64 ((n:Int)*((2^k:Nat):Int)) (v:Int)=((n*2^k+v:Nat):Int):=by
 have h1:=qir k 62 hk;have e62:2^62=4611686018427387904:=by decide
 rw[e62]at h1;rw[<-qev,qgw _ _ hn (by omega),Nat.or_comm,qk5 v n k hv,qcc n,zan]
end Go.Proofs.YtkmpfgpfbmeihaaGreatDoor.bm
namespace Go.Proofs.YtkmpfgpfbmeihaaGreatDoor.lib
open Go Go.RowKit
theorem qtr (bs:List UInt8):(str bs).size=bs.length:=by simp[str,ByteArray.size]
section
variable {P : Program} {w : World} {t u e : TypeId}
end
section
variable {P : Program} {w : World} {ops : Array Oper} {rest : List Oper} {o : Oper} {a : Act} {Q : Exit → Act → World → Prop} {t : TypeId}
theorem qee (a b:List UInt8):str a++str b=str (a++b):=by apply ByteArray.ext;simp[str,ByteArray.data_append]
end
end Go.Proofs.YtkmpfgpfbmeihaaGreatDoor.lib
namespace Go.Proofs.YtkmpfgpfbmeihaaGreatDoor.obj
open Go Go.RowKit lib
theorem qs5 {m:Nat} (h:9<m):Lib.decDigits m=Lib.decDigits (m/10)++[UInt8.ofNat (48+m%10)]:=by rw[Lib.decDigits,dif_neg (by omega)]
theorem qnb {m:Nat} (h:¬9<m):Lib.decDigits m=[UInt8.ofNat (48+m)]:=by rw[Lib.decDigits,dif_pos (by omega)]
theorem digb (x:Nat) (h:x<10):((UInt8.ofNat (48+x)).toNat:Nat)=48+x:=by rw[qcy];omega
theorem qv4 (N:Nat) (w:World) (hN:N≤140737488355328):Calls Tryz.prog 85 #[.int .i64 N] w λe w'=>e = .returned (.string (str (Lib.decDigits N)))∧Fr [] w w':=by
 go_enter Tryz.func85,Tryz.ntmps85;go_wp2;go_loopg [0,3] N (λk s0 s3 wr=>∃(m:Nat) (t:List UInt8),s0 = .int .i64 (m:Nat)∧s3 = .string (str t)∧m≤k∧t.length+m≤N∧Lib.decDigits m++t=Lib.decDigits N∧Fr [] w wr);case atStart=>exact⟨N,[],rfl,rfl,qae _,by simp,by simp,Fr.refl _ _⟩
 case round=>
  obtain⟨m,t,rfl,rfl,hk,hm,he,hf⟩:=hrel;have H:=zhd2 he hf;clear he hf;have htz:(str t).size=t.length:=by simp[str,ByteArray.size]
  have HN:=zhd hm;have htb:t.length≤140737488355328:=by omega
  have hmb:m≤140737488355328:=by omega
  obtain⟨T,hT⟩:=zex (str t);rw[<-hT]at htz ⊢;have hTs:T.size≤140737488355328:=by omega
  have HTT:=zhd hT;clear htz hm hT htb;by_cases h9:9<m
  ·obtain⟨z,hz⟩:=zex (str [UInt8.ofNat (48+m%10)]);have hzs:z.size=1:=by rw[hz];rfl
   have cv:∀c,(convert 23 9 (.slice (some ⟨wr.heap.size,0,none⟩) 1 c)).run Tryz.prog (wr.alloc (.cells #[.int .u8 (48+(m:Int)%10)] 5)) = .ok (.string z) (wr.alloc (.cells #[.int .u8 (48+(m:Int)%10)] 5)):=by
    rw[hz];exact qde _ Tryz.underlying23 Tryz.underlying5 Tryz.underlying9 (ao:=some ⟨wr.heap.size,0,none⟩) (n:=1) rfl (.inr ⟨wr.heap.size,0,rfl,λj u hj=>by
     rw[cell_of (qay wr _)]
     cases j with
     | zero=>simp only[qak,qam,qac,bv,digb _ (show m%10<10 by omega)]at hj;rw[<-hj];simp
     | succ j=>simp at hj⟩)
   have HZ:=zhd hz;clear hz;go_wp2;go_roundg (m/10);case measure=>omega
   case rel=>exact⟨m/10,[UInt8.ofNat (48+m%10)]++t,by go_num,by rw[HZ.out,HTT.out,qee],qae _,by have:=HN.out;simp;omega,by rw[<-qas,<-qs5 h9];exact H.o0,H.l1.alloc _⟩
  ·obtain⟨z,hz⟩:=zex (str [UInt8.ofNat (48+m)]);have hzs:z.size=1:=by rw[hz];rfl
   have cv:∀c,(convert 23 9 (.slice (some ⟨wr.heap.size,0,none⟩) 1 c)).run Tryz.prog (wr.alloc (.cells #[.int .u8 (48+(m:Int))] 5)) = .ok (.string z) (wr.alloc (.cells #[.int .u8 (48+(m:Int))] 5)):=by
    rw[hz];exact qde _ Tryz.underlying23 Tryz.underlying5 Tryz.underlying9 (ao:=some ⟨wr.heap.size,0,none⟩) (n:=1) rfl (.inr ⟨wr.heap.size,0,rfl,λj u hj=>by
     rw[cell_of (qay wr _)]
     cases j with
     | zero=>simp only[qak,qam,qac,bv,digb _ (show m<10 by omega)]at hj;rw[<-hj];simp
     | succ j=>simp at hj⟩)
   have HZ:=zhd hz;clear hz;go_wp2;go_ret;exact⟨by rw[<-H.o0,qnb h9,<-qee,<-HZ.out,<-HTT.out];rfl,H.l1.alloc _⟩
def header (k:Int) (n:Nat):List UInt8:=kname k++[32]++Lib.decDigits n++[0]
theorem qpo (k:Int):(kname k).length≤6:=by unfold kname;repeat (split<;>first|decide|skip)
theorem zgw (n:Nat):(Lib.decDigits n).length≤n+1:=by
 induction n using Nat.strongRecOn with
 | _ n ih=>
  by_cases h:9<n
  ·rw[qs5 h,qab];have:=ih (n/10) (by omega);simp only[qao,qbi];omega
  ·rw[qnb h];simp
theorem qs7:∀(k n:Nat),0<k→n<10^k→(Lib.decDigits n).length≤k
 | 0,n,h,_=>by omega
 | k+1,n,_,hn=>by
  by_cases h:9<n
  ·rw[qs5 h,qab];have h1:n/10<10^k:=by rw[qcs]at hn;omega
   have hk:0<k:=by
    rcases Nat.eq_zero_or_pos k with rfl|hk
    ·simp at h1;omega
    ·exact hk
   have:=qs7 k (n/10) hk h1;simp only[qao,qbi];omega
  ·rw[qnb h];simp
theorem qkp (k:Int) (n:Nat) (hn:n≤140737488355328):(header k n).length≤24:=by
 have h1:=qpo k;have h2:=qs7 16 n (by decide) (by
  have:10^16=10000000000000000:=by decide
  omega)
 unfold header;simp only[qab,qao,qbi];omega
theorem qsa (k:Int) (n:Nat) (w:World) (hn:n≤140737488355328):Calls Tryz.prog 52 #[.int .i64 k,.int .i64 n] w λe w'=>e = .returned (.string (str (header k n)))∧Fr [] w w':=by
 obtain⟨A,hA⟩:=zex (str (kname k));obtain⟨D,hD⟩:=zex (str (Lib.decDigits n));have hAs:A.size≤6:=by have:=qpo k;rw[hA];simpa[str,ByteArray.size] using this
 have hDs:D.size≤140737488355329:=by
  have:=zgw n;have e:(str (Lib.decDigits n)).size=(Lib.decDigits n).length:=by simp[str,ByteArray.size]
  rw[hD,e];omega
 have h1:=λw'=>qxf k w'
 have h2:=λw'=>qv4 n w' (by omega)
 rw[<-hA]at h1;rw[<-hD]at h2;have H:=zhd4 h1 h2 hA hD;clear h1 h2 hA hD;go_enter Tryz.func52,Tryz.ntmps52;go_wp2_with (first
  | (go_at_call 84;refine (H.o0 _).mono ?_;rintro e w1 ⟨rfl,f1⟩)
  | (go_at_call 85;refine (H.o1 _).mono ?_;rintro e w2 ⟨rfl,f2⟩)
  | (refine qd8 (n:Int) rfl _ _ _ rfl (n:Int) 0 rfl rfl (by split<;>omega) ?_))
 go_ret;have e1:({ data:=#[32] }:ByteArray)=str [32]:=rfl;have e0:({ data:=#[0] }:ByteArray)=str [0]:=rfl;exact⟨by unfold header;rw[<-qee,<-qee,<-qee,<-H.o2,<-H.l3,<-e1,<-e0];rfl,f1.trans f2⟩
end Go.Proofs.YtkmpfgpfbmeihaaGreatDoor.obj
