/-
  Texts of this proof, one behind the other: LooseLaw, LooseLaw2, ShaLaw, ShaMix, ShaMix2, ShaW, ShaSum, ShaWhole, DeltaLaw.
-/
import Derived.Test.YticadfhpolhkeaaGreatDoorQ14
import Derived.Laws.EntriesVeiled
set_option maxHeartbeats 16000000
set_option maxRecDepth 100000
set_option linter.unusedVariables false
set_option linter.unusedSimpArgs false
namespace Go.Proofs.YticadfhpolhkeaaGreatDoor
namespace lo
open Go obj
variable {a s:LB} {k n:Nat}
def fz:List UInt8->Option Nat
 | []=>none
 | b::t=>if b=0 then some 0 else (fz t).map (·+1)
theorem XY:∀{s:LB} {i:Nat},fz s=some i->s[i]?=some 0/\∀j,j<i->∃c,s[j]?=some c/\c≠0
 | [],i,h=>by cases h
 | b::t,i,h=>by
  rw[fz]at h;split at h
  ·rename_i hb;obtain rfl:=ig h;exact⟨by rw[hb];rfl,λj hj=>absurd hj (Nat.not_lt_zero j)⟩
  ·rename_i hb;cases ht:fz t with
   | none=>rw[ht]at h;cases h
   | some k=>
    rw[ht]at h;simp only[EO,fI]at h;subst h;obtain⟨h1,h2⟩:=XY ht;refine⟨by simpa using h1,λj hj=>?_⟩;cases j with
    | zero=>exact⟨b,rfl,hb⟩
    | succ j=>simpa using h2 j (by omega)
theorem W9:∀{s:LB} {i:Nat},s[i]?=some 0->(∀j,j<i->∃c,s[j]?=some c/\c≠0)->fz s=some i
 | [],i,h,_=>by cases h
 | b::t,0,h,_=>by
  rw[fz,if_pos (by simpa using h)]
 | b::t,i+1,h,h2=>by
  obtain⟨c,hc,bg⟩:=h2 0 (by omega);have hb:b≠0:=by simp at hc;rw[hc];exact bg
  rw[fz,if_neg hb,W9 (s:=t) (i:=i) (by simpa using h) (λj hj=>by simpa using h2 (j+1) (by omega))];rfl
theorem ZO:∀n,∀c∈Lib.decDigits n,48<=c.toNat/\c.toNat<=57:=by
 intro n;induction n using Nat.strongRecOn with
 | ind n ih=>
  intro c hc;by_cases h:9<n
  ·rw[XK h,jo,eF]at hc;rcases hc with hc|rfl
   ·exact ih (n/10) (by omega) c hc
   ·rw[xd];omega
  ·rw[ZQ h,eF]at hc;subst hc;rw[xd];omega
theorem qty (k:Int):∀c∈eT k,97<=c.toNat/\c.toNat<=122:=by unfold eT;repeat (split<;>first|decide|skip)
theorem ZV (k:Int) (m:Nat):∃h,header k m=h++[0]/\∀c∈h,c≠0:=by
 refine⟨eT k++[32]++Lib.decDigits m,rfl,λc hc h0=>?_⟩;subst h0;rcases jo.1 hc with hc|hc
 ·rcases jo.1 hc with hc|hc
  ·have:=(qty k 0 hc).1;revert this;decide
  ·simp at hc
 ·have:=(ZO m 0 hc).1;revert this;decide
theorem zba {k:Int} {m:Nat} (h:header k m=s.take n):fz s=some ((header k m).length-1)/\(n=(header k m).length\/s.length<n):=by
 obtain⟨t,ht,bg⟩:=ZV k m;have hl:(header k m).length=t.length+1:=by rw[ht];simp
 have hp:∀j,j<t.length+1->s[j]?=(t++[0])[j]?:=λj hj=>by
  have h1:=congrArg (λl=>l[j]?) h;rw[ht]at h1;simp only[oG]at h1;split at h1
  ·exact h1.symm
  ·rw[dm (by simp;omega)]at h1;cases h1
 refine⟨?_,?_⟩
 ·rw[hl,Du];refine W9 (by rw[hp _ (by omega)];simp) λj hj=>?_
  rw[hp j (by omega),Ay hj,dm hj];exact⟨_,rfl,bg _ (sk hj)⟩
 ·have h2:=congrArg List.length h;rw[fH]at h2;omega
def kg (s:LB):Option (Nat×Nat):=match fz s with
 | none=>none
 | some i=>([1,2,3,4].find? λk:Nat=>header k (s.length-(i+1))==s.take (i+1)).map λk=>(k,i+1)
theorem qmt {j:Nat} (hj:1<=j/\j<=4) (hk:1<=k/\k<=4) {b:LB} (h1:s=eT j++[32]++a) (h2:s=eT k++[32]++b):j=k:=by obtain⟨j1,j2⟩:=hj;obtain⟨k1,k2⟩:=hk;have h:=h1.symm.trans h2;rcases (show j=1\/j=2\/j=3\/j=4 by omega) with rfl|rfl|rfl|rfl<;>rcases (show k=1\/k=2\/k=3\/k=4 by omega) with rfl|rfl|rfl|rfl<;>first|rfl|(simp[eT]at h)
theorem qoa (h:kg s=some (k,n)):1<=k/\k<=4/\n<=s.length/\header k (s.length-n)=s.take n:=by
 unfold kg at h;split at h
 ·cases h
 ·rename_i i hi;cases hf:([1,2,3,4].find? λk:Nat=>header k (s.length-(i+1))==s.take (i+1)) with
  | none=>rw[hf]at h;cases h
  | some q=>rw[hf]at h;simp only[EO,fI,gq]at h;obtain⟨rfl,rfl⟩:=h;have h1:=List.find?_some hf;have h2:=List.mem_of_find?_eq_some hf;have h3:=(nF.1 (XY hi).1).1;simp only[beq_iff_eq]at h1;simp only[eX,mV,or_false]at h2;exact⟨by omega,by omega,by omega,h1⟩
theorem Y6 (hk:1<=k/\k<=4) (hn:n<=s.length) (h:header k (s.length-n)=s.take n):kg s=some (k,n):=by
 obtain⟨h1,h2⟩:=zba h;obtain⟨t,ht,_⟩:=ZV k (s.length-n);have hl:(header k (s.length-n)).length=t.length+1:=by rw[ht];simp
 have lv:n=t.length+1:=by omega
 rw[hl,Du]at h1;unfold kg;rw[h1];have e:([1,2,3,4].find? λj:Nat=>header j (s.length-(t.length+1))==s.take (t.length+1))=some k:=by
  rw[<-lv];have hu:∀j:Nat,1<=j/\j<=4->(header j (s.length-n)==s.take n)=true->j=k:=λj hj e=>by have e1:header j (s.length-n)=header k (s.length-n):=(beq_iff_eq.1 e).trans h.symm;exact qmt (s:=header j (s.length-n)) (a:=Lib.decDigits (s.length-n)++[0]) (b:=Lib.decDigits (s.length-n)++[0]) hj hk (by unfold header;simp) (by rw[e1];unfold header;simp)
  have hh:(header k (s.length-n)==s.take n)=true:=by rw[h];simp
  have hf:∀j:Nat,1<=j/\j<=4->j≠k->(header j (s.length-n)==s.take n)=false:=λj hj bg=>by
   cases hb:(header j (s.length-n)==s.take n) with
   | false=>rfl
   | true=>exact absurd (hu j hj hb) bg
  obtain⟨k1,k2⟩:=hk;rcases (show k=1\/k=2\/k=3\/k=4 by omega) with rfl|rfl|rfl|rfl
  ·simp only[Db,hh]
  ·simp only[Db,hh,hf 1 (by decide) (by decide)]
  ·simp only[Db,hh,hf 1 (by decide) (by decide),hf 2 (by decide) (by decide)]
  ·simp only[Db,hh,hf 1 (by decide) (by decide),hf 2 (by decide) (by decide),hf 3 (by decide) (by decide)]
 dsimp only;rw[e,lv];rfl
theorem qxn (hk:1<=k/\k<=4) (b:LB):kg (header k b.length++b)=some (k,(header k b.length).length):=
 Y6 hk (by rw[aG];omega) (by rw[aG,Nat.add_sub_cancel_left,List.take_left' rfl])
def scan:List UInt8->Nat->Option (Option Nat)
 | [],_=>some none
 | c::t,i=>if c=0 then some (some i) else if c.toNat<48\/57<c.toNat then none else scan t (i+1)
theorem YA:∀{t:LB} {i n:Nat},scan t i=some (some n)->i<=n/\n<i+t.length
 | [],i,n,h=>by cases h
 | c::t,i,n,h=>by
  rw[scan]at h;split at h
  ·simp only[fI]at h;subst h;simp
  ·split at h
   ·cases h
   ·have:=YA h;simp only[dw];omega
theorem ql6:∀(d rest:LB) (i:Nat),(∀c∈d,48<=c.toNat/\c.toNat<=57)->scan (d++0::rest) i=some (some (i+d.length))
 | [],rest,i,_=>by rw[sS,scan,if_pos rfl];rfl
 | c::t,rest,i,h=>by
  have hc:=h c (by simp);have h0:c≠0:=by rintro rfl;exact absurd hc.1 (by decide)
  rw[uo,scan,if_neg h0,if_neg (by omega),ql6 t rest (i+1) (λx hx=>h x (oH _ hx)),dw];congr 2;omega
def pre (k:Nat):List UInt8:=eT k++[32]
def je (s:LB):Option (Nat×Nat):=match [1,2,3,4].find? λk=>(pre k).isPrefixOf s with
 | none=>none
 | some k=>match scan (s.drop (pre k).length) 0 with
  | some (some i)=>if header k (s.length-((pre k).length+i+1))=s.take ((pre k).length+i+1) then some (k,(pre k).length+i+1) else none
  | _=>none
theorem Zi (hk:1<=k/\k<=4) (h:s=pre k++a):([1,2,3,4].find? λk=>(pre k).isPrefixOf s)=some k:=by
 have hh:(pre k).isPrefixOf s=true:=by rw[Oz,h];exact List.prefix_append _ _
 have hf:∀j:Nat,1<=j/\j<=4->j≠k->(pre j).isPrefixOf s=false:=λj hj bg=>by
  cases hb:(pre j).isPrefixOf s with
  | false=>rfl
  | true=>obtain⟨b,hb⟩:=Oz.1 hb;exact absurd (qmt hj hk hb.symm h) bg
 obtain⟨k1,k2⟩:=hk;rcases (show k=1\/k=2\/k=3\/k=4 by omega) with rfl|rfl|rfl|rfl
 ·simp only[Db,hh]
 ·simp only[Db,hh,hf 1 (by decide) (by decide)]
 ·simp only[Db,hh,hf 1 (by decide) (by decide),hf 2 (by decide) (by decide)]
 ·simp only[Db,hh,hf 1 (by decide) (by decide),hf 2 (by decide) (by decide),hf 3 (by decide) (by decide)]
theorem Zh (s:LB):je s=kg s:=by
 cases hl:kg s with
 | some kn=>
  obtain⟨k,n⟩:=kn;obtain⟨h1,h2,h3,h4⟩:=qoa hl;have hs:s=pre k++(Lib.decDigits (s.length-n)++0::s.drop n):=by
   conv=>lhs;rw[<-BP n s,<-h4]
   unfold header pre;simp
  have hn:n=(pre k).length+(Lib.decDigits (s.length-n)).length+1:=by
   have h5:=congrArg List.length h4;rw[fH,vP h3]at h5;have h6:(header k (s.length-n)).length=(pre k).length+(Lib.decDigits (s.length-n)).length+1:=by unfold header pre;simp only[aG,dw,jK]
   omega
  unfold je;rw[Zi ⟨h1,h2⟩ hs];dsimp only;have hd:s.drop (pre k).length=Lib.decDigits (s.length-n)++0::s.drop n:=by
   conv=>lhs;rw[hs]
   rw[List.drop_left' rfl]
  rw[hd,ql6 _ _ _ (ZO _),iN];dsimp only;rw[<-hn,if_pos h4]
 | none=>
  cases hp:je s with
  | none=>rfl
  | some kn=>
   exfalso;obtain⟨k,n⟩:=kn;unfold je at hp;split at hp
   ·cases hp
   ·rename_i k' hk;have h2:=List.mem_of_find?_eq_some hk;simp only[eX,mV,or_false]at h2;split at hp
    ·rename_i i hi;split at hp
     ·rename_i he;simp only[fI,gq]at hp;obtain⟨rfl,rfl⟩:=hp;have h3:=(YA hi).2;rw[gN]at h3;rw[Y6 (by omega) (by omega) he]at hl;cases hl
     ·cases hp
    ·cases hp
def fN (b:LB):Nat×List UInt8×Nat:=match inf.kW b 65568 with
 | .error e=>(0,[],e)
 | .ok (out,used)=>if used=b.length then (match kg out with
  | none=>(0,[],3)
  | some (k,n)=>if 65536<out.length-n then (0,[],5) else (k,out.drop n,0)) else (0,[],3)
end lo
namespace sha
open Go Go.RowKit lib
def Hl (x:Int) (n:Nat):Int:=bits .or .u32 (x*2^n%4294967296) (x/2^(32-n))
def dY (a b:Int):Int:=(a+b)%4294967296
def Ll (a:Int):Int:=bits .xor .u32 IntKind.u32.max a
def ch (b c d:Int):Int:=bits .or .u32 (bits .and .u32 b c) (bits .and .u32 (Ll b) d)
def par (b c d:Int):Int:=bits .xor .u32 (bits .xor .u32 b c) d
def maj (b c d:Int):Int:=bits .or .u32 (bits .or .u32 (bits .and .u32 b c) (bits .and .u32 b d)) (bits .and .u32 c d)
def zM (q:Nat) (b c d:Int):Int:=match q with
 | 0=>ch b c d
 | 1=>par b c d
 | 2=>maj b c d
 | _=>par b c d
def yT (q:Nat):Int:=match q with
 | 0=>1518500249
 | 1=>1859775393
 | 2=>2400959708
 | _=>3395469782
def word (p:LB) (i:Nat):Int:=(((p[i]?.getD 0).toNat*16777216+(p[i+1]?.getD 0).toNat*65536+(p[i+2]?.getD 0).toNat*256+(p[i+3]?.getD 0).toNat:Nat):Int)
def sched (p:LB):Nat->List Int
 | 0=>[]
 | t+1=>sched p t++[if t<16 then word p (4*t) else Hl (bits .xor .u32 (bits .xor .u32 (bits .xor .u32 ((sched p t)[t-3]?.getD 0) ((sched p t)[t-8]?.getD 0)) ((sched p t)[t-14]?.getD 0)) ((sched p t)[t-16]?.getD 0)) 1]
theorem IV (p:LB):∀t,(sched p t).length=t
 | 0=>rfl
 | t+1=>by rw[sched,aG,IV p t];rfl
theorem Ty (p:LB) (i:Nat):∀t,i<t->(sched p t)[i]?=(sched p (i+1))[i]?
 | 0,h=>by omega
 | t+1,h=>by
  by_cases e:i=t
  ·rw[e]
  ·rw[<-Ty p i t (by omega)];conv=>lhs;rw[sched]
   rw[Ay (by rw[IV];omega)]
structure H5 where
 a:Int
 b:Int
 c:Int
 d:Int
 e:Int
def round (p:LB) (t:Nat) (s:H5):H5:=
 ⟨dY (dY (dY (dY (Hl s.a 5) (zM (t/20) s.b s.c s.d)) s.e) (yT (t/20))) ((sched p 80)[t]?.getD 0),s.a,Hl s.b 30,s.c,s.d⟩
def rounds (p:LB):Nat->H5->H5
 | 0,s=>s
 | t+1,s=>round p t (rounds p t s)
def lq (h:H5) (p:LB):H5:=
 ⟨dY h.a (rounds p 80 h).a,dY h.b (rounds p 80 h).b,dY h.c (rounds p 80 h).c,dY h.d (rounds p 80 h).d,dY h.e (rounds p 80 h).e⟩
def H5.vals (h:H5):Array Value:=#[.int .u32 h.a,.int .u32 h.b,.int .u32 h.c,.int .u32 h.d,.int .u32 h.e]
def h0:H5:=⟨1732584193,4023233417,2562383102,271733878,3285377520⟩
def blocks:Nat->H5->List UInt8->H5
 | 0,h,_=>h
 | f+1,h,p=>if 64<=p.length then blocks f (lq h p) (p.drop 64) else h
theorem yL (x:Int) (n:Nat) (w:World) (hn:n=1\/n=5\/n=30) :
  Calls Tryz.prog 177 #[.int .u32 x,.int .i64 n] w λe w'=>e = .returned (.int .u32 (Hl x n))/\w'=w:=by
 have h31:bits .and .u64 (n:Int) 31=(n:Int):=by rcases hn with rfl|rfl|rfl<;>decide +kernel
 have h0:1<=n/\n<=30:=by omega
 clear hn;go_enter Tryz.func177,Tryz.ntmps177;go_wp2;go_ret;exact⟨rfl,rfl⟩
theorem O1 (b c d:Int) (w:World):Calls Tryz.prog 232 #[.int .u32 b,.int .u32 c,.int .u32 d] w λe w'=>e = .returned (.int .u32 (par b c d))/\w'=w:=by go_enter Tryz.func232,Tryz.ntmps232;go_wp2;go_ret;exact⟨rfl,rfl⟩
theorem OI (b c d:Int) (w:World):Calls Tryz.prog 233 #[.int .u32 b,.int .u32 c,.int .u32 d] w λe w'=>e = .returned (.int .u32 (ch b c d))/\w'=w:=by go_enter Tryz.func233,Tryz.ntmps233;go_wp2;go_ret;exact⟨rfl,rfl⟩
theorem OZ (b c d:Int) (w:World):Calls Tryz.prog 234 #[.int .u32 b,.int .u32 c,.int .u32 d] w λe w'=>e = .returned (.int .u32 (maj b c d))/\w'=w:=by go_enter Tryz.func234,Tryz.ntmps234;go_wp2;go_ret;exact⟨rfl,rfl⟩
def fns:Array Value:=#[.func (.func 233) #[] #[],.func (.func 232) #[] #[],.func (.func 234) #[] #[],.func (.func 232) #[] #[]]
def x9:Array Value:=#[.int .u32 1518500249,.int .u32 1859775393,.int .u32 2400959708,.int .u32 3395469782]
theorem qy6 (w:World):Calls Tryz.prog 178 #[] w λe w'=>e = .returned (.tuple #[.agg fns,.agg x9])/\Fr [] w w':=by go_enter Tryz.func178,Tryz.ntmps178;go_wp2;refine bodyPost_ret (v:=.tuple #[.agg fns,.agg x9]) (by simp[results,Tryz.results178,go_sem,fns,x9]) rfl ?_;exact⟨rfl,((Fr.refl [] w).alloc _).alloc _⟩
open bm
variable {w wd wr:World} {h:H5} {B len t:Nat} {v:Value} {C:AV}
def sv (p:LB) (j:Nat):Int:=(sched p 80)[j]?.getD 0
theorem Hv (p:LB) (j t:Nat) (h:j<t) (ht:t<=80):(sched p t)[j]?.getD 0=sv p j:=by unfold sv;rw[Ty p j t h,Ty p j 80 (by omega)]
theorem zjk (p:LB) (j:Nat) (h:j<16):sv p j=word p (4*j):=by rw[<-Hv p j (j+1) (by omega) (by omega),sched,IU (by rw[IV];exact ax _),IV,Nat.sub_self];simp[h]
theorem zjl (p:LB) (j:Nat) (h:16<=j) (h2:j<80):sv p j=Hl (bits .xor .u32 (bits .xor .u32 (bits .xor .u32 (sv p (j-3)) (sv p (j-8))) (sv p (j-14))) (sv p (j-16))) 1:=by rw[<-Hv p j (j+1) (by omega) (by omega),sched,IU (by rw[IV];exact ax _),IV,Nat.sub_self];rw[Hv p (j-3) j (by omega) (by omega),Hv p (j-8) j (by omega) (by omega),Hv p (j-14) j (by omega) (by omega),Hv p (j-16) j (by omega) (by omega)];simp[show ¬j<16 from by omega]
structure Mx (w wr:World) (h:H5) (p:LB) (B t:Nat):Prop where
 fr:Fr [] w wr
 hb:wr.heap[B]?=some (.cells h.vals 203 (0,0))
 rb:wr.heap[B+1]?=some (.cells #[.int .u32 0,.int .u32 0,.int .u32 0,.int .u32 0,.int .u32 0] 203 (0,0))
 wb:∃A,wr.heap[B+2]?=some (.cells A 274 (0,0))/\A.size=80/\∀j,j<t->A[j]?=some (.int .u32 (sv p j))
 lo:w.heap.size=B
theorem Mx.store {p:LB} (m:Mx w wr h p B t) (f:Fr [] wr wd) (ht:t<80) (v:Int) (hv:v=sv p t):Mx w (wd.setCell ⟨B+2,t,none⟩ (.int .u32 v)) h p B (t+1):=by
 obtain⟨A,hA,gg,gF⟩:=m.wb;have f2:Fr [B+2] wd (wd.setCell ⟨B+2,t,none⟩ (.int .u32 v)):=(Fr.refl [B+2] wd).setCell (by simp) _;refine⟨(m.fr.trans f).step f2 λy hy=>.inr (by simp at hy;have:=m.lo;omega),f2.ag (f.ag m.hb (by simp)) (by simp),f2.ag (f.ag m.rb (by simp)) (by simp),⟨_,df (f.ag hA (by simp)) _,by simp[gg],λj hj=>?_⟩,m.lo⟩;by_cases e:j=t
 ·subst e;rw[oI (by omega),hv]
 ·rw[cV (by omega)];exact gF j (by omega)
theorem Mx.cG {p:LB} (m:Mx w wr h p B t) (f:Fr [] wr wd):Mx w wd h p B t:=by obtain⟨A,hA,gg,gF⟩:=m.wb;exact⟨m.fr.trans f,f.ag m.hb (by simp),f.ag m.rb (by simp),⟨A,f.ag hA (by simp),gg,gF⟩,m.lo⟩
theorem Le {wz:World} {R:Nat} {t:TypeId} {u0 u1 u2 u3 u4:Value} (hb:wz.heap[R]?=some (.cells #[u0,u1,u2,u3,u4] t (0,0))) (v0 v1 v2 v3 v4:Value) :
  (((((wz.setCell ⟨R,0,none⟩ v0).setCell ⟨R,1,none⟩ v1).setCell ⟨R,2,none⟩ v2).setCell ⟨R,3,none⟩ v3).setCell ⟨R,4,none⟩ v4).heap[R]?=some (.cells #[v0,v1,v2,v3,v4] t (0,0))/\
   Fr [R] wz (((((wz.setCell ⟨R,0,none⟩ v0).setCell ⟨R,1,none⟩ v1).setCell ⟨R,2,none⟩ v2).setCell ⟨R,3,none⟩ v3).setCell ⟨R,4,none⟩ v4):=
 ⟨(df (df (df (df (df hb _) _) _) _) _).trans rfl,(((((Fr.refl [R] wz).setCell (by simp) _).setCell (by simp) _).setCell (by simp) _).setCell (by simp) _).setCell (by simp) _⟩
theorem LA:(Tryz.prog.info? 203).map (·.size)=some 5:=by kernel_rfl
theorem Uq {fn:Func} {p:Tmp} (h:fn.results=#[.cell p 203]) (tmps:AV) (w:World) (g:Nat) (cs:AV) (fr:Nat×Nat)
  (hp:tmps.getD p undef = .pointer (some ⟨g,0,none⟩)) (hg:w.heap[g]?=some (.cells cs 203 fr)) (hs:cs.size=5):(results fn tmps).run Tryz.prog w = .ok (.agg cs) w:=
 results_cell_row h tmps w g 203 cs fr _ hp hg Tryz.underlying203 rfl (by rw[LA,hs])
theorem YC (h:H5) (a:OA) (len cap:Nat) (p:LB) (w:World) (hr:Rd w a cap p) (hlen:p.length=len) (rf:64<=len) :
  Calls Tryz.prog 114 #[.agg h.vals,.slice a len cap] w λe w'=>e = .returned (.agg (lq h p).vals)/\Fr [] w w':=by
 have hle:=hr.le;have dE:=hr.max;unfold maxLen at dE;rw[hlen]at hle;obtain⟨g,o,rfl⟩:∃g o,a=some ⟨g,o,none⟩:=by obtain⟨g,o,e,_⟩:=hr.at (i:=0) (by omega);exact⟨g,o,e⟩
 have H:=ai hr hlen;clear hr hlen;unfold H5.vals;go_enter Tryz.func114,Tryz.ntmps114;go_upto_block 0 with fail;obtain⟨B,w1,hB,aJ,hm⟩:∃B w1,B=w.heap.size/\w1=((w.alloc (.cells #[.int .u32 h.a,.int .u32 h.b,.int .u32 h.c,.int .u32 h.d,.int .u32 h.e] 203)).alloc (.cells #[.int .u32 0,.int .u32 0,.int .u32 0,.int .u32 0,.int .u32 0] 203)).alloc (.cells Tryz.zeroCells274 274)/\Mx w w1 h p B 0:=by refine⟨_,_,rfl,rfl,(((Fr.refl [] w).alloc _).alloc _).alloc _,alloc_old _ (alloc_old _ (aV w _)),alloc_old _ (by have:=aV (w.alloc (.cells #[.int .u32 h.a,.int .u32 h.b,.int .u32 h.c,.int .u32 h.d,.int .u32 h.e] 203)) (.cells #[.int .u32 0,.int .u32 0,.int .u32 0,.int .u32 0,.int .u32 0] 203);rw[ik]at this;exact this),⟨_,by have:=aV ((w.alloc (.cells #[.int .u32 h.a,.int .u32 h.b,.int .u32 h.c,.int .u32 h.d,.int .u32 h.e] 203)).alloc (.cells #[.int .u32 0,.int .u32 0,.int .u32 0,.int .u32 0,.int .u32 0] 203)) (.cells Tryz.zeroCells274 274);rw[ik,ik]at this;exact this,by kernel_rfl,λj hj=>by omega⟩,rfl⟩
 rw[<-aJ,show w.heap.size+1+1=B+2 from by omega,<-hB];have HM:=aq hm hB aJ;clear hm hB aJ;go_wp2;go_loopg [6,17] 16 (λk s6 s17 wr=>∃t:Nat,s17 = .int .i64 (t:Nat)/\t+k=16/\Mx w wr h p B t);case atStart=>exact⟨0,rfl,rfl,HM.o0⟩
 case round=>
  obtain⟨t,rfl,cI,hm⟩:=hrel;by_cases ht:t<16
  ·obtain⟨k,rfl⟩:∃k,gk=k+1:=⟨gk-1,by omega⟩;have JH:=af hm;clear hm;go_upto_region 5 with fail;have hm:=JH.out;obtain⟨A,hA,gg,gF⟩:=hm.wb;have zA:=aT hA t;obtain⟨x0,iz⟩:∃x,wr.cell? ⟨B+2,t,none⟩=some x:=⟨A[t]'(by omega),by rw[cell_of hA];exact Ku (by omega)⟩;obtain⟨m0,AU⟩:∃m,m=4*t:=⟨_,rfl⟩;obtain⟨m1,j7⟩:∃m,m=m0+1:=⟨_,rfl⟩;obtain⟨m2,jQ⟩:∃m,m=m0+2:=⟨_,rfl⟩;obtain⟨m3,hm3⟩:∃m,m=m0+3:=⟨_,rfl⟩;have e0:(4:Int)*(t:Int)=(m0:Int):=by omega
   have e1:(m0:Int)+1=(m1:Int):=by omega
   have e2:(m0:Int)+2=(m2:Int):=by omega
   have e3:(m0:Int)+3=(m3:Int):=by omega
   have w0:IntKind.i64.wrap ((4:Int)*(t:Int))=(m0:Int):=by rw[xe];omega
   have w1':IntKind.i64.wrap ((m0:Int)+1)=(m1:Int):=by rw[xe];omega
   have JN:IntKind.i64.wrap ((m0:Int)+2)=(m2:Int):=by rw[xe];omega
   have X8:IntKind.i64.wrap ((m0:Int)+3)=(m3:Int):=by rw[xe];omega
   have jq:=H.l1;have od:=H.o0.fr hm.fr;have b0:m0<p.length:=by omega
   have b1:m1<p.length:=by omega
   have b2:m2<p.length:=by omega
   have b3:m3<p.length:=by omega
   obtain⟨_,_,q0,X0⟩:=od.at b0;obtain⟨_,_,q1,X1⟩:=od.at b1;obtain⟨_,_,q2,X2⟩:=od.at b2;obtain⟨_,_,q3,X3⟩:=od.at b3;simp only[fI,rB,and_true]at q0 q1 q2 q3;obtain⟨rfl,rfl⟩:=q0;obtain⟨rfl,rfl⟩:=q1;obtain⟨rfl,rfl⟩:=q2;obtain⟨rfl,rfl⟩:=q3;have hw:word p m0=((p[m0].toNat*16777216+p[m1].toNat*65536+p[m2].toNat*256+p[m3].toNat:Nat):Int):=by unfold word;rw[<-j7,<-jQ,<-hm3,dm b0,dm b1,dm b2,dm b3];rfl
   have l0:=mW p[m0];have l1:=mW p[m1];have l2:=mW p[m2];have l3:=mW p[m3];generalize p[m0].toNat=y0 at *;generalize p[m1].toNat=y1 at *;generalize p[m2].toNat=y2 at *;generalize p[m3].toNat=y3 at *;obtain⟨z1,gS⟩:∃z,z=y0*16777216+y1*65536:=⟨_,rfl⟩;obtain⟨z2,lN⟩:∃z,z=z1+y2*256:=⟨_,rfl⟩;obtain⟨z3,yb⟩:∃z,z=z2+y3:=⟨_,rfl⟩;have r1:bits .or .u32 ((y0:Int)*16777216) ((y1:Int)*65536)=(z1:Int):=by have:=sums.Aj (y0*16777216) (y1*65536) 24 (by omega) (by decide) (by omega) (by omega);rw[<-gS]at this;simpa using this
   have r2:bits .or .u32 (z1:Int) ((y2:Int)*256)=(z2:Int):=by have:=sums.Aj z1 (y2*256) 16 (by omega) (by decide) (by omega) (by omega);rw[<-lN]at this;simpa using this
   have r3:bits .or .u32 (z2:Int) (y3:Int)=(z3:Int):=by have:=sums.Aj z2 y3 8 (by omega) (by decide) (by omega) (by omega);rw[<-yb]at this;exact this
   have HV:Hid ((z3:Int)=sv p t):=af (by rw[zjk p t ht,<-AU,hw];congr 1;omega);have i0:(m0:Int)<(len:Int):=by omega
   have i1:(m1:Int)<(len:Int):=by omega
   have i2:(m2:Int)<(len:Int):=by omega
   have i3:(m3:Int)<(len:Int):=by omega
   clear hm hA gg gF od jq hw gS lN yb AU j7 jQ hm3 b0 b1 b2 b3;refine xY 35 (by kernel_rfl) (by kernel_rfl) ?_;simp only[lh,sW,nY,nE];repeat (go_big_quiet_step (fail))
   refine wpQuiet_nil ?_;clear X0 X1 X2 X3 w0 w1' JN X8 r1 r2 r3 e0 e1 e2 e3;go_wp2;go_roundg k;case measure=>omega
   case rel=>exact⟨t+1,by go_num,by omega,JH.out.store (Fr.aB [] wr) (by omega) _ HV.out⟩
  ·obtain rfl:t=16:=by omega
   obtain rfl:gk=0:=by omega
   have HM1:=af hm;clear hm;obtain⟨w2,rfl⟩:∃w2:World,w2=wr:=⟨_,rfl⟩;go_upto_block 2 with fail;go_wp2;go_loopg [7] 64 (λk s7 wr=>∃t:Nat,s7 = .int .i64 (t:Nat)/\t+k=80/\16<=t/\Mx w wr h p B t);case atStart=>exact⟨16,rfl,rfl,by omega,HM1.out⟩
   case round=>
    obtain⟨t,rfl,cI,UT,hm⟩:=hrel;have JH:=af hm;clear hm;by_cases ht:t<80
    ·obtain⟨k,rfl⟩:∃k,gk=k+1:=⟨gk-1,by omega⟩;go_upto_region 10 with fail;have hm:=JH.out;obtain⟨A,hA,gg,gF⟩:=hm.wb;have zA:=aT hA t;obtain⟨x0,iz⟩:∃x,wr.cell? ⟨B+2,t,none⟩=some x:=⟨A[t]'(by omega),by rw[cell_of hA];exact Ku (by omega)⟩;obtain⟨n3,xt⟩:∃m,m=t-3:=⟨_,rfl⟩;obtain⟨n8,kM⟩:∃m,m=t-8:=⟨_,rfl⟩;obtain⟨Lo,Mz⟩:∃m,m=t-14:=⟨_,rfl⟩;obtain⟨Lm,My⟩:∃m,m=t-16:=⟨_,rfl⟩;have e3:(t:Int)-3=(n3:Int):=by omega
     have e8:(t:Int)-8=(n8:Int):=by omega
     have e14:(t:Int)-14=(Lo:Int):=by omega
     have e16:(t:Int)-16=(Lm:Int):=by omega
     have w3:IntKind.i64.wrap ((t:Int)-3)=(n3:Int):=by rw[xe];omega
     have w8:IntKind.i64.wrap ((t:Int)-8)=(n8:Int):=by rw[xe];omega
     have Ez:IntKind.i64.wrap ((t:Int)-14)=(Lo:Int):=by rw[xe];omega
     have wU:IntKind.i64.wrap ((t:Int)-16)=(Lm:Int):=by rw[xe];omega
     have x3:=(cell_of hA n3).trans (gF n3 (by omega));have x8:=(cell_of hA n8).trans (gF n8 (by omega));have x14:=(cell_of hA Lo).trans (gF Lo (by omega));have x16:=(cell_of hA Lm).trans (gF Lm (by omega));have i3:(n3:Int)<80:=by omega
     have i8:(n8:Int)<80:=by omega
     have i14:(Lo:Int)<80:=by omega
     have i16:(Lm:Int)<80:=by omega
     have it:(t:Int)<80:=by omega
     have hv:=zjl p t UT ht;rw[<-xt,<-kM,<-Mz,<-My]at hv;have HV:=af hv;clear hm hA gg gF xt kM Mz My hv;refine xY 22 (by kernel_rfl) (by kernel_rfl) ?_;simp only[lh,sW,nY,nE];repeat (go_big_quiet_step (exact yL _ 1 _ (.inl rfl) _))
     refine wpQuiet_nil ?_;clear x3 x8 x14 x16 w3 w8 Ez wU e3 e8 e14 e16;go_wp2;go_roundg k;case measure=>omega
     case rel=>exact⟨t+1,by go_num,by omega,by omega,JH.out.store (Fr.aB [] wr) ht _ HV.out.symm⟩
    ·obtain rfl:t=80:=by omega
     obtain rfl:gk=0:=by omega
     obtain⟨w3,rfl⟩:∃w3:World,w3=wr:=⟨_,rfl⟩;go_upto_region 12 with (go_at_call 178;refine (qy6 _).mono ?_;unfold fns x9;rintro e w4 ⟨rfl,f4⟩;have H4:=af f4;clear f4);obtain⟨Q,w5,hQ,yX,f5,qf,qk⟩:∃Q w5,Q=w4.heap.size/\w5=(w4.alloc (.cells fns 278)).alloc (.cells x9 279)/\Fr [] w4 w5/\w5.heap[Q]?=some (.cells fns 278 (0,0))/\w5.heap[Q+1]?=some (.cells x9 279 (0,0)):=
      ⟨_,_,rfl,rfl,((Fr.refl [] w4).alloc _).alloc _,alloc_old _ (aV w4 _),by have:=aV (w4.alloc (.cells fns 278)) (.cells x9 279);rw[ik]at this;exact this⟩
     unfold fns x9 at yX;rw[<-yX,<-hQ];have FW:=JH.out.cG (H4.out.trans f5);have k0:=cell_of FW.hb 0;have k1:=cell_of FW.hb 1;have k2:=cell_of FW.hb 2;have k3:=cell_of FW.hb 3;have k4:=cell_of FW.hb 4;unfold H5.vals at k0 k1 k2 k3 k4;simp only[dJ,dk,dU]at k0 k1 k2 k3 k4;have Bq:=aq FW qf qk;clear FW qf qk yX hQ f5;go_quiet (fail);clear k0 k1 k2 k3 k4;go_upto_block 4 with fail;go_wp2;go_loopg [10,11,12,13,14,15,16,96] 80 (λk s10 s11 s12 s13 s14 s15 s16 s96 wr=>∃t:Nat,s96 = .int .i64 (t:Nat)/\t+k=80/\s10 = .int .u32 (rounds p t h).a/\s11 = .int .u32 (rounds p t h).b/\s12 = .int .u32 (rounds p t h).c/\s13 = .int .u32 (rounds p t h).d/\s14 = .int .u32 (rounds p t h).e/\Fr [] w5 wr);case atStart=>exact⟨0,rfl,rfl,rfl,rfl,rfl,rfl,rfl,Fr.drewN [] w5 _⟩
     case round=>
      obtain⟨t,rfl,cI,rfl,rfl,rfl,rfl,rfl,hf⟩:=hrel;have HF:=af hf;clear hf;by_cases ht:t<80
      ·obtain⟨k,rfl⟩:∃k,gk=k+1:=⟨gk-1,by omega⟩;have fV:rounds p (t+1) h=round p t (rounds p t h):=rfl;unfold round at fV;have vY:(sched p 80)[t]?.getD 0=sv p t:=rfl;rw[vY]at fV;generalize rounds p t h=s at *;obtain⟨sa,sb,sc,sd,se⟩:=s;simp only at fV;have HR:=af fV;clear fV vY;go_upto_region 16 with fail;have qP:=Bq.o0.cG HF.out;obtain⟨A,hA,gg,gF⟩:=qP.wb;have xw:=(cell_of hA t).trans (gF t ht);have bf:=HF.out.ag Bq.o1 (by simp);have bk:=HF.out.ag Bq.l2 (by simp);have it:(t:Int)<80:=by omega
       clear qP hA gg gF;obtain⟨q,hq⟩:=ah (t/20);have U6:q<4:=by omega
       have AL:(t:Int)/20=(q:Int):=by omega
       rw[<-hq]at HR;rcases (show q=0\/q=1\/q=2\/q=3 by omega) with rfl|rfl|rfl|rfl
       ·have xf:=cell_of bf 0;have xk:=cell_of bk 0;unfold fns at xf;unfold x9 at xk;simp only[dJ,dk,dU]at xf xk;clear bf bk hq;go_quiet ((first|(go_at_call 177;exact sU (yL _ 5 _ (.inr (.inl rfl))))|(go_at_call 233;exact sU (OI _ _ _ _))|(go_at_call 232;exact sU (O1 _ _ _ _))|(go_at_call 234;exact sU (OZ _ _ _ _))));clear xf xk xw AL;go_wp2_with (go_at_call 177;refine (yL _ 30 _ (.inr (.inr rfl))).mono ?_;rintro e w7 ⟨rfl,rfl⟩);go_roundg k;case measure=>omega
        case rel=>
         refine⟨t+1,by go_num,by omega,?_,?_,?_,?_,?_,HF.out.trans (Fr.drewN _ _ _)⟩;all_goals rw[HR.out]
         all_goals (first|rfl|(simp only[dY,Int.emod_add_emod,Int.add_emod_emod,zM,yT]))
       ·have xf:=cell_of bf 1;have xk:=cell_of bk 1;unfold fns at xf;unfold x9 at xk;simp only[dJ,dk,dU]at xf xk;clear bf bk hq;go_quiet ((first|(go_at_call 177;exact sU (yL _ 5 _ (.inr (.inl rfl))))|(go_at_call 233;exact sU (OI _ _ _ _))|(go_at_call 232;exact sU (O1 _ _ _ _))|(go_at_call 234;exact sU (OZ _ _ _ _))));clear xf xk xw AL;go_wp2_with (go_at_call 177;refine (yL _ 30 _ (.inr (.inr rfl))).mono ?_;rintro e w7 ⟨rfl,rfl⟩);go_roundg k;case measure=>omega
        case rel=>
         refine⟨t+1,by go_num,by omega,?_,?_,?_,?_,?_,HF.out.trans (Fr.drewN _ _ _)⟩;all_goals rw[HR.out]
         all_goals (first|rfl|(simp only[dY,Int.emod_add_emod,Int.add_emod_emod,zM,yT]))
       ·have xf:=cell_of bf 2;have xk:=cell_of bk 2;unfold fns at xf;unfold x9 at xk;simp only[dJ,dk,dU]at xf xk;clear bf bk hq;go_quiet ((first|(go_at_call 177;exact sU (yL _ 5 _ (.inr (.inl rfl))))|(go_at_call 233;exact sU (OI _ _ _ _))|(go_at_call 232;exact sU (O1 _ _ _ _))|(go_at_call 234;exact sU (OZ _ _ _ _))));clear xf xk xw AL;go_wp2_with (go_at_call 177;refine (yL _ 30 _ (.inr (.inr rfl))).mono ?_;rintro e w7 ⟨rfl,rfl⟩);go_roundg k;case measure=>omega
        case rel=>
         refine⟨t+1,by go_num,by omega,?_,?_,?_,?_,?_,HF.out.trans (Fr.drewN _ _ _)⟩;all_goals rw[HR.out]
         all_goals (first|rfl|(simp only[dY,Int.emod_add_emod,Int.add_emod_emod,zM,yT]))
       ·have xf:=cell_of bf 3;have xk:=cell_of bk 3;unfold fns at xf;unfold x9 at xk;simp only[dJ,dk,dU]at xf xk;clear bf bk hq;go_quiet ((first|(go_at_call 177;exact sU (yL _ 5 _ (.inr (.inl rfl))))|(go_at_call 233;exact sU (OI _ _ _ _))|(go_at_call 232;exact sU (O1 _ _ _ _))|(go_at_call 234;exact sU (OZ _ _ _ _))));clear xf xk xw AL;go_wp2_with (go_at_call 177;refine (yL _ 30 _ (.inr (.inr rfl))).mono ?_;rintro e w7 ⟨rfl,rfl⟩);go_roundg k;case measure=>omega
        case rel=>
         refine⟨t+1,by go_num,by omega,?_,?_,?_,?_,?_,HF.out.trans (Fr.drewN _ _ _)⟩;all_goals rw[HR.out]
         all_goals (first|rfl|(simp only[dY,Int.emod_add_emod,Int.add_emod_emod,zM,yT]))
      ·obtain rfl:t=80:=by omega
       obtain rfl:gk=0:=by omega
       have qP:=Bq.o0.cG HF.out;have k0:=cell_of qP.hb 0;have k1:=cell_of qP.hb 1;have k2:=cell_of qP.hb 2;have k3:=cell_of qP.hb 3;have k4:=cell_of qP.hb 4;unfold H5.vals at k0 k1 k2 k3 k4;simp only[dJ,dk,dU]at k0 k1 k2 k3 k4;have c0:=cell_of qP.rb 0;have c1:=cell_of qP.rb 1;have c2:=cell_of qP.rb 2;have c3:=cell_of qP.rb 3;have c4:=cell_of qP.rb 4;have z0:=aT qP.rb 0;have z1:=aT qP.rb 1;have z2:=aT qP.rb 2;have z3:=aT qP.rb 3;have z4:=aT qP.rb 4;simp only[dJ,dk,dU]at c0 c1 c2 c3 c4;have hmx:lq h p=⟨dY h.a (rounds p 80 h).a,dY h.b (rounds p 80 h).b,dY h.c (rounds p 80 h).c,dY h.d (rounds p 80 h).d,dY h.e (rounds p 80 h).e⟩:=rfl;generalize rounds p 80 h=s at *;unfold dY at hmx;have HX:=ai hmx qP;clear hmx qP;go_wp2;obtain⟨p1,p2⟩:=Le HX.out.2.rb (.int .u32 ((h.a+s.a)%4294967296)) (.int .u32 ((h.b+s.b)%4294967296)) (.int .u32 ((h.c+s.c)%4294967296)) (.int .u32 ((h.d+s.d)%4294967296)) (.int .u32 ((h.e+s.e)%4294967296));refine bodyPost_ret (Uq rfl _ _ (B+1) _ (0,0) rfl p1 rfl) rfl ?_;refine⟨by rw[HX.out.1],HX.out.2.fr.step p2 λy hy=>.inr (by simp at hy;have:=HX.out.2.lo;omega)⟩
structure Bk (C:AV) (h:H5) (v:Value) (len:Nat):Prop where
 size:C.size=267
 k:C[0]?=some (.int .i64 1)
 a:C[1]?=some (.int .u32 h.a)
 b:C[2]?=some (.int .u32 h.b)
 c:C[3]?=some (.int .u32 h.c)
 d:C[4]?=some (.int .u32 h.d)
 e:C[5]?=some (.int .u32 h.e)
 r:C[6]?=some v
 n:C[7]?=some (.int .u64 len)
theorem Bk.JR (s:Bk C h v len) (u:Value):Bk (C.setIfInBounds 6 u) h u len:=by obtain⟨h1,h2,h3,h4,h5,h6,h7,h8,h9⟩:=s;exact⟨by simp[h1],by rw[cV (by decide),h2],by rw[cV (by decide),h3],by rw[cV (by decide),h4],by rw[cV (by decide),h5],by rw[cV (by decide),h6],by rw[cV (by decide),h7],oI (by omega),by rw[cV (by decide),h9]⟩
theorem Bk.RX (s:Bk C h v len) (l:Nat):Bk (C.setIfInBounds 7 (.int .u64 l)) h v l:=by obtain⟨h1,h2,h3,h4,h5,h6,h7,h8,h9⟩:=s;exact⟨by simp[h1],by rw[cV (by decide),h2],by rw[cV (by decide),h3],by rw[cV (by decide),h4],by rw[cV (by decide),h5],by rw[cV (by decide),h6],by rw[cV (by decide),h7],by rw[cV (by decide),h8],oI (by omega)⟩
theorem Bk.RW (s:Bk C h v len) (a b c d e:Int) :
  Bk (((((C.setIfInBounds 1 (.int .u32 a)).setIfInBounds 2 (.int .u32 b)).setIfInBounds 3 (.int .u32 c)).setIfInBounds 4 (.int .u32 d)).setIfInBounds 5 (.int .u32 e)) ⟨a,b,c,d,e⟩ v len:=by
 obtain⟨h1,h2,h3,h4,h5,h6,h7,h8,h9⟩:=s;exact⟨by simp[h1],by rw[cV (by decide),cV (by decide),cV (by decide),cV (by decide),cV (by decide),h2],by rw[cV (by decide),cV (by decide),cV (by decide),cV (by decide)];exact oI (by simp[h1]),by rw[cV (by decide),cV (by decide),cV (by decide)];exact oI (by simp[h1]),by rw[cV (by decide),cV (by decide)];exact oI (by simp[h1]),by rw[cV (by decide)];exact oI (by simp[h1]),oI (by simp[h1]),by rw[cV (by decide),cV (by decide),cV (by decide),cV (by decide),cV (by decide),h8],by rw[cV (by decide),cV (by decide),cV (by decide),cV (by decide),cV (by decide),h9]⟩
structure Sh (w:World) (g:Nat) (h:H5) (ra:OA) (rc:Nat) (rs:LB) (len:Nat):Prop where
 ag:∃C,w.heap[g]?=some (.cells C 207 (0,0))/\Bk C h (.slice ra rs.length rc) len
 own:ek w 5 ra rc (rs.map bv)
 ne:g∉lib.ag ra
def leftOf:Nat->List UInt8->List UInt8
 | 0,p=>p
 | f+1,p=>if 64<=p.length then leftOf f (p.drop 64) else p
theorem zca (w:World):Calls Tryz.prog 113 #[.int .i64 1] w λe w'=>e = .returned (.pointer (some ⟨w.heap.size,0,none⟩))/\Sh w' w.heap.size h0 none 0 [] 0/\Fr [] w w':=by go_enter Tryz.func113,Tryz.ntmps113;go_wp2;go_ret;exact⟨rfl,⟨⟨_,aV w _,⟨rfl,rfl,rfl,rfl,rfl,rfl,rfl,rfl,rfl⟩⟩,ek.nil _ _,by simp[lib.ag]⟩,(Fr.refl [] w).alloc _⟩
theorem qqd (g:Nat) (h:H5) (ra:OA) (rc:Nat) (rs:LB) (len cap:Nat) (ao:OA) (bs:LB) (w:World) (hs:Sh w g h ra rc rs len) (hr:Rd w ao cap bs) (DU:bs≠[]->∀x∈lib.ag ao,x≠g)
  (hl:len+bs.length<=140737488355328) (kB:rs.length+bs.length<=140737488355328) :
  Calls Tryz.prog 60 #[.pointer (some ⟨g,0,none⟩),.slice ao bs.length cap] w λe w'=>e = .returned (.tuple #[])/\Fr (g::lib.ag ra) w w'/\
   ∃qH qG,Sh w' g (blocks (rs++bs).length h (rs++bs)) qH qG (leftOf (rs++bs).length (rs++bs)) (len+bs.length)/\∀x∈lib.ag qH,x∈lib.ag ra\/w.heap.size<=x:=by
 obtain⟨L,hL⟩:=ah bs.length;obtain⟨R,hR⟩:=ah rs.length;have hle:=hr.le;have dE:=hr.max;unfold maxLen at dE;obtain⟨C,hC,hc⟩:=hs.ag;obtain⟨o1,o2,o3⟩:=hs.own.shape;rw[gx]at o1;rw[<-hR]at o1 hc kB;rw[<-hL]at hle hl kB ⊢;have c0:=(cell_of hC 0).trans hc.k;have c6:=(cell_of hC 6).trans hc.r;have c7:=(cell_of hC 7).trans hc.n;have z7:=aT hC 7;have H:=eW hC hc hs hr DU hL hR;clear hC hc hs hr DU hL hR;go_enter Tryz.func60,Tryz.ntmps60;go_upto_region 3 with fail;have f1:Fr [g] w (w.setCell ⟨g,7,none⟩ (.int .u64 ((len+L:Nat):Int))):=(Fr.refl [g] w).setCell (by simp) _;have GC:=df (o:=7) H.o0 (.int .u64 ((len+L:Nat):Int));have bR:=H.o1.RX (len+L);have zP:((len+L:Nat):Int)=(len:Int)+(L:Int):=by omega
 rw[zP]at f1 GC;generalize w.setCell ⟨g,7,none⟩ (.int .u64 ((len:Int)+(L:Int)))=w1 at *;rw[<-zP]at GC;obtain⟨C1,hCC⟩:∃C1,C1=C.setIfInBounds 7 (.int .u64 ((len+L:Nat):Int)):=⟨_,rfl⟩;rw[<-hCC]at GC bR;have c6':=(cell_of GC 6).trans bR.r;have z6:=aT GC 6;have ho1:ek w1 5 ra rc (rs.map bv):=H.o2.own.fr f1 (λx hx hm=>by simp at hm;rw[hm]at hx;exact H.o2.ne hx);have AK:Rd w1 ao cap bs:=C4 H.o3 f1 (λhb x hx hm=>by simp at hm;exact H.o4 hb x hx hm);have H1:=aQ GC bR f1 ho1 AK;clear GC bR f1 ho1 AK hCC c0 c6 c7 z7 zP;go_upto_block 1 with (refine E8 sums.aE rfl _ _ rfl ra R rc (rs.map bv) rfl H1.o3 (by rw[gx];exact H.l6.symm) ao L cap (bs.map bv) rfl hle H1.l4.nil H1.l4.cs (by rw[gx];exact H.o5.symm) (sums.qI _) (by omega) (by unfold maxLen;omega) ?_;intro a2 q2 w2 A2;have c62:=A2.fr.cell c6' H.o2.ne;have z62:w2.frozen? ⟨g,6,none⟩=false:=aT (A2.fr.ag H1.o0 H.o2.ne) 6;have H2:=af A2;clear A2);have jl:(rs++bs).length=R+L:=by rw[aG,<-H.l6,<-H.o5]
 have uQ:Sh (w2.setCell ⟨g,6,none⟩ (.slice a2 (R+L) q2)) g h a2 q2 (rs++bs) (len+L)/\Fr (g::lib.ag ra) w (w2.setCell ⟨g,6,none⟩ (.slice a2 (R+L) q2))/\∀x∈lib.ag a2,x∈lib.ag ra\/w.heap.size<=x:=by
  have tQ:g∉lib.ag a2:=λhm=>by
   rcases H2.out.at_ g hm with k|k
   ·exact H.o2.ne k
   ·have:=lt_of_block H1.o0;omega
  have f6:Fr [g] w2 (w2.setCell ⟨g,6,none⟩ (.slice a2 (R+L) q2)):=(Fr.refl [g] w2).setCell (by simp) _;have mF:=H2.out.fr.ag H1.o0 H.o2.ne;refine⟨⟨⟨_,df mF _,by rw[jl];exact H1.o1.JR _⟩,by rw[jd];exact H2.out.own.fr f6 (λx hx hm=>by simp at hm;rw[hm]at hx;exact tQ hx),tQ⟩,((H1.o2.mono (by simp)).step H2.out.fr (λy hy=>.inl (by simp[hy]))).step f6 (λy hy=>.inl (by simp at hy;simp[hy])),λx hx=>?_⟩;rcases H2.out.at_ x hx with k|k
  ·exact .inl k
  ·exact .inr (bP H1.o2.size k)
 generalize w2.setCell ⟨g,6,none⟩ (.slice a2 (R+L) q2)=w3 at *;have HS:=ai uQ jl;clear uQ jl c62 z62 c6' z6;go_wp2;go_loopg [] (R+L) (λk wr=>∃(h':H5) (qH:OA) (qG:Nat) (ps:LB),Sh wr g h' qH qG ps (len+L)/\Fr (g::lib.ag ra) w wr/\(∀x∈lib.ag qH,x∈lib.ag ra\/w.heap.size<=x)/\ps.length<=k/\blocks k h' ps=blocks (rs++bs).length h (rs++bs)/\leftOf k ps=leftOf (rs++bs).length (rs++bs));case atStart=>exact⟨h,a2,q2,rs++bs,HS.o0.1,HS.o0.2.1,HS.o0.2.2,by rw[HS.l1];exact ax _,by rw[HS.l1],by rw[HS.l1]⟩
 case round=>
  obtain⟨h',qH,qG,ps,hs,hf,hn,hk,dW,hdo⟩:=hrel;obtain⟨P,hP⟩:=ah ps.length;obtain⟨C',hC,hc⟩:=hs.ag;obtain⟨Uz,o2',o3'⟩:=hs.own.shape;rw[gx]at Uz;rw[<-hP]at hc hk Uz;have c6:=(cell_of hC 6).trans hc.r;have HR:=lf hs hf hn dW hdo hP hC hc;clear hs hf hn dW hdo hP;by_cases rf:64<=P
  ·obtain⟨k,rfl⟩:∃k,gk=k+1:=⟨gk-1,by omega⟩;have d1:decide ((64:Int)<=P)=true:=by simp;omega
   go_upto_region 5 with fail;have c1:=(cell_of hC 1).trans hc.a;have c2:=(cell_of hC 2).trans hc.b;have c3:=(cell_of hC 3).trans hc.c;have c4:=(cell_of hC 4).trans hc.d;have c5:=(cell_of hC 5).trans hc.e;have hmx:=λw' (f:Fr [] wr w')=>YC h' qH P qG ps w' (HR.o0.own.rd.fr f) HR.o5.symm rf
   unfold H5.vals at hmx;have HM:=af hmx;clear hmx hC hc;refine lK 12 [(false,0),(false,1),(false,2),(false,3),(false,4),(false,5),(false,6),(false,7),(false,8),(true,9),(false,10),(false,11)] [] (by kernel_rfl) (by kernel_rfl) (λ_ _ d _ _ h=>by cases d<;>exact h) ?_;simp only[kQ];refine eD 9 rfl ?_;simp only[cT];repeat (go_big_quiet_step (fail))
   refine wpQuiet_nil ?_;refine jb rfl ?_;intro X hX;go_wp2_with (go_at_call 114;refine (HM.out _ (Fr.aB [] wr)).mono ?_;rintro e w5 ⟨rfl,f5⟩);refine hX.out _ _ f5 ?_;clear hX X c1 c2 c3 c4 c5 c6;refine eD 2 rfl ?_;simp only[cT];repeat (go_big_quiet_step (fail))
   refine wpQuiet_nil ?_;refine j4 ?_;have vo:=f5.ag (show wr.drew.heap[g]?=_ from HR.o6) (by simp);have pU:=HR.l7;have c1:=(cell_of vo 1).trans pU.a;have c2:=(cell_of vo 2).trans pU.b;have c3:=(cell_of vo 3).trans pU.c;have c4:=(cell_of vo 4).trans pU.d;have c5:=(cell_of vo 5).trans pU.e;have z1:=aT vo 1;have z2:=aT vo 2;have z3:=aT vo 3;have z4:=aT vo 4;have z5:=aT vo 5;obtain⟨mh,Vj⟩:=ah (lq h' ps);rw[<-Vj];obtain⟨ma,mb,mc,md,me⟩:=mh;simp only;have Bq:=aA vo pU f5 Vj;clear vo pU f5 Vj;go_upto_region 6 with fail;have f6:Fr [g] w5 (((((w5.setCell ⟨g,1,none⟩ (.int .u32 ma)).setCell ⟨g,2,none⟩ (.int .u32 mb)).setCell ⟨g,3,none⟩ (.int .u32 mc)).setCell ⟨g,4,none⟩ (.int .u32 md)).setCell ⟨g,5,none⟩ (.int .u32 me)):=(((((Fr.refl [g] w5).setCell (by simp) _).setCell (by simp) _).setCell (by simp) _).setCell (by simp) _).setCell (by simp) _;have Gu:=df (o:=5) (df (o:=4) (df (o:=3) (df (o:=2) (df (o:=1) Bq.o0 (.int .u32 ma)) (.int .u32 mb)) (.int .u32 mc)) (.int .u32 md)) (.int .u32 me);have Nk:=Bq.o1.RW ma mb mc md me;clear c1 c2 c3 c4 c5 z1 z2 z3 z4 z5;generalize ((((w5.setCell ⟨g,1,none⟩ (.int .u32 ma)).setCell ⟨g,2,none⟩ (.int .u32 mb)).setCell ⟨g,3,none⟩ (.int .u32 mc)).setCell ⟨g,4,none⟩ (.int .u32 md)).setCell ⟨g,5,none⟩ (.int .u32 me)=w6 at *;have c6:=(cell_of Gu 6).trans Nk.r;have z6:=aT Gu 6;have H6:=aq Gu Nk f6;clear Gu Nk f6;have CD:bh qH qG 64 1=if qG=64 then qH else Option.map (λx=>x.add (64*1)) qH:=rfl
   have HCA:=af CD;clear CD;go_wp2_with (refine Uv sums.aE 64 rfl _ _ rfl qH P qG _ rfl rfl rfl rf Uz ?_);go_roundg k;case measure=>omega
   case rel=>
    have f7:Fr [g] w6 (w6.setCell ⟨g,6,none⟩ (.slice (bh qH qG 64 1) (P-64) (qG-64))):=(Fr.refl [g] w6).setCell (by simp) _;have og:(ps.drop 64).length=P-64:=by rw[gN,<-HR.o5]
    have zN:Fr (g::lib.ag ra) w (w6.setCell ⟨g,6,none⟩ (.slice (bh qH qG 64 1) (P-64) (qG-64))):=(((HR.o1.trans ((Fr.aB [] wr).mono (by simp))).trans (Bq.o2.mono (by simp))).step H6.l2 (λy hy=>.inl (by simp at hy;simp[hy]))).step f7 (λy hy=>.inl (by simp at hy;simp[hy]));have bg:g∉lib.ag (bh qH qG 64 1):=by rw[TW];exact HR.o0.ne
    have how:ek (w6.setCell ⟨g,6,none⟩ (.slice (bh qH qG 64 1) (P-64) (qG-64))) 5 (bh qH qG 64 1) (qG-64) ((ps.drop 64).map bv):=by have h1:=((HR.o0.own.fr (Fr.aB [] wr) (by simp)).fr Bq.o2 (by simp)).drop 64 (by rw[gx,<-HR.o5];exact rf);rw[<-CZ]at h1;exact (h1.fr H6.l2 (λx hx hm=>by simp at hm;rw[hm]at hx;exact bg hx)).fr f7 (λx hx hm=>by simp at hm;rw[hm]at hx;exact bg hx)
    refine⟨⟨ma,mb,mc,md,me⟩,_,_,ps.drop 64,⟨⟨_,df H6.o0 _,by rw[og];exact H6.o1.JR _⟩,how,bg⟩,zN,λx hx=>HR.o2 x (by rw[TW]at hx;exact hx),by rw[og];omega,?_,?_⟩
    ·have:=HR.o3;rw[blocks,if_pos (by rw[<-HR.o5];exact rf),<-Bq.l3]at this;exact this
    ·have:=HR.o4;rw[leftOf,if_pos (by rw[<-HR.o5];exact rf)]at this;exact this
  ·have d1:decide ((64:Int)<=P)=false:=by simp;omega
   have vq:blocks gk h' ps=h':=by
    cases gk with
    | zero=>rfl
    | succ k=>rw[blocks,if_neg (by rw[<-HR.o5];exact rf)]
   have Gk:leftOf gk ps=ps:=by
    cases gk with
    | zero=>rfl
    | succ k=>rw[leftOf,if_neg (by rw[<-HR.o5];exact rf)]
   have HZ:=ai vq Gk;clear vq Gk hC hc;go_wp2;go_end0;refine⟨rfl,HR.o1,qH,qG,?_,HR.o2⟩;rw[<-HR.o3,<-HR.o4,HZ.o0,HZ.l1];exact HR.o0
def vG (n:Nat):Nat:=(56+64-n%64)%64
def oJ (rs:LB):List UInt8:=rs++[128]++List.replicate (vG (rs.length+1)) 0
def dH (rs:LB) (len:Nat):List UInt8:=oJ rs++sums.iI (len/536870912)++sums.iI (len*8%4294967296)
theorem qq5 (rs:LB):(oJ rs).length%64=56:=by unfold oJ vG;simp only[aG,BO,yP];omega
theorem qpj (rs:LB) (len:Nat):(dH rs len).length%64=0:=by have:=qq5 rs;unfold dH;rw[aG,aG,sums.yJ,sums.yJ];omega
def GX (h:H5):Prop:=(0<=h.a/\h.a<4294967296)/\(0<=h.b/\h.b<4294967296)/\(0<=h.c/\h.c<4294967296)/\(0<=h.d/\h.d<4294967296)/\(0<=h.e/\h.e<4294967296)
theorem KD (a b:Int):0<=dY a b/\dY a b<4294967296:=by unfold dY;omega
theorem Zc (h:H5) (p:LB):GX (lq h p):=⟨KD _ _,KD _ _,KD _ _,KD _ _,KD _ _⟩
theorem zi3:GX h0:=by unfold GX h0;decide
theorem TC:∀(f:Nat) (h:H5) (p:LB),GX h->GX (blocks f h p)
 | 0,_,_,h=>h
 | f+1,h,p,hr=>by
  rw[blocks];split
  ·exact TC f _ _ (Zc h p)
  ·exact hr
def xI (h:H5):List UInt8:=sums.iI h.a.toNat++sums.iI h.b.toNat++sums.iI h.c.toNat++sums.iI h.d.toNat++sums.iI h.e.toNat
theorem zgy (g:Nat) (h:H5) (ra:OA) (rc:Nat) (rs:LB) (len:Nat) (w:World) (hs:Sh w g h ra rc rs len) (kB:rs.length<64) (U4:GX h) (hlen:len<=140737488355328) :
  Calls Tryz.prog 63 #[.pointer (some ⟨g,0,none⟩)] w λe w'=>(∃ao c,e = .returned (.slice ao 20 c)/\Rd w' ao c (xI (blocks (dH rs len).length h (dH rs len))))/\Fr [] w w':=by
 obtain⟨R,hR⟩:=ah rs.length;obtain⟨C,hC,hc⟩:=hs.ag;obtain⟨o1,o2,o3⟩:=hs.own.shape;rw[gx,<-hR]at o1;rw[<-hR]at hc kB;have c0:=(cell_of hC 0).trans hc.k;have c6:=(cell_of hC 6).trans hc.r;have eY:=hs.own.rd;have H:=aQ hC hc hs hR eY;clear hC hc hs hR eY;go_enter Tryz.func63,Tryz.ntmps63;have JO:True:=trivial;go_upto_block 1 with (first|(have _t:=JO;refine E8 sums.aE rfl _ _ rfl none 0 0 [] rfl (ek.nil _ _) rfl ra R rc (rs.map bv) rfl o1 o3 H.l4.cs (by rw[gx];exact H.o3.symm) (sums.qI _) (by omega) (by unfold maxLen;omega) ?_;intro a1 q1 w1 A1;rw[sS]at A1;have H1:=af A1;clear A1;clear JO _t)|(refine E8 sums.aE rfl _ _ rfl a1 R q1 (rs.map bv) rfl (H1.out.own.fr ((Fr.refl [] w1).alloc (.cells #[.int .u8 128] 5)) (by simp)) (by rw[gx];exact H.o3.symm) (some ⟨w1.heap.size,0,none⟩) 1 1 [.int .u8 128] rfl (by omega) (by simp) (oC w1 _ _ _) rfl (by simp[Value.oneCell']) (by omega) (by unfold maxLen;omega) ?_;intro a2 q2 w2 A2;have H2:=af A2;clear A2));have NQ:Fr [] w w2:=((H1.out.fr.mono (T:=[]) (by simp[lib.ag])).trans ((Fr.refl [] w1).alloc (.cells #[.int .u8 128] 5))).step H2.out.fr (λy hy=>by
  rcases H1.out.at_ y hy with k|k
  ·simp[lib.ag]at k
  ·exact .inr k)
 have DV:∀x∈lib.ag a2,w.heap.size<=x:=λx hx=>by
  have h1:=H1.out.fr.size;rcases H2.out.at_ x hx with k|k
  ·rcases H1.out.at_ x k with k2|k2
   ·simp[lib.ag]at k2
   ·exact k2
  ·rw[ik]at k;omega
 have DR:ek w2 5 a2 q2 ((rs++[128]).map bv):=by rw[jd];exact H2.out.own
 obtain⟨Z,hZ⟩:=ah (vG (R+1));have VN:Z<64/\(R+1+Z)%64=56:=by rw[hZ];unfold vG;omega
 have HW:=aA NQ DV DR hZ;clear NQ DV DR hZ c6 H1 H2;go_wp2;go_loopg [3] Z (λk s3 wr=>∃(j N:Nat) (a:OA) (q:Nat),s3 = .slice a N q/\N=R+1+j/\j+k=Z/\ek wr 5 a q ((rs++[128]++List.replicate j 0).map bv)/\Fr [] w wr/\∀x∈lib.ag a,w.heap.size<=x);case atStart=>exact⟨0,R+1,a2,q2,rfl,rfl,by omega,by simpa using HW.o2,HW.o0,HW.o1⟩
 case round=>
  obtain⟨j,N,a,q,rfl,hN,fP,aK,hf,bZ⟩:=hrel;obtain⟨p1,p2,p3⟩:=aK.shape;have sA:(rs++[128]++List.replicate j (0:UInt8)).length=N:=by simp only[aG,BO,yP];rw[<-H.o3,hN]
  rw[gx,sA]at p1;have HR:=aA aK hf bZ sA;clear aK hf bZ sA;by_cases hj:j<Z
  ·obtain⟨k,rfl⟩:∃k,gk=k+1:=⟨gk-1,by omega⟩;have bg:¬(N%64=56):=by omega
   have d1:((N:Int)%64 !=56)=true:=by simp;omega
   have HN:=ai hN fP;have hNb:N<=200:=by omega
   clear bg hN fP;go_wp2_with (refine E8 sums.aE rfl _ _ rfl a N q ((rs++[128]++List.replicate j 0).map bv) rfl (HR.o0.fr ((Fr.refl [] wr).alloc (.cells #[.int .u8 0] 5)) (by simp)) (by rw[gx];exact HR.l3) (some ⟨wr.heap.size,0,none⟩) 1 1 [.int .u8 0] rfl (by omega) (by simp) (oC wr _ _ _) rfl (by simp[Value.oneCell']) (by omega) (by unfold maxLen;omega) ?_;intro a4 q4 w4 A4;have H4:=af A4;clear A4);go_roundg k;case measure=>omega
   case rel=>
    obtain⟨hN,fP⟩:=HN.out;refine⟨j+1,N+1,a4,q4,rfl,by omega,by omega,?_,(HR.o1.trans ((Fr.refl [] wr).alloc (.cells #[.int .u8 0] 5))).step H4.out.fr (λy hy=>.inr (HR.o2 y hy)),λx hx=>?_⟩
    ·rw[IA,<-fU,jd];exact H4.out.own
    ·have h1:=HR.o1.size;rcases H4.out.at_ x hx with k|k
     ·exact HR.o2 x k
     ·rw[ik]at k;omega
  ·obtain rfl:j=Z:=by omega
   obtain rfl:gk=0:=by omega
   have d1:((N:Int)%64 !=56)=false:=by simp;omega
   have hNb:N<=200:=by omega
   have HN:=af hN;clear hN fP;go_upto_region 9 with fail;clear d1;obtain⟨x1,j6⟩:∃x,x=len/536870912:=⟨_,rfl⟩;obtain⟨x2,mJ⟩:∃x,x=len*8%4294967296:=⟨_,rfl⟩;have e1:(len:Int)/536870912=(x1:Int):=by omega
   have e2:((len:Int)*8)%4294967296=(x2:Int):=by omega
   obtain⟨bs,tU⟩:∃bs,bs=rs++[128]++List.replicate j (0:UInt8):=⟨_,rfl⟩;have tE:bs=oJ rs:=by rw[tU,oJ,<-H.o3,<-HW.l3]
   have dW:bs.length=N:=by rw[tU];exact HR.l3
   have wa:=HR.o0;rw[<-tU]at wa;have vg:=HR.o1.ag H.o0 (by simp);have hgs:g<w.heap.size:=lt_of_block H.o0;have Gg:g∉lib.ag a:=λhm=>by have:=HR.o2 g hm;omega
   obtain⟨S,hS⟩:=ah (lib.ag a);have s7:∀x,(sup S wr.drew x).cell? ⟨g,7,none⟩=some (.int .u64 len):=λx=>(gB S wr.drew x).cell (show wr.drew.cell? _=_ from (cell_of vg 7).trans H.o1.n) (by rw[hS];exact Gg)
   have ko:Calls Tryz.prog 115 #[.slice a N q,.int .u32 x1] wr.drew (sums.lG wr.drew a bs x1):=by have:=sums.Pf a q bs x1 wr.drew (by omega) wa (by omega);rw[dW]at this;exact this
   have gK:=λw' a' q' (ho:ek w' 5 a' q' ((bs++sums.iI x1).map bv))=>sums.Pf a' q' (bs++sums.iI x1) x2 w' (by omega) ho (by rw[aG,sums.yJ];omega)
   rw[show (bs++sums.iI x1).length=N+4 from by rw[aG,sums.yJ,dW]]at gK;unfold sums.lG at ko gK;rw[dW]at ko;have zaI:x2<4294967296:=by omega
   have HF:=pY ko gK vg Gg hS tE dW j6 mJ;clear ko gK vg Gg hS tE dW tU wa j6 mJ;refine ql8 16 [(false,0),(false,1),(false,2),(false,3),(false,4),(false,5),(false,6),(false,8),(false,9),(false,10),(false,11),(false,12),(false,13),(true,7),(true,14),(false,15)] S (by kernel_rfl) (by kernel_rfl) (λ_ _ d _ _ h=>by cases d<;>exact h) ?_;simp only[kQ];refine Po 13 rfl ?_;simp only[cT];repeat (go_big_quiet_step (fail))
   refine wpQuiet_nil ?_;have CR:=af e2;clear s7 e1 e2;refine Pn rfl ?_;intro X hX;go_wp2_with (go_at_call 115;refine HF.o0.mono ?_;rintro e w5 ⟨a5,q5,rfl,A5⟩);have Rg:Fr S wr.drew w5:=by rw[HF.o4];exact A5.fr
   refine hX.out _ _ wr.drew (Fr.refl _ _) Rg ?_;clear hX X;have RA:=af A5;clear A5;refine Pn rfl ?_;intro X hX;have gK:=HF.o1 _ a5 q5 RA.out.own;rw[<-CR.out,show (bs++sums.iI x1).length=N+4 from by rw[aG,sums.yJ,HF.o6]]at gK;have Rw:=af gK;clear gK;go_wp2_with (go_at_call 115;go_loud (with_reducible refine Rw.out.mono ?_);rintro e w6 ⟨a6,q6,rfl,A6⟩);have Wi:Fr S wr.drew w6:=Rg.step A6.fr λy hy=>by
    rcases RA.out.at_ y hy with k|k
    ·exact .inl (by rw[HF.o4];exact k)
    ·exact .inr k
   refine hX.out _ _ wr.drew (Fr.refl _ _) Wi ?_;clear hX X;have WT:=af A6;clear A6;refine Po 1 rfl ?_;simp only[cT];repeat (go_big_quiet_step (fail))
   refine wpQuiet_nil ?_;refine Zd ?_;have El:Fr [] w w6:=(HR.o1.trans (Fr.aB [] wr)).step Wi (λy hy=>.inr (by rw[HF.o4]at hy;exact HR.o2 y hy));have vg:=El.ag H.o0 (by simp);have c1:=(cell_of vg 1).trans H.o1.a;have c2:=(cell_of vg 2).trans H.o1.b;have c3:=(cell_of vg 3).trans H.o1.c;have c4:=(cell_of vg 4).trans H.o1.d;have c5:=(cell_of vg 5).trans H.o1.e;obtain⟨pd,rF⟩:=ah (dH rs len);have FL:bs++sums.iI x1++sums.iI x2=pd:=by rw[rF,dH,HF.o5,HF.o7,HF.l8]
   have jq:pd.length=N+4+4:=by rw[<-FL,aG,aG,sums.yJ,sums.yJ,HF.o6]
   have Ck:pd.length%64=0:=by rw[rF];exact qpj rs len
   have DS:ek w6 5 a6 q6 (pd.map bv):=by rw[<-FL];exact WT.out.own
   have tH:∀x∈lib.ag a6,w.heap.size<=x:=λx hx=>by
    have k0:=HR.o1.size;rcases WT.out.at_ x hx with k|k
    ·rcases RA.out.at_ x k with k2|k2
     ·exact HR.o2 x k2
     ·exact bP k0 k2
    ·exact bP (bP k0 Rg.size) k
   rw[<-jq];have HP:=cU El DS tH rF jq Ck;clear El DS tH rF jq Ck FL vg Rg Wi RA WT;go_upto_block 3 with fail;clear c1 c2 c3 c4 c5;obtain⟨Q,w7,hQ,hw7,f7,b7⟩:∃Q w7,Q=w6.heap.size/\w7=w6.alloc (.cells #[.int .u32 h.a,.int .u32 h.b,.int .u32 h.c,.int .u32 h.d,.int .u32 h.e] 203)/\Fr [] w6 w7/\w7.heap[Q]?=some (.cells h.vals 203 (0,0)):=⟨_,_,rfl,rfl,(Fr.refl [] w6).alloc _,aV w6 _⟩;rw[<-hw7,<-hQ];have H7:=aq f7 b7 hQ;clear hw7 hQ f7 b7;go_wp2;go_loopg [3] pd.length (λk s3 wr=>∃(h':H5) (ps:LB) (P:Nat) (a:OA) (q:Nat),s3 = .slice a P q/\P=ps.length/\P%64=0/\P<=k/\ek w7 5 a q (ps.map bv)/\Q∉lib.ag a/\wr.heap[Q]?=some (.cells h'.vals 203 (0,0))/\Fr [Q] w7 wr/\GX h'/\blocks k h' ps=blocks pd.length h pd);case atStart=>exact⟨h,pd,pd.length,a6,q6,rfl,rfl,HP.l5,ax _,HP.o1.fr H7.o0 (by simp),λhm=>by have:=HP.o1.lt _ hm;rw[H7.l2]at this;omega,H7.o1,Fr.refl _ _,U4,rfl⟩
   case round=>
    obtain⟨h',ps,P,a,q,rfl,hP,GA,hPk,aK,VW,Ee,hf,uR,dW⟩:=hrel;obtain⟨p1,p2,p3⟩:=aK.shape;rw[gx,<-hP]at p1;have HL:=lf aK VW Ee hf uR dW hP GA;have c0:=cell_of Ee 0;have c1:=cell_of Ee 1;have c2:=cell_of Ee 2;have c3:=cell_of Ee 3;have c4:=cell_of Ee 4;unfold H5.vals at c0 c1 c2 c3 c4;simp only[dJ,dk,dU]at c0 c1 c2 c3 c4;by_cases h0:0<P
    ·have rf:64<=P:=by omega
     obtain⟨k,rfl⟩:∃k,gk=k+1:=⟨gk-1,by omega⟩;clear aK VW Ee hf uR dW hP GA;have hmx:=YC h' a P q ps wr (HL.o0.fr HL.o3 (λx hx hm=>by simp at hm;rw[hm]at hx;exact HL.o1 hx)).rd HL.o6.symm rf;unfold H5.vals at hmx;have HM:=af hmx;clear hmx;go_wp2_with (first|(go_at_call 114;refine HM.out.mono ?_;rintro e w8 ⟨rfl,f8⟩;have vk:=f8.ag HL.o2 (by simp);have d0:=cell_of vk 0;have d1:=cell_of vk 1;have d2:=cell_of vk 2;have d3:=cell_of vk 3;have d4:=cell_of vk 4;have y0:=aT vk 0;have y1:=aT vk 1;have y2:=aT vk 2;have y3:=aT vk 3;have y4:=aT vk 4;unfold H5.vals at d0 d1 d2 d3 d4;simp only[dJ,dk,dU]at d0 d1 d2 d3 d4;have H8:=ai f8 vk;clear f8 vk c0 c1 c2 c3 c4)|(refine Uv sums.aE 64 rfl _ _ rfl a P q _ rfl rfl rfl rf p1 ?_));obtain⟨k1,k2⟩:=Le H8.out.2 (.int .u32 (lq h' ps).a) (.int .u32 (lq h' ps).b) (.int .u32 (lq h' ps).c) (.int .u32 (lq h' ps).d) (.int .u32 (lq h' ps).e);have HK:=ai k1 k2;clear k1 k2;go_roundg k;case measure=>omega
     case rel=>have hd:=HL.o0.drop 64 (by rw[gx,<-HL.o6];exact rf);rw[<-CZ]at hd;refine⟨lq h' ps,ps.drop 64,P-64,_,_,rfl,by rw[gN,<-HL.o6],by have:=HL.l7;omega,by omega,hd,by rw[TW];exact HL.o1,HK.out.1,(HL.o3.trans (H8.out.1.mono (by simp))).trans HK.out.2,Zc _ _,?_⟩;have:=HL.o5;rw[blocks,if_pos (by rw[<-HL.o6];exact rf)]at this;exact this
    ·have Jt:blocks gk h' ps=h':=by
      cases gk with
      | zero=>rfl
      | succ k=>rw[blocks,if_neg (by rw[<-hP];omega)]
     rw[Jt]at dW;obtain⟨ha,hb,hc,hd,he⟩:=h';obtain⟨⟨r1,l1⟩,⟨r2,l2⟩,⟨r3,l3⟩,⟨r4,l4⟩,⟨r5,l5⟩⟩:=uR;simp only at r1 r2 r3 r4 r5 l1 l2 l3 l4 l5 c0 c1 c2 c3 c4;obtain⟨na,rfl⟩:=Dz r1;obtain⟨nb,rfl⟩:=Dz r2;obtain⟨nc,rfl⟩:=Dz r3;obtain⟨nd,rfl⟩:=Dz r4;obtain⟨ne,rfl⟩:=Dz r5;have fwr:Fr [] w wr:=(HP.o0.trans H7.o0).step hf (λy hy=>.inr (by simp at hy;rw[hy,H7.l2];exact HP.o0.size));have hdg:xI (blocks pd.length h pd)=sums.iI na++sums.iI nb++sums.iI nc++sums.iI nd++sums.iI ne:=by rw[<-dW];rfl
     have HD:=ai fwr hdg;have HL5:Hid ((na<4294967296/\nb<4294967296)/\(nc<4294967296/\nd<4294967296/\ne<4294967296)):=af (by omega);clear aK VW Ee hf dW hP GA Jt fwr hdg HL r1 r2 r3 r4 r5 l1 l2 l3 l4 l5;have wh:∀w:World,(Instr.makeSlice 35 (.int .i64 0) (.int .i64 20)).run Tryz.prog w = .ok (.slice (some ⟨w.heap.size,0,none⟩) 0 20) (w.alloc (.cells #[.int .u8 0,.int .u8 0,.int .u8 0,.int .u8 0,.int .u8 0,.int .u8 0,.int .u8 0,.int .u8 0,.int .u8 0,.int .u8 0,.int .u8 0,.int .u8 0,.int .u8 0,.int .u8 0,.int .u8 0,.int .u8 0,.int .u8 0,.int .u8 0,.int .u8 0,.int .u8 0] 5)):=λ_=>by kernel_rfl
     go_upto_region 15 with fail;obtain⟨Bo,w9,V6,hw9,f9,b9⟩:∃Bo w9,Bo=wr.heap.size/\w9=wr.alloc (.cells #[.int .u8 0,.int .u8 0,.int .u8 0,.int .u8 0,.int .u8 0,.int .u8 0,.int .u8 0,.int .u8 0,.int .u8 0,.int .u8 0,.int .u8 0,.int .u8 0,.int .u8 0,.int .u8 0,.int .u8 0,.int .u8 0,.int .u8 0,.int .u8 0,.int .u8 0,.int .u8 0] 5)/\Fr [] wr w9/\w9.heap[Bo]?=some (.cells #[.int .u8 0,.int .u8 0,.int .u8 0,.int .u8 0,.int .u8 0,.int .u8 0,.int .u8 0,.int .u8 0,.int .u8 0,.int .u8 0,.int .u8 0,.int .u8 0,.int .u8 0,.int .u8 0,.int .u8 0,.int .u8 0,.int .u8 0,.int .u8 0,.int .u8 0,.int .u8 0] 5 (0,0)):=⟨_,_,rfl,rfl,(Fr.refl [] wr).alloc _,aV wr _⟩;rw[<-hw9,<-V6];have e0:=f9.cell c0 (by simp);have e1:=f9.cell c1 (by simp);have e2:=f9.cell c2 (by simp);have e3:=f9.cell c3 (by simp);have e4:=f9.cell c4 (by simp);have o9:ek w9 5 (some ⟨Bo,0,none⟩) 20 (([]:LB).map bv):=.inr ⟨Bo,0,_,rfl,b9,eE _,by decide,ax _,rfl⟩;have n9:w.heap.size<=Bo:=by rw[V6];exact HD.o0.size
     have H9:=aq (HD.o0.trans f9) o9 n9;clear hw9 V6 f9 b9 o9 n9 c0 c1 c2 c3 c4 wh;go_upto_block 5 with fail;clear e0 e1 e2 e3 e4;go_wp2;go_loopg [5,7,78] 5 (λk s5 s7 s78 wr=>∃(j n:Nat) (a:OA) (q:Nat) (out:LB),s78 = .int .i64 (j:Nat)/\s5 = .slice a n q/\n=out.length/\j+k=5/\n=4*j/\ek wr 5 a q (out.map bv)/\Fr [] w wr/\(∀x∈lib.ag a,w.heap.size<=x)/\out=([na,nb,nc,nd,ne].take j).flatMap sums.iI);case atStart=>exact⟨0,0,_,20,[],rfl,rfl,rfl,rfl,rfl,H9.o1,H9.o0,λx hx=>by simp[lib.ag]at hx;rw[hx];exact H9.l2,rfl⟩
     case round=>
      obtain⟨j,n,a,q,out,rfl,rfl,hn,fP,AQ,aK,hf,bZ,dt⟩:=hrel;by_cases hj:j<5
      ·obtain⟨k,rfl⟩:∃k,gk=k+1:=⟨gk-1,by omega⟩;obtain⟨⟨m1,m2⟩,m3,m4,m5⟩:=HL5.out;have tR:=λx (hx:x<4294967296)=>sums.Pf a q out x wr hx aK (by omega)
       rw[<-hn]at tR;unfold sums.lG at tR;rw[<-hn]at tR;have vB:=aQ tR hf bZ dt hn;clear tR hf bZ dt aK hn;have key:∀(x:Nat) (w':World) (a':OA) (q':Nat),([na,nb,nc,nd,ne].take (j+1)).flatMap sums.iI=out++sums.iI x->gG wr w' 5 a a' q' ((out++sums.iI x).map bv)->
         ∃out',n+4=out'.length/\n+4=4*(j+1)/\ek w' 5 a' q' (out'.map bv)/\Fr [] w w'/\(∀x∈lib.ag a',w.heap.size<=x)/\out'=([na,nb,nc,nd,ne].take (j+1)).flatMap sums.iI:=λx w' a' q' hx A=>
        ⟨out++sums.iI x,by rw[aG,sums.yJ,vB.out.2.2.2.2],by omega,A.own,vB.out.2.1.step A.fr (λy hy=>.inr (vB.out.2.2.1 y hy)),λy hy=>by
         rcases A.at_ y hy with k|k
         ·exact vB.out.2.2.1 y k
         ·exact bP vB.out.2.1.size k,hx.symm⟩
       have HK:=af key;have HJ:=ai AQ fP;clear key AQ fP;rcases (show j=0\/j=1\/j=2\/j=3\/j=4 by omega) with rfl|rfl|rfl|rfl|rfl
       ·have ix:∀w:World,(Instr.index 203 (.agg #[.int .u32 na,.int .u32 nb,.int .u32 nc,.int .u32 nd,.int .u32 ne]) (.int .i64 0)).run Tryz.prog w = .ok (.int .u32 na) w:=λ_=>by kernel_rfl
        go_wp2_with (go_at_call 115;(with_reducible refine (vB.out.1 na m1).mono ?_);rintro e mS ⟨zW,BU,rfl,wT⟩;have rX:=af wT;clear wT);go_roundg k;case measure=>have:=HJ.l1;omega
        case rel=>have fP:=HJ.l1;obtain⟨out',t1,t2,t3,t4,t5,t6⟩:=HK.out na _ _ _ (by rw[vB.out.2.2.2.1];simp) rX.out;exact⟨1,n+4,zW,BU,out',rfl,rfl,t1,by omega,t2,t3,t4,t5,t6⟩
       ·have ix:∀w:World,(Instr.index 203 (.agg #[.int .u32 na,.int .u32 nb,.int .u32 nc,.int .u32 nd,.int .u32 ne]) (.int .i64 1)).run Tryz.prog w = .ok (.int .u32 nb) w:=λ_=>by kernel_rfl
        go_wp2_with (go_at_call 115;(with_reducible refine (vB.out.1 nb m2).mono ?_);rintro e mS ⟨zW,BU,rfl,wT⟩;have rX:=af wT;clear wT);go_roundg k;case measure=>have:=HJ.l1;omega
        case rel=>have fP:=HJ.l1;obtain⟨out',t1,t2,t3,t4,t5,t6⟩:=HK.out nb _ _ _ (by rw[vB.out.2.2.2.1];simp) rX.out;exact⟨2,n+4,zW,BU,out',rfl,rfl,t1,by omega,t2,t3,t4,t5,t6⟩
       ·have ix:∀w:World,(Instr.index 203 (.agg #[.int .u32 na,.int .u32 nb,.int .u32 nc,.int .u32 nd,.int .u32 ne]) (.int .i64 2)).run Tryz.prog w = .ok (.int .u32 nc) w:=λ_=>by kernel_rfl
        go_wp2_with (go_at_call 115;(with_reducible refine (vB.out.1 nc m3).mono ?_);rintro e mS ⟨zW,BU,rfl,wT⟩;have rX:=af wT;clear wT);go_roundg k;case measure=>have:=HJ.l1;omega
        case rel=>have fP:=HJ.l1;obtain⟨out',t1,t2,t3,t4,t5,t6⟩:=HK.out nc _ _ _ (by rw[vB.out.2.2.2.1];simp) rX.out;exact⟨3,n+4,zW,BU,out',rfl,rfl,t1,by omega,t2,t3,t4,t5,t6⟩
       ·have ix:∀w:World,(Instr.index 203 (.agg #[.int .u32 na,.int .u32 nb,.int .u32 nc,.int .u32 nd,.int .u32 ne]) (.int .i64 3)).run Tryz.prog w = .ok (.int .u32 nd) w:=λ_=>by kernel_rfl
        go_wp2_with (go_at_call 115;(with_reducible refine (vB.out.1 nd m4).mono ?_);rintro e mS ⟨zW,BU,rfl,wT⟩;have rX:=af wT;clear wT);go_roundg k;case measure=>have:=HJ.l1;omega
        case rel=>have fP:=HJ.l1;obtain⟨out',t1,t2,t3,t4,t5,t6⟩:=HK.out nd _ _ _ (by rw[vB.out.2.2.2.1];simp) rX.out;exact⟨4,n+4,zW,BU,out',rfl,rfl,t1,by omega,t2,t3,t4,t5,t6⟩
       ·have ix:∀w:World,(Instr.index 203 (.agg #[.int .u32 na,.int .u32 nb,.int .u32 nc,.int .u32 nd,.int .u32 ne]) (.int .i64 4)).run Tryz.prog w = .ok (.int .u32 ne) w:=λ_=>by kernel_rfl
        go_wp2_with (go_at_call 115;(with_reducible refine (vB.out.1 ne m5).mono ?_);rintro e mS ⟨zW,BU,rfl,wT⟩;have rX:=af wT;clear wT);go_roundg k;case measure=>have:=HJ.l1;omega
        case rel=>have fP:=HJ.l1;obtain⟨out',t1,t2,t3,t4,t5,t6⟩:=HK.out ne _ _ _ (by rw[vB.out.2.2.2.1];simp) rX.out;exact⟨5,n+4,zW,BU,out',rfl,rfl,t1,by omega,t2,t3,t4,t5,t6⟩
      ·obtain rfl:j=5:=by omega
       have HZ:=aA aK hf dt hn;have Vh:n=20:=by omega
       subst Vh;clear aK hf dt hn bZ AQ fP;go_wp2;go_ret;refine⟨⟨a,q,rfl,?_⟩,HZ.o1⟩;have e:out=xI (blocks (dH rs len).length h (dH rs len)):=by rw[<-HP.o3,HD.l1,HZ.o2];simp
       rw[<-e];exact HZ.o0.rd
theorem S9:∀(f:Nat) (p:LB),p.length<=f->(leftOf f p).length<64
 | 0,p,h=>by rw[leftOf];omega
 | f+1,p,h=>by
  rw[leftOf];split
  ·exact S9 f _ (by rw[gN];omega)
  ·omega
def wX (b:LB):List UInt8:=
 xI (blocks (dH (leftOf b.length b) b.length).length (blocks b.length h0 b) (dH (leftOf b.length b) b.length))
theorem Ug (b:LB):(wX b).length=20:=rfl
end sha
namespace delta
open Go Go.RowKit lib
def Ye:Nat->Nat->Nat->List UInt8->Nat×List UInt8×Nat
 | 0,_,_,_=>(0,[],3)
 | _+1,_,_,[]=>(0,[],4)
 | f+1,i,n,c::r=>if c.toNat<128 then (if 2147483647<n+c.toNat%128*128^i then (0,[],3) else (n+c.toNat%128*128^i,r,0)) else Ye f (i+1) (n+c.toNat%128*128^i) r
def rd (d:LB):Nat×List UInt8×Nat:=Ye 5 0 0 d
def sizes (d:LB):Nat×Nat×List UInt8×Nat:=
 if (rd d).2.2=0 then (if (rd (rd d).2.1).2.2=0 then ((rd d).1,(rd (rd d).2.1).1,(rd (rd d).2.1).2.1,0) else (0,0,[],(rd (rd d).2.1).2.2)) else (0,0,[],(rd d).2.2)
def pl (op:Nat):Nat->Nat->Nat->Nat->List UInt8->Option (Nat×Nat×List UInt8)
 | 0,_,p,n,d=>some (p,(if n=0 then 65536 else n),d)
 | f+1,i,p,n,d=>if op/2^i%2=0 then pl op f (i+1) p n d else match d with
  | []=>none
  | c::r=>if i<4 then pl op f (i+1) (p+c.toNat*256^i) n r else pl op f (i+1) p (n+c.toNat*256^(i-4)) r
def app (base:LB) (tn:Nat):Nat->List UInt8->List UInt8->List UInt8×Nat
 | _,[],out=>if out.length<tn then ([],3) else (out,0)
 | 0,_::_,_=>([],3)
 | f+1,c::r,out=>if 128<=c.toNat then match pl (c.toNat-128) 7 0 0 0 r with
   | none=>([],4)
   | some (p,n,rest)=>if base.length<p\/base.length-p<n\/tn-out.length<n then ([],3) else app base tn f rest (out++(base.drop p).take n)
  else if c.toNat=0\/tn-out.length<c.toNat then ([],3) else if r.length<c.toNat then ([],4) else app base tn f (r.drop c.toNat) (out++r.take c.toNat)
def apply (base d:LB) (bound:Int):List UInt8×Nat:=
 if (sizes d).2.2.2≠0 then ([],(sizes d).2.2.2) else if (sizes d).1≠base.length then ([],3) else if bound.toNat<(sizes d).2.1 then ([],5) else app base (sizes d).2.1 (sizes d).2.2.1.length (sizes d).2.2.1 []
end delta

end Go.Proofs.YticadfhpolhkeaaGreatDoor