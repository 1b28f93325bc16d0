/-
  Texts of this proof, one behind the other: CutRuns, Tell.
-/
import Derived.Test.YtkmpfgpfbmeihaaGreatDoorS11
set_option maxHeartbeats 16000000
set_option maxRecDepth 100000
set_option linter.unusedVariables false
set_option linter.unusedSimpArgs false
namespace Go.Proofs.YtkmpfgpfbmeihaaGreatDoor.defl
open Go Go.RowKit lib bm bl mat huf wb
def cutN (ls:List Nat) (least:Nat):Nat→Nat
 | 0=>0
 | n+1=>if least<n+1∧lenAt ls n=0 then cutN ls least n else n+1
theorem qi0 (ls:List Nat) (least:Nat):∀n,cutN ls least n≤n
 | 0=>qae _
 | n+1=>by
  unfold cutN;split
  ·exact Nat.le_succ_of_le (qi0 ls least n)
  ·exact qae _
theorem qnd (ls:List Nat) (least:Nat):∀n,least≤n→least≤cutN ls least n
 | 0,h=>by
  have:least=0:=by omega
  rw[this];exact qa5 _
 | n+1,h=>by
  unfold cutN;split
  ·rename_i hc;exact qnd ls least n (by omega)
  ·exact h
theorem qnc (ls:List Nat) (least:Nat):∀n i,cutN ls least n≤i→i<n→lenAt ls i=0
 | 0,i,_,h=>by omega
 | n+1,i,h1,h2=>by
  unfold cutN at h1;split at h1
  ·rename_i hc;rcases qb8 i n with k|k
   ·exact qnc ls least n i h1 k
   ·rw[show i=n from by omega];exact hc.2
  ·omega
theorem qzm (a:Option Addr) (cap:Nat) (ls:List Nat) (least:Nat) (w:World) (h:Ri w a cap ls) (hlen:ls.length≤1000000) (hle:least≤1000000) :
  Calls Tryz.prog 248 #[.slice a ls.length cap,.int .i64 least] w λe w'=>e = .returned (.slice a (cutN ls least ls.length) cap)∧w'=w:=by
 obtain⟨N,hN⟩:=zex ls.length;obtain⟨R,hR⟩:=zex (cutN ls least ls.length);have hNc:=h.le;rw[<-hN]at hlen hNc ⊢;rw[<-hN]at hR;have hRN:R≤N:=by rw[hR];exact qi0 _ _ _
 have hmx:cap≤9223372036854775807:=h.max;rw[<-hR];have hnil:=h.nil;have H:=zhd4 h hN hR hnil;clear h hN hR hnil;go_enter Tryz.func248,Tryz.ntmps248;go_wp2;go_loopg [5] N (λk s5 wr=>s5 = .int .i64 (k:Nat)∧k≤N∧R≤k∧cutN ls least k=R∧w=wr);case atStart=>exact⟨rfl,qae _,hRN,H.out.2.2.1.symm,rfl⟩
 case round=>
  obtain⟨rfl,hk,hRk,hcn,rfl⟩:=hrel;by_cases hl:least<gk
  ·obtain⟨k,rfl⟩:∃k,gk=k+1:=⟨gk-1,by omega⟩;have hkl:k<ls.length:=by rw[<-H.out.2.1];omega
   obtain⟨g,o,rfl,hc⟩:=H.out.1.at hkl;have hla:lenAt ls k=ls[k]:=by unfold lenAt;rw[qai hkl];rfl
   rw[<-hla]at hc;obtain⟨v,hv⟩:=zex (lenAt ls k);rw[<-hv]at hc;have e1:((k+1:Nat):Int)-1=(k:Int):=by omega
   have g1:decide ((N:Int)≤(k:Int))=false:=by simp;omega
   unfold cutN at hcn;rw[<-hv]at hcn;obtain⟨k1,hk1⟩:=zex (k+1);rw[<-hk1]at hl hk hRk e1 ⊢;have HK:=zhd hk1;clear hla hv hk1;by_cases hv0:v=0
   ·rw[if_pos ⟨by have:=HK.out;omega,hv0⟩]at hcn;have q:((v:Int)==0)=true:=by simp[hv0]
    have HC:=zhd hcn;clear hcn;go_wp2;go_roundg k;case measure=>have:=HK.out;omega
    case rel=>exact⟨by go_num,by have:=HK.out;omega,by have h:=qi0 ls least k;have:=HC.out;omega,HC.out,rfl⟩
   ·rw[if_neg (λhh=>hv0 hh.2)]at hcn;have q:((v:Int)==0)=false:=by simp only[beq_eq_false_iff_ne];omega
    obtain rfl:k1=R:=by have:=HK.out;omega
    clear hcn;go_wp2;go_ret;exact⟨rfl,rfl⟩
  ·have e:cutN ls least gk=gk:=by
    cases gk with
    | zero=>rfl
    | succ n=>unfold cutN;rw[if_neg (by omega)]
   obtain rfl:gk=R:=by omega
   have q:decide ((least:Int)<(gk:Int))=false:=by simp;omega
   clear e hcn;cases a with
   | none=>
    have h0:=H.out.2.2.2 rfl;obtain rfl:cap=0:=h0;obtain rfl:gk=0:=by omega
    go_wp2;go_ret;exact⟨rfl,rfl⟩
   | some ad=>obtain⟨g,o,s⟩:=ad;go_wp2;go_ret;exact⟨rfl,rfl⟩
abbrev Rn:=Nat×Nat×Nat
def rcells (l:List Rn):List Value:=l.flatMap λx=>[.int .i64 (x.1:Nat),.int .u32 (x.2.1:Nat),.int .i64 (x.2.2:Nat)]
theorem qdn (a b:List Rn):rcells (a++b)=rcells a++rcells b:=by simp[rcells]
theorem qmk:∀(l:List Rn) (i:Nat) (x:Rn),l[i]?=some x→(rcells l)[i*3]?=some (.int .i64 (x.1:Nat))∧(rcells l)[i*3+1]?=some (.int .u32 (x.2.1:Nat))∧(rcells l)[i*3+2]?=some (.int .i64 (x.2.2:Nat))
 | [],i,x,h=>by simp at h
 | y::l,0,x,h=>by
  simp only[qac,qaw]at h;subst h;exact⟨rfl,rfl,rfl⟩
 | y::l,i+1,x,h=>by have:=qmk l i x (by simpa using h);rw[show (i+1)*3=i*3+3 from by omega];exact this
def exp1 (out:List Nat) (r:Rn):List Nat:=
 if r.1<16 then out++[r.1] else if r.1=16 then out++List.replicate (3+r.2.1) (out.getLast?.getD 0) else if r.1=17 then out++List.replicate (3+r.2.1) 0 else out++List.replicate (11+r.2.1) 0
def okR (out:List Nat) (r:Rn):Prop:=
 (r.1≤15∧r.2.1=0∧r.2.2=0)∨(r.1=16∧r.2.1<4∧r.2.2=2∧out≠[])∨(r.1=17∧r.2.1<8∧r.2.2=3)∨(r.1=18∧r.2.1<128∧r.2.2=7)
def RunsOk:List Nat→List Rn→List Nat→Prop
 | out,[],fin=>out=fin
 | out,r::rs,fin=>okR out r∧RunsOk (exp1 out r) rs fin
theorem RunsOk.add:∀{rs:List Rn} {out mid:List Nat} {r:Rn},RunsOk out rs mid→okR mid r→RunsOk out (rs++[r]) (exp1 mid r)
 | [],out,mid,r,h,k=>by obtain rfl:out=mid:=h;exact⟨k,rfl⟩
 | x::rs,out,mid,r,h,k=>⟨h.1,RunsOk.add h.2 k⟩
theorem zcr (out:List Nat) (r:Rn):out.length+1≤(exp1 out r).length:=by
 unfold exp1;split
 ·simp
 ·split
  ·simp;omega
  ·split<;>simp<;>omega
theorem RunsOk.len:∀{rs:List Rn} {out fin:List Nat},RunsOk out rs fin→out.length+rs.length≤fin.length
 | [],out,fin,h=>by obtain rfl:out=fin:=h;simp
 | x::rs,out,fin,h=>by have h1:=RunsOk.len h.2;have h2:=zcr out x;simp only[qao];omega
def outD (base:List Nat) (x d:Nat):List Nat:=base++List.replicate d x
theorem qpg (base:List Nat) (x d:Nat):(outD base x d).length=base.length+d:=by simp[outD]
theorem qxv (base:List Nat) (x d:Nat) (h:1≤d):(outD base x d).getLast?.getD 0=x:=by obtain⟨e,rfl⟩:∃e,d=e+1:=⟨d-1,by omega⟩;unfold outD;rw[qfl,<-qas,List.getLast?_append];simp
theorem qxu (base:List Nat) (x d:Nat) (h:1≤d):outD base x d≠[]:=by intro e;have:=congrArg List.length e;rw[qpg]at this;simp at this;omega
theorem qjk (base:List Nat) (x d k:Nat):outD base x d++List.replicate k x=outD base x (d+k):=by unfold outD;rw[qas,List.replicate_append_replicate]
theorem qzg (base:List Nat) (x d:Nat) (hx:x≤15):exp1 (outD base x d) (x,0,0)=outD base x (d+1):=by unfold exp1;rw[if_pos (by simp only;omega)];exact qjk base x d 1
theorem zdx (base:List Nat) (x d k:Nat) (h:1≤d) (hk:3≤k):exp1 (outD base x d) (16,k-3,2)=outD base x (d+k):=by unfold exp1;rw[if_neg (by simp),if_pos rfl,qxv base x d h];simp only;rw[show 3+(k-3)=k from by omega];exact qjk base x d k
theorem zdw (base:List Nat) (d k:Nat) (hk:3≤k):exp1 (outD base 0 d) (17,k-3,3)=outD base 0 (d+k):=by unfold exp1;rw[if_neg (by simp),if_neg (by simp),if_pos rfl];simp only;rw[show 3+(k-3)=k from by omega];exact qjk base 0 d k
theorem zdv (base:List Nat) (d k:Nat) (hk:11≤k):exp1 (outD base 0 d) (18,k-11,7)=outD base 0 (d+k):=by unfold exp1;rw[if_neg (by simp),if_neg (by simp),if_neg (by simp)];simp only;rw[show 11+(k-11)=k from by omega];exact qjk base 0 d k
theorem qto (ls:List Nat) (i:Nat):∀n,i+n≤ls.length→(∀j,j<n→lenAt ls (i+j)=lenAt ls i)→ls.take (i+n)=outD (ls.take i) (lenAt ls i) n
 | 0,_,_=>by simp[outD]
 | n+1,h1,h2=>by
  have ih:=qto ls i n (by omega) λj hj=>h2 j (by omega)
  have hl:i+n<ls.length:=by omega
  have e:ls[i+n]=lenAt ls i:=by rw[<-h2 n (by omega)];unfold lenAt;rw[qai hl];rfl
  rw[show i+(n+1)=i+n+1 from rfl,qca hl,ih,e];exact qjk (ls.take i) (lenAt ls i) n 1
theorem runTy:SliceTy Tryz.prog 341 344 (.agg #[.int .i64 0,.int .u32 0,.int .i64 0]) 3 24:=SliceTy.of Tryz.underlying341 (by kernel_rfl) rfl (by decide)
theorem qhz (w:World) (x y z:Value) (T:TypeId):Cs (w.alloc (.cells #[x,y,z] T)) (some ⟨w.heap.size,0,none⟩) [x,y,z]:=by refine .inr ⟨_,0,rfl,λj v hv=>?_⟩;rw[cell_of (qay w _),qbg];simpa using hv
theorem one3 {x y z:Value} (hx:x.oneCell'=true) (hy:y.oneCell'=true) (hz:z.oneCell'=true):∀u∈[x,y,z],u.oneCell'=true:=by
 intro u hu;simp only[qbh,qcw,or_false]at hu;rcases hu with rfl|rfl|rfl
 ·exact hx
 ·exact hy
 ·exact hz
theorem zbe (a:Option Addr) (cap:Nat) (ls:List Nat) (w:World) (h:Ri w a cap ls) (hlen:ls.length≤100000) (h15:∀l∈ls,l≤15) :
  Calls Tryz.prog 249 #[.slice a ls.length cap] w λe w'=>∃ao rn cp rs,e = .returned (.slice ao rn cp)∧rn=rs.length∧Made w w' 344 3 ao rn cp (rcells rs)∧RunsOk [] rs ls:=by
 obtain⟨N,hN⟩:=zex ls.length;rw[<-hN]at hlen ⊢;have H:=zhd3 h hN h15;clear h hN h15;go_enter Tryz.func249,Tryz.ntmps249;go_wp2;go_loopg [3,4,5,6,7,62,72,87] N (λk s3 s4 s5 s6 s7 s62 s72 s87 wr=>∃(i:Nat) (ao:Option Addr) (rn cp:Nat) (rs:List Rn),s4 = .int .i64 (i:Nat)∧s3 = .slice ao rn cp∧k=N-i∧i≤N∧rn=rs.length∧Made w wr 344 3 ao rn cp (rcells rs)∧RunsOk [] rs (ls.take i));case atStart=>exact⟨0,none,0,0,[],rfl,rfl,rfl,qa5 _,rfl,.none w _ _,rfl⟩
 case round=>
  obtain⟨i,ao,rn,cp,rs,rfl,rfl,hk,hiN,hrn,hm,hro⟩:=hrel;by_cases hi:i<N
  ·have hil:i<ls.length:=by rw[<-H.out.2.1];exact hi
   obtain⟨g,o,rfl,hc⟩:=(H.out.1.fr hm.fr).at hil;have hla:∀j,j<ls.length→ls[j]?=some (lenAt ls j):=λj hj=>by unfold lenAt;rw[qai hj];rfl
   have hx15:lenAt ls i≤15:=H.out.2.2 _ (qfj hil);have hcell:∀j,j<N→wr.cell? ⟨g,o+j,none⟩=some (.int .i64 (lenAt ls j:Nat)):=λj hj=>by obtain⟨g',o',e,hc'⟩:=(H.out.1.fr hm.fr).at (i:=j) (by rw[<-H.out.2.1];exact hj);simp only[qaw,qcz,and_true]at e;obtain⟨rfl,rfl⟩:=e;rw[hc',<-(qbm ((qai (by rw[<-H.out.2.1];exact hj)).symm.trans (hla j (by rw[<-H.out.2.1];exact hj))))]
   have HI:=zhd5 hm hro hk hrn hcell;have HX:=zhd hx15;obtain⟨x,hx⟩:=zex (lenAt ls i);have dx:=hcell i hi;rw[<-hx]at dx;have HXE:=zhd hx;clear hm hro hk hrn hcell hla hc hx15 hx hil;obtain⟨wo,hwo⟩:∃wo:World,wo=wr:=⟨_,rfl⟩;have HWO:=zhd hwo;rw[<-hwo]at dx ⊢;clear hwo;go_wp2;go_loopg [5] (N-1) (λk s5 wz=>∃n:Nat,s5 = .int .i64 (n:Nat)∧1≤n∧i+n≤N∧k=N-n∧(∀j,j<n→lenAt ls (i+j)=lenAt ls i)∧Fr [] wo wz);case atStart=>exact⟨1,rfl,qae _,by omega,rfl,λj hj=>by rw[show j=0 from by omega,qbn],.refl _ _⟩
   case round=>
    obtain⟨n,rfl,hn1,hnN,hk2,hall,hfz⟩:=hrel;obtain⟨y,hy⟩:=zex (i+n);have e0:(i:Int)+(n:Int)=(y:Int):=by omega
    have dx2:=hfz.cell dx (by simp);have key:(y<N∧lenAt ls y=x)∨(y<N∧lenAt ls y≠x)∨N≤y:=by omega
    have hstop:(y<N∧lenAt ls y=x)∨((y<N∧lenAt ls y≠x)∨N≤y):=key;clear key;rcases hstop with⟨hyN,hyx⟩|hstop
    ·have dy:=(HI.l4 y hyN);rw[<-HWO.out,hyx]at dy;have dy2:=hfz.cell dy (by simp);have q:((x:Int)==(x:Int))=true:=by simp
     have g1:decide ((N:Int)≤(y:Int))=false:=by simp;omega
     have g2:decide ((N:Int)≤(i:Int))=false:=by simp;omega
     have g3:decide ((y:Int)<(N:Int))=true:=by simp;omega
     have HK:=zhd5 hall hfz hy hk2 hyx;clear hall hfz hy hk2 dy hyx;go_upto_region 5 with fail;go_quiet (fail);go_wp2;go_roundg (N-(n+1));case measure=>have:=HK.out.2.2.2.1;have:=HK.out.2.2.1;omega
     case rel=>
      obtain⟨hall,hfz,hy,hk2,hyx⟩:=HK.out;refine⟨n+1,by go_num,by omega,by omega,rfl,λj hj=>?_,hfz.trans (Fr.drewN [] _ _)⟩;rcases qb8 j n with k|k
      ·exact hall j k
      ·rw[show j=n from by omega,<-hy,hyx,HXE.out]
    ·have hstop2:(y<N∧decide (y<N)=true)∨N≤y:=by rcases hstop with k|k;exact .inl ⟨k.1,by simp[k.1]⟩;exact .inr k
     have hyB:y≤100000:=by omega
     have hyN:y≤N:=by omega
     have HK:=zhd5 hall hfz hy hk2 hstop;clear hall hfz hk2 hstop hy;go_upto_region 5 with fail;go_cut [30] from 12 to 31 (λs30 wd=>s30 = .bool false∧Fr [] wr wd)
     case first=>
      rcases HK.out.2.2.2.2 with⟨hyN,hyx⟩|hyN
      ·have dy:=(HI.l4 y hyN);obtain⟨v,hv⟩:=zex (lenAt ls y);rw[<-HWO.out,<-hv]at dy;rw[<-hv]at hyx;have dy2:=HK.out.2.1.cell dy (by simp);have q:((v:Int)==(x:Int))=false:=by simp only[beq_eq_false_iff_ne];omega
       have g1:decide ((N:Int)≤(y:Int))=false:=by simp;omega
       have g2:decide ((N:Int)≤(i:Int))=false:=by simp;omega
       have g3:decide ((y:Int)<(N:Int))=true:=by simp;omega
       clear dy hv hyx hstop2;go_quiet (fail);go_wp2;go_meet;exact⟨rfl,Fr.drewN [] _ _⟩
      ·have g3:decide ((y:Int)<(N:Int))=false:=by simp;omega
       have g4:decide (y<N)=false:=by simp;omega
       have ew:IntKind.i64.wrap (y:Int)=(y:Int):=by rw[qbw];omega
       clear hstop2 hyN;go_quiet (fail);go_wp2;go_meet;exact⟨rfl,Fr.drewN [] _ _⟩
     case rest=>
     obtain⟨rfl,hfd⟩:=hcut;have dx3:=hfd.cell dx2 (by simp);have g2:decide ((N:Int)≤(i:Int))=false:=by simp;omega
     obtain⟨wd,hwd⟩:∃wd:World,wd=wc:=⟨_,rfl⟩;rw[<-hwd]at dx3 hfd ⊢;have fd:=HK.out.2.1.trans hfd;have htk:ls.take y=outD (ls.take i) x n:=by obtain⟨hall,hfz,hy,hk2,_⟩:=HK.out;rw[hy,HXE.out];exact qto ls i n (by rw[<-H.out.2.1];omega) hall
     have hx15:x≤15:=by rw[HXE.out];exact HX.out
     have hm0:=HI.o0;rw[<-HWO.out]at hm0;have HD:=zhd6 htk (hm0.fr2 fd) HI.o1 HI.o3 HI.o2 HK.out.2.2.1;have hrnb:rn≤100000:=by have:=HI.o1.len;rw[qaq,<-HI.o3]at this;simp at this;omega
     clear HK HI HX HXE HWO htk hm0 fd hfd hwd dx2 dx hstop2;go_upto_if 41 with fail;clear dx3 g2;go_cut [3,5] from 41 to 49 (λs3 s5 wz=>∃(rem d:Nat) (ao:Option Addr) (rn cp:Nat) (rs:List Rn),s5 = .int .i64 (rem:Nat)∧s3 = .slice ao rn cp∧rem+d=n∧(0<x→1≤d)∧rn=rs.length∧Made w wz 344 3 ao rn cp (rcells rs)∧RunsOk [] rs (outD (ls.take i) x d))
     case first=>
      by_cases hx0:0<x
      ·have q:decide ((0:Int)<(x:Int))=true:=by simp;omega
       obtain⟨n1,hn1'⟩:∃n1,n1=n-1:=⟨_,rfl⟩;have e1:(n:Int)-1=(n1:Int):=by omega
       have HN1:=zhd hn1';clear hn1';go_wp2_with (refine qba runTy rfl _ _ rfl (.slice ao rn cp) rn (rcells rs) (blk ao) rfl (qby ao rn cp) (HD.o1.fr2 ((Fr.refl [] _).alloc _)).own (some ⟨wd.heap.size,0,none⟩) 1 1 [.int .i64 x,.int .u32 0,.int .i64 0] (by first|rfl|simp) (qae _) (λh=>by cases h) (qhz _ _ _ _ _) rfl (one3 (by rfl) (by rfl) (by rfl)) (by omega) (by unfold maxLen;omega) ?_;intro ao2 cp2 w2 hap;have HA:=zhd ((HD.o1.fr2 ((Fr.refl [] _).alloc _)).app hap);clear hap);go_meet;have:=HN1.out;refine⟨n1,1,ao2,rn+1,cp2,rs++[(x,0,0)],rfl,rfl,by omega,λ_=>qae _,by rw[qab,HD.o3];rfl,by rw[qdn];exact HA.out,?_⟩;have h1:=RunsOk.add HD.o2 (r:=(x,0,0)) (.inl ⟨hx15,rfl,rfl⟩);have h2:=qzg (ls.take i) x 0 hx15;rw[show outD (ls.take i) x 0=ls.take i from by simp[outD]]at h2;rwa [h2]at h1
      ·obtain rfl:x=0:=by omega
       go_wp2;go_meet;exact⟨n,0,ao,rn,cp,rs,rfl,rfl,rfl,λh=>absurd h (by omega),HD.o3,HD.o1,by rw[show outD (ls.take i) 0 0=ls.take i from by simp[outD]];exact HD.o2⟩
     case rest=>
     obtain⟨rem,d,ao,rn,cp,rs,rfl,rfl,hrd,hd1,hrn,hm,hro⟩:=hcut;have HR:=zhd5 hrd hd1 hrn hm hro;have hremb:rem≤100000:=by omega
     clear hrd hd1 hrn hm hro hrnb;go_wp2;go_loopg [3,5,7,62,72] rem (λk s3 s5 s7 s62 s72 wz=>∃(d:Nat) (ao:Option Addr) (rn cp:Nat) (rs:List Rn),s5 = .int .i64 (k:Nat)∧s3 = .slice ao rn cp∧k+d=n∧(0<x→1≤d)∧rn=rs.length∧Made w wz 344 3 ao rn cp (rcells rs)∧RunsOk [] rs (outD (ls.take i) x d));case atStart=>exact⟨d,ao,rn,cp,rs,rfl,rfl,HR.out⟩
     case round=>
      obtain⟨d,ao,rn,cp,rs,rfl,rfl,hrd,hd1,hrn,hm,hro⟩:=hrel;have hrnb:rn≤200000:=by have:=hro.len;rw[qpg,qaq]at this;have:=H.out.2.1;simp only[qbi]at *;omega
      have hgk:gk≤100000:=by omega
      have HZ:=zhd5 hrd hd1 hrn hm hro;clear hrd hd1 hrn hm hro;by_cases h3:3≤gk
      ·by_cases hx0:0<x
       ·by_cases h6:6<gk
        ·obtain⟨m,hm⟩:=zex (6-3);obtain⟨q,hq⟩:=zex (gk-6);have em:((6:Nat):Int)-3=(m:Int):=by omega
         have eq:(gk:Int)-((6:Nat):Int)=(q:Int):=by omega
         have hmb:m≤1000:=by omega
         have hq1:q<gk:=by omega
         have HM:=zhd2 hm hq;clear hm hq;go_wp2_with (refine qba runTy rfl _ _ rfl (.slice ao rn cp) rn (rcells rs) (blk ao) rfl (qby ao rn cp) (HZ.out.2.2.2.1.fr2 ((Fr.refl [] _).alloc _)).own (some ⟨wr.heap.size,0,none⟩) 1 1 [.int .i64 16,.int .u32 3,.int .i64 2] (by first|rfl|simp) (qae _) (λh=>by cases h) (qhz _ _ _ _ _) rfl (one3 (by rfl) (by rfl) (by rfl)) (by omega) (by unfold maxLen;omega) ?_;intro ao2 cp2 w2 hap;have HA:=zhd ((HZ.out.2.2.2.1.fr2 ((Fr.refl [] _).alloc _)).app hap);clear hap);go_roundg q;case measure=>exact hq1
         case rel=>obtain⟨hrd,hd1,hrn,hmm,hro⟩:=HZ.out;obtain⟨hm,hq⟩:=HM.out;refine⟨d+6,ao2,rn+1,cp2,rs++[(16,3,2)],by go_num,rfl,by omega,λh=>by omega,by rw[qab,hrn];rfl,by rw[qdn];exact HA.out,?_⟩;have h1:=RunsOk.add hro (r:=(16,3,2)) (.inr (.inl ⟨rfl,by show 3<4;omega,rfl,qxu _ _ _ (hd1 (by omega))⟩));have h2:=zdx (ls.take i) x d 6 (hd1 (by omega)) (by omega);rw[h2]at h1;exact h1
        ·obtain⟨m,hm⟩:=zex (gk-3);obtain⟨q,hq⟩:=zex (gk-gk);have em:((gk:Nat):Int)-3=(m:Int):=by omega
         have eq:(gk:Int)-((gk:Nat):Int)=(q:Int):=by omega
         have hmb:m≤1000:=by omega
         have hq1:q<gk:=by omega
         have HM:=zhd2 hm hq;clear hm hq;go_wp2_with (refine qba runTy rfl _ _ rfl (.slice ao rn cp) rn (rcells rs) (blk ao) rfl (qby ao rn cp) (HZ.out.2.2.2.1.fr2 ((Fr.refl [] _).alloc _)).own (some ⟨wr.heap.size,0,none⟩) 1 1 [.int .i64 16,.int .u32 m,.int .i64 2] (by first|rfl|simp) (qae _) (λh=>by cases h) (qhz _ _ _ _ _) rfl (one3 (by rfl) (by rfl) (by rfl)) (by omega) (by unfold maxLen;omega) ?_;intro ao2 cp2 w2 hap;have HA:=zhd ((HZ.out.2.2.2.1.fr2 ((Fr.refl [] _).alloc _)).app hap);clear hap);go_roundg q;case measure=>exact hq1
         case rel=>obtain⟨hrd,hd1,hrn,hmm,hro⟩:=HZ.out;obtain⟨hm,hq⟩:=HM.out;refine⟨d+gk,ao2,rn+1,cp2,rs++[(16,m,2)],by go_num,rfl,by omega,λh=>by omega,by rw[qab,hrn];rfl,by rw[qdn];exact HA.out,?_⟩;have h1:=RunsOk.add hro (r:=(16,m,2)) (.inr (.inl ⟨rfl,by show m<4;omega,rfl,qxu _ _ _ (hd1 (by omega))⟩));have h2:=zdx (ls.take i) x d gk (hd1 (by omega)) (by omega);rw[<-hm]at h2;rw[h2]at h1;exact h1
       ·obtain rfl:x=0:=by omega
        by_cases h11:gk<11
        ·by_cases h6:6<gk
         ·obtain⟨m,hm⟩:=zex (gk-3);obtain⟨q,hq⟩:=zex (gk-gk);have em:((gk:Nat):Int)-3=(m:Int):=by omega
          have eq:(gk:Int)-((gk:Nat):Int)=(q:Int):=by omega
          have hmb:m≤1000:=by omega
          have hq1:q<gk:=by omega
          have HM:=zhd2 hm hq;clear hm hq;go_wp2_with (refine qba runTy rfl _ _ rfl (.slice ao rn cp) rn (rcells rs) (blk ao) rfl (qby ao rn cp) (HZ.out.2.2.2.1.fr2 ((Fr.refl [] _).alloc _)).own (some ⟨wr.heap.size,0,none⟩) 1 1 [.int .i64 17,.int .u32 m,.int .i64 3] (by first|rfl|simp) (qae _) (λh=>by cases h) (qhz _ _ _ _ _) rfl (one3 (by rfl) (by rfl) (by rfl)) (by omega) (by unfold maxLen;omega) ?_;intro ao2 cp2 w2 hap;have HA:=zhd ((HZ.out.2.2.2.1.fr2 ((Fr.refl [] _).alloc _)).app hap);clear hap);go_roundg q;case measure=>exact hq1
          case rel=>obtain⟨hrd,hd1,hrn,hmm,hro⟩:=HZ.out;obtain⟨hm,hq⟩:=HM.out;refine⟨d+gk,ao2,rn+1,cp2,rs++[(17,m,3)],by go_num,rfl,by omega,λh=>by omega,by rw[qab,hrn];rfl,by rw[qdn];exact HA.out,?_⟩;have h1:=RunsOk.add hro (r:=(17,m,3)) (.inr (.inr (.inl ⟨rfl,by show m<8;omega,rfl⟩)));have h2:=zdw (ls.take i) d gk (by omega);rw[<-hm]at h2;rw[h2]at h1;exact h1
         ·obtain⟨m,hm⟩:=zex (gk-3);obtain⟨q,hq⟩:=zex (gk-gk);have em:((gk:Nat):Int)-3=(m:Int):=by omega
          have eq:(gk:Int)-((gk:Nat):Int)=(q:Int):=by omega
          have hmb:m≤1000:=by omega
          have hq1:q<gk:=by omega
          have HM:=zhd2 hm hq;clear hm hq;go_wp2_with (refine qba runTy rfl _ _ rfl (.slice ao rn cp) rn (rcells rs) (blk ao) rfl (qby ao rn cp) (HZ.out.2.2.2.1.fr2 ((Fr.refl [] _).alloc _)).own (some ⟨wr.heap.size,0,none⟩) 1 1 [.int .i64 17,.int .u32 m,.int .i64 3] (by first|rfl|simp) (qae _) (λh=>by cases h) (qhz _ _ _ _ _) rfl (one3 (by rfl) (by rfl) (by rfl)) (by omega) (by unfold maxLen;omega) ?_;intro ao2 cp2 w2 hap;have HA:=zhd ((HZ.out.2.2.2.1.fr2 ((Fr.refl [] _).alloc _)).app hap);clear hap);go_roundg q;case measure=>exact hq1
          case rel=>obtain⟨hrd,hd1,hrn,hmm,hro⟩:=HZ.out;obtain⟨hm,hq⟩:=HM.out;refine⟨d+gk,ao2,rn+1,cp2,rs++[(17,m,3)],by go_num,rfl,by omega,λh=>by omega,by rw[qab,hrn];rfl,by rw[qdn];exact HA.out,?_⟩;have h1:=RunsOk.add hro (r:=(17,m,3)) (.inr (.inr (.inl ⟨rfl,by show m<8;omega,rfl⟩)));have h2:=zdw (ls.take i) d gk (by omega);rw[<-hm]at h2;rw[h2]at h1;exact h1
        ·have h6:6<gk:=by omega
         by_cases h138:138<gk
         ·obtain⟨m,hm⟩:=zex (138-11);obtain⟨q,hq⟩:=zex (gk-138);have em:((138:Nat):Int)-11=(m:Int):=by omega
          have eq:(gk:Int)-((138:Nat):Int)=(q:Int):=by omega
          have hmb:m≤1000:=by omega
          have hq1:q<gk:=by omega
          have HM:=zhd2 hm hq;clear hm hq;go_wp2_with (refine qba runTy rfl _ _ rfl (.slice ao rn cp) rn (rcells rs) (blk ao) rfl (qby ao rn cp) (HZ.out.2.2.2.1.fr2 ((Fr.refl [] _).alloc _)).own (some ⟨wr.heap.size,0,none⟩) 1 1 [.int .i64 18,.int .u32 127,.int .i64 7] (by first|rfl|simp) (qae _) (λh=>by cases h) (qhz _ _ _ _ _) rfl (one3 (by rfl) (by rfl) (by rfl)) (by omega) (by unfold maxLen;omega) ?_;intro ao2 cp2 w2 hap;have HA:=zhd ((HZ.out.2.2.2.1.fr2 ((Fr.refl [] _).alloc _)).app hap);clear hap);go_roundg q;case measure=>exact hq1
          case rel=>obtain⟨hrd,hd1,hrn,hmm,hro⟩:=HZ.out;obtain⟨hm,hq⟩:=HM.out;refine⟨d+138,ao2,rn+1,cp2,rs++[(18,127,7)],by go_num,rfl,by omega,λh=>by omega,by rw[qab,hrn];rfl,by rw[qdn];exact HA.out,?_⟩;have h1:=RunsOk.add hro (r:=(18,127,7)) (.inr (.inr (.inr ⟨rfl,by show 127<128;omega,rfl⟩)));have h2:=zdv (ls.take i) d 138 (by omega);rw[h2]at h1;exact h1
         ·obtain⟨m,hm⟩:=zex (gk-11);obtain⟨q,hq⟩:=zex (gk-gk);have em:((gk:Nat):Int)-11=(m:Int):=by omega
          have eq:(gk:Int)-((gk:Nat):Int)=(q:Int):=by omega
          have hmb:m≤1000:=by omega
          have hq1:q<gk:=by omega
          have HM:=zhd2 hm hq;clear hm hq;go_wp2_with (refine qba runTy rfl _ _ rfl (.slice ao rn cp) rn (rcells rs) (blk ao) rfl (qby ao rn cp) (HZ.out.2.2.2.1.fr2 ((Fr.refl [] _).alloc _)).own (some ⟨wr.heap.size,0,none⟩) 1 1 [.int .i64 18,.int .u32 m,.int .i64 7] (by first|rfl|simp) (qae _) (λh=>by cases h) (qhz _ _ _ _ _) rfl (one3 (by rfl) (by rfl) (by rfl)) (by omega) (by unfold maxLen;omega) ?_;intro ao2 cp2 w2 hap;have HA:=zhd ((HZ.out.2.2.2.1.fr2 ((Fr.refl [] _).alloc _)).app hap);clear hap);go_roundg q;case measure=>exact hq1
          case rel=>obtain⟨hrd,hd1,hrn,hmm,hro⟩:=HZ.out;obtain⟨hm,hq⟩:=HM.out;refine⟨d+gk,ao2,rn+1,cp2,rs++[(18,m,7)],by go_num,rfl,by omega,λh=>by omega,by rw[qab,hrn];rfl,by rw[qdn];exact HA.out,?_⟩;have h1:=RunsOk.add hro (r:=(18,m,7)) (.inr (.inr (.inr ⟨rfl,by show m<128;omega,rfl⟩)));have h2:=zdv (ls.take i) d gk (by omega);rw[<-hm]at h2;rw[h2]at h1;exact h1
      ·obtain⟨rem,hrem⟩:=zex gk;rw[<-hrem];have hr3:rem<3:=by omega
       have HRM:=zhd hrem;clear hrem h3;go_wp2;go_loopg [3,87] rem (λk s3 s87 wz=>∃(t:Nat) (ao:Option Addr) (rn cp:Nat) (rs:List Rn),s87 = .int .i64 (t:Nat)∧s3 = .slice ao rn cp∧t+k=rem∧rn=rs.length∧Made w wz 344 3 ao rn cp (rcells rs)∧RunsOk [] rs (outD (ls.take i) x (d+t)));case atStart=>exact⟨0,ao,rn,cp,rs,rfl,rfl,by omega,HZ.out.2.2.1,HZ.out.2.2.2.1,HZ.out.2.2.2.2⟩
       case round=>
        obtain⟨t,ao,rn,cp,rs,rfl,rfl,htk,hrn,hm,hro⟩:=hrel;by_cases ht:t<rem
        ·obtain⟨k2,rfl⟩:∃k2,gk=k2+1:=⟨gk-1,by omega⟩;have hrnb:rn≤300000:=by have:=hro.len;rw[qpg,qaq]at this;have:=H.out.2.1;have:=HZ.out.1;simp only[qbi]at *;omega
         have HY:=zhd4 htk hrn hm hro;clear htk hrn hm hro;go_wp2_with (refine qba runTy rfl _ _ rfl (.slice ao rn cp) rn (rcells rs) (blk ao) rfl (qby ao rn cp) (HY.out.2.2.1.fr2 ((Fr.refl [] _).alloc _)).own (some ⟨wr.heap.size,0,none⟩) 1 1 [.int .i64 x,.int .u32 0,.int .i64 0] (by first|rfl|simp) (qae _) (λh=>by cases h) (qhz _ _ _ _ _) rfl (one3 (by rfl) (by rfl) (by rfl)) (by omega) (by unfold maxLen;omega) ?_;intro ao2 cp2 w2 hap;have HA:=zhd ((HY.out.2.2.1.fr2 ((Fr.refl [] _).alloc _)).app hap);clear hap);go_roundg k2;case measure=>omega
         case rel=>obtain⟨htk,hrn,hm,hro⟩:=HY.out;refine⟨t+1,ao2,rn+1,cp2,rs++[(x,0,0)],by go_num,rfl,by omega,by rw[qab,hrn];rfl,by rw[qdn];exact HA.out,?_⟩;have h1:=RunsOk.add hro (r:=(x,0,0)) (.inl ⟨hx15,rfl,rfl⟩);rw[qzg (ls.take i) x (d+t) hx15]at h1;exact h1
        ·obtain rfl:t=rem:=by omega
         have HY:=zhd3 hrn hm hro;clear htk hrn hm hro;go_wp2;go_roundg (N-y);case measure=>have:=HD.o4;have:=HD.l5;omega
         case rel=>obtain⟨hrn,hm,hro⟩:=HY.out;refine⟨y,ao,rn,cp,rs,rfl,rfl,rfl,hyN,hrn,hm,?_⟩;rw[HD.o0,show n=d+t from by have:=HZ.out.1;have:=HRM.out;omega];exact hro
  ·obtain rfl:i=N:=by omega
   have HY:=zhd3 hrn hm hro;clear hk hrn hm hro;go_wp2;go_ret;obtain⟨hrn,hm,hro⟩:=HY.out;rw[qbd (by rw[<-H.out.2.1];exact qae _)]at hro;exact⟨ao,rn,cp,rs,rfl,hrn,hm,hro⟩
def rbits (cl:List Nat) (r:Rn):List Bool:=sbits cl r.1++lsb r.2.2 r.2.1
structure Told (ll dl:List Nat) (nl nd nc:Nat) (cl:List Nat) (rs:List Rn) (b:List Bool):Prop where
 enl:nl=cutN ll 257 ll.length
 ennd:nd=cutN dl 1 dl.length
 runs:RunsOk [] rs (ll.take nl++dl.take nd)
 clen:cl.length=19
 cle:∀l∈cl,l≤7
 full:weight cl=32768
 used:∀r∈rs,0<lenAt cl r.1
 nc4:4≤nc
 nc19:nc≤19
 rest:∀i,nc≤i→i<19→lenAt cl (ord i)=0
 bits:b=lsb 5 (nl-257)++lsb 5 (nd-1)++lsb 4 (nc-4)++((List.range nc).flatMap λi=>lsb 3 (lenAt cl (ord i)))++rs.flatMap (rbits cl)
theorem qh7:∀{rs:List Rn} {out fin:List Nat},RunsOk out rs fin→∀r∈rs,r.1≤18∧r.2.1<128∧r.2.2≤7
 | [],_,_,_,r,hr=>by cases hr
 | x::rs,out,fin,h,r,hr=>by
  rcases qbh.1 hr with e|e
  ·subst e;rcases h.1 with k|k|k|k<;>omega
  ·exact qh7 h.2 r e
def tolist (F:Nat→Nat):List Nat:=(List.range 19).map F
theorem qfi (F:Nat→Nat) {s:Nat} (h:s<19):lenAt (tolist F) s=F s:=by simp[lenAt,tolist,h]
def rcnt (rs:List Rn) (s:Nat):Nat:=(rs.map (·.1)).count s
theorem qxk (rs:List Rn) (s:Nat):rcnt rs s≤rs.length:=by have:=qr0 (a:=s) (l:=rs.map (·.1));rwa [qap]at this
theorem zbj (rs:List Rn) (r:Rn) (s:Nat):rcnt (rs++[r]) s=if s=r.1 then rcnt rs s+1 else rcnt rs s:=by
 unfold rcnt;rw[qbe,qfs];by_cases h:s=r.1
 ·subst h;simp
 ·rw[if_neg h];simp[qdx h]
theorem ql4 (cs:List Nat) (i:Nat):(symsTo cs i).length≤i:=by have:=qfd (λs=>decide (0<lenAt cs s)) (List.range i);rwa [qh3]at this
theorem qea (cs:List Nat) (i:Nat):(symsTo cs (i+1)).length=(symsTo cs i).length+if 0<lenAt cs i then 1 else 0:=by rw[qiu];split<;>simp
theorem ql2 {F G:Nat→Nat} {s:Nat} (hs:s<19) (h0:F s=0) (h1:0<G s) (h:∀j,j<19→j≠s→F j=G j):∀i,i≤19→(symsTo (tolist G) i).length=(symsTo (tolist F) i).length+if s<i then 1 else 0
 | 0,_=>by simp[symsTo]
 | i+1,hi=>by
  have ih:=ql2 hs h0 h1 h i (by omega);rw[qea,qea,ih,qfi G (by omega),qfi F (by omega)];by_cases e:i=s
  ·subst e;simp[h0,h1]
  ·have hFG:=h i (by omega) e;rw[hFG];by_cases e2:s<i
   ·have e3:s<i+1:=by omega
    simp only[e2,e3,if_true];omega
   ·have e3:¬s<i+1:=by omega
    simp only[e2,e3,if_false];omega
theorem qnx {F:Nat→Nat}:∀i,i≤19→(∀j,j<i→0<F j)→(symsTo (tolist F) i).length=i
 | 0,_,_=>by simp[symsTo]
 | i+1,hi,h=>by rw[qea,qnx i (by omega) λj hj=>h j (by omega),qfi F (by omega),if_pos (h i (by omega))]
theorem ql3 (cs:List Nat):∀k i,(symsTo cs i).length≤(symsTo cs (i+k)).length
 | 0,i=>qae _
 | k+1,i=>by rw[<-qcb,qea];have:=ql3 cs k i;omega
theorem qp3 {w w':World} {e:TypeId} {size:Nat} {ao:Option Addr} {len cap:Nat} {xs:List Value} (h:Appended w w' e size [] ao len cap xs):Made w w' e size ao len cap xs:=
 ⟨h.own,h.fr,λx hx=>(h.at_ x hx).elim (λk=>absurd k (by simp)) (λk=>Nat.le_of_eq k.symm),h.le,h.max,h.nil⟩
theorem flat3 (f:Nat→List Bool) (hf:∀i,(f i).length=3):∀t,((List.range t).flatMap f).length=t*3
 | 0=>rfl
 | t+1=>by rw[List.range_succ,qf9,qab,flat3 f hf t];simp only[qcl,List.flatMap_nil,qbr,hf t];omega
theorem qpu {α:Type} (f:α→List Bool) (C:Nat):∀l:List α,(∀x∈l,(f x).length≤C)→(l.flatMap f).length≤l.length*C
 | [],_=>by simp
 | x::l,h=>by
  have h1:=qpu f C l λy hy=>h y (qcf _ hy)
  have h2:=h x qcd;simp only[qcl,qab,qao,qc8];omega
structure TE (O g8 g9:Nat) (ao:Option Addr) (rn cp:Nat) (cl:List Nat) (rs:List Rn) (w:World):Prop where
 o:w.heap[O]?=some (.cells (ordL.map λx=>Value.int .i64 (x:Nat)).toArray 287 (0,0))
 r:Ri w (some ⟨g8,0,none⟩) 19 cl
 u:U32 w g9 (codesOf cl)
 row:w.ownsRow 0 344 3 (.slice ao rn cp) rn (rcells rs)
theorem TE.fr {O g8 g9:Nat} {ao:Option Addr} {rn cp:Nat} {cl:List Nat} {rs:List Rn} {w w':World} {S:List Nat} (h:TE O g8 g9 ao rn cp cl rs w) (f:Fr S w w') (hn:∀x∈[O,g8,g9]++blk ao,x∉S):TE O g8 g9 ao rn cp cl rs w':=
 ⟨f.blk h.o (hn O (by simp)),qiq h.r f (λx hx=>hn x (by simp only[qbu];left;simp[blk]at hx;simp[hx])),Cs.fr h.u f (λx hx=>hn x (by simp only[qbu];left;simp[blk]at hx;simp[hx])),
  qa7 h.row f (λk hk=>hn k (by
   simp only[qbu];right
   cases ao with
   | none=>cases hk
   | some ad=>simp only[Value.ownBlock,qaw]at hk;subst hk;simp[blk]))⟩
theorem TE.ord {O g8 g9:Nat} {ao:Option Addr} {rn cp:Nat} {cl:List Nat} {rs:List Rn} {w:World} (h:TE O g8 g9 ao rn cp cl rs w) {i:Nat} (hi:i<19):w.cell? ⟨O,i,none⟩=some (.int .i64 (ord i:Nat)):=by
 rw[cell_of h.o];have hl:i<ordL.length:=by simp[ordL];omega
 simp[defl.ord,qai hl]
theorem TE.len {O g8 g9:Nat} {ao:Option Addr} {rn cp:Nat} {cl:List Nat} {rs:List Rn} {w:World} (h:TE O g8 g9 ao rn cp cl rs w) {i:Nat} (hi:i<cl.length):w.cell? ⟨g8,i,none⟩=some (.int .i64 (lenAt cl i:Nat)):=by obtain⟨g,o,e,hc⟩:=h.r.at hi;simp only[qaw,qcz,and_true]at e;obtain⟨rfl,rfl⟩:=e;rw[qbg]at hc;rw[hc,lenAt,qai hi];rfl
theorem TE.code {O g8 g9:Nat} {ao:Option Addr} {rn cp:Nat} {cl:List Nat} {rs:List Rn} {w:World} (h:TE O g8 g9 ao rn cp cl rs w) {i:Nat} (hi:i<cl.length):w.cell? ⟨g9,i,none⟩=some (.int .u32 (codeAt cl i:Nat)):=by obtain⟨g',o',e',hc'⟩:=h.u.at (by simp[codesOf];omega);simp only[qaw,qcz,and_true]at e';obtain⟨rfl,rfl⟩:=e';have:=hc' i (.int .u32 (codeAt cl i:Nat)) (by rw[qbl,qks hi];rfl);simpa using this
theorem za0 (p:Nat) (F:List Nat) (l:List Bool) (bV lV:Value) (a1 a2:Option Addr) (c1 c2:Nat) (ll dl:List Nat) (told:Bool) (w:World) (hb1:bV.oneCell'=true) (hl1:lV.oneCell'=true)
  (h1:Ri w a1 c1 ll) (h2:Ri w a2 c2 dl) (hW:Wb w p F l) (n1:ll.length=286) (n2:dl.length=30) (hle1:∀x∈ll,x≤15) (hle2:∀x∈dl,x≤15) (hL:l.length≤562949953000000)
  (hF:∀x∈F,x<w.heap.size∧x∉blk a1∧x∉blk a2) :
  Calls Tryz.prog 244 #[.agg #[bV,lV,.slice a1 286 c1,.slice a2 30 c2,.bool told],.pointer (some ⟨p,0,none⟩)] w λe w'=>e = .returned (.tuple #[])∧Fr F w w'∧
   ∃nl nd nc cl rs b,Told ll dl nl nd nc cl rs b∧∃F',Wb w' p F' (l++b)∧∀y∈F',y∈F∨w.heap.size≤y:=by
 obtain⟨B,hB⟩:=zex w.heap.size;obtain⟨w1,hw1⟩:=zex (w.alloc (.cells #[bV,lV,.slice a1 286 c1,.slice a2 30 c2,.bool told] 197 (0,0)));have f1:Fr [] w w1:=by rw[hw1];exact (Fr.refl [] w).alloc _
 have hbox:w1.heap[B]?=some (.cells #[bV,lV,.slice a1 286 c1,.slice a2 30 c2,.bool told] 197 (0,0)):=by rw[hw1,hB];exact qay w _
 have hc1:=qzm a1 c1 ll 257 w1.drew (h1.fr (f1.trans (Fr.drew1 [] w1))) (by omega) (by decide);have hc2:=qzm a2 c2 dl 1 w1.drew (h2.fr (f1.trans (Fr.drew1 [] w1))) (by omega) (by decide);obtain⟨nl,hnl⟩:=zex (cutN ll 257 ll.length);obtain⟨nd,hnd⟩:=zex (cutN dl 1 dl.length);rw[<-hnl,n1]at hc1;rw[<-hnd,n2]at hc2;have hd1:Calls Tryz.prog 248 #[.slice a1 286 c1,.int .i64 257] w1.drew λe w'=>e = .returned (.slice a1 nl c1)∧w'=w1.drew:=hc1
 have hd2:Calls Tryz.prog 248 #[.slice a2 30 c2,.int .i64 1] w1.drew λe w'=>e = .returned (.slice a2 nd c2)∧w'=w1.drew:=hc2
 have hnl1:257≤nl:=by rw[hnl];exact qnd _ _ _ (by omega)
 have hnl2:nl≤286:=by rw[hnl,<-n1];exact qi0 _ _ _
 have hnd1:1≤nd:=by rw[hnd];exact qnd _ _ _ (by omega)
 have hnd2:nd≤30:=by rw[hnd,<-n2];exact qi0 _ _ _
 have e2:=cell_of hbox 2;have e3:=cell_of hbox 3;simp only[qag,qac,qaf]at e2 e3;have H:=zhd9 h1 h2 hW n1 n2 hle1 hle2 hL hF;have HC:=zhd2 hd1 hd2;have HN:=zhd4 hnl hnd f1 hB;have HW:=zhd hw1.symm;clear h1 h2 hW n1 n2 hle1 hle2 hL hF hc1 hc2 hd1 hd2 hnl hnd f1 hw1 hbox;go_enter Tryz.func244,Tryz.ntmps244;go_upto_region 1 with fail;rw[HW.out,<-HN.l3];clear hB;refine qcu 6 (by kernel_rfl) (by kernel_rfl) ?_;simp only[qah,qan,qad,qaj];iterate 3 (go_big_quiet_step (exact HC.o0 _))
 iterate 3 (go_big_quiet_step (exact HC.l1 _))
 refine wpQuiet_nil ?_;clear e2 e3;obtain⟨Z,hz,hZ,mk⟩:=qmx 19 (by decide);have mk19:∀w:World,(Instr.makeSlice 28 (.int .i64 19) (.int .i64 19)).run Tryz.prog w = .ok (.slice (some ⟨w.heap.size,0,none⟩) 19 19) (w.alloc (.cells Z 3)):=mk;clear mk;have HZ:=zhd2 hz hZ;clear hz hZ;have r1:=Ri.take (H.o0.fr (HN.o2.trans (Fr.drew1 [] w1))) nl;have r2:=Ri.take (H.o1.fr (HN.o2.trans (Fr.drew1 [] w1))) nd;have tl1:(ll.take nl).length=nl:=by rw[qaq,H.o3];omega
 have tl2:(dl.take nd).length=nd:=by rw[qaq,H.o4];omega
 have HT:=zhd4 r1 r2 tl1 tl2;clear r1 r2 tl1 tl2;go_upto_region 2 with fail;go_upto_region 3 with (first
  | (refine qba qdd rfl _ _ rfl (.slice none 0 0) 0 [] [] rfl rfl (Made.none _ _ _).own a1 nl c1 (ints (ll.take nl)) rfl (by have:=HT.o0.le;have:=HT.o2;omega) HT.o0.nil HT.o0.cs (by rw[qm3,HT.o2,qce]) (qlm _) (by omega) (by unfold maxLen;omega) ?_;intro ao2 cp2 w2 hap;rw[qbg,qb4]at hap;rw[qbg];have HA:=zhd (qp3 hap);clear hap)
  | (refine qba qdd rfl _ _ rfl (.slice ao2 nl cp2) nl (ints (ll.take nl)) (blk ao2) rfl (qby ao2 nl cp2) HA.out.own a2 nd c2 (ints (dl.take nd)) rfl (by have:=HT.o1.le;have:=HT.l3;omega) HT.o1.nil (HT.o1.fr HA.out.fr).cs (by rw[qm3,HT.l3,qce]) (qlm _) (by omega) (by unfold maxLen;omega) ?_;intro ao3 cp3 w3 hap;have HA3:=zhd (HA.out.app hap);clear hap)
  | (go_at_call 249;have hrr:=zbe ao3 cp3 (ll.take nl++dl.take nd) w3 (qpb (by have h3:=HA3.out;rwa [show ints (ll.take nl)++ints (dl.take nd)=ints (ll.take nl++dl.take nd) from by simp[ints]]at h3) (by rw[qab,HT.o2,HT.l3])) (by rw[qab,HT.o2,HT.l3];omega) (λx hx=>(qbu.1 hx).elim (λk=>H.o5 x (qb7 k)) (λk=>H.o6 x (qb7 k)));rw[qab,HT.o2,HT.l3]at hrr;refine hrr.mono ?_;rintro e w4 ⟨ao4,rn,cp4,rs,rfl,hrn,hmd,hok⟩;have HR:=zhd3 hrn hmd hok;clear hrn hmd hok hrr))
 have HW4:Hid (Fr [] w w4):=zhd ((HN.o2.trans (Fr.drew1 [] w1)).trans (HA3.out.fr.trans HR.out.2.1.fr));obtain⟨Q,hQ⟩:=zex w4.heap.size;obtain⟨w5,hw5⟩:=zex (w4.alloc (.cells Z 3));have HQ:Hid (Ow w5 Q 19 (λ_=>0)∧Fr [] w4 w5):=zhd ⟨⟨Z,by rw[hw5,hQ];exact qay w4 _,HZ.o0,HZ.l1⟩,by rw[hw5];exact (Fr.refl [] w4).alloc _⟩;have hrnb:rn≤400:=by have:=HR.out.2.2.len;rw[qab,HT.o2,HT.l3,<-HR.out.1]at this;simp at this;omega
 have HQQ:=zhd2 hQ hw5;clear hQ hw5;go_upto_region 4 with fail;rw[<-HQQ.l1,<-HQQ.o0];clear mk19;go_wp2;go_loopg [9,38] rn (λk s9 s38 wr=>∃t:Nat,s38 = .int .i64 (t:Nat)∧t+k=rn∧Ow wr Q 19 (rcnt (rs.take t))∧Fr [Q] w5 wr);case atStart=>exact⟨0,rfl,by omega,HQ.out.1.congr λs _=>by simp[rcnt],.refl _ _⟩
 case round=>
  obtain⟨t,rfl,htk,how,hf⟩:=hrel;by_cases ht:t<rn
  ·obtain⟨k,rfl⟩:∃k,gk=k+1:=⟨gk-1,by omega⟩;obtain⟨g4,rfl,_,_⟩:=qg9 HR.out.2.1.own (by omega);obtain⟨r,hr⟩:∃r,rs[t]?=some r:=⟨_,qai (by rw[<-HR.out.1];exact ht)⟩;have hs18:=(qh7 HR.out.2.2 r (qa8 hr)).1;have hgQ:g4≠Q:=by have:=HR.out.2.1.lt g4 (by simp[blk]);rw[HQQ.o0];omega
   have hrow:=qa7 (qa7 HR.out.2.1.own HQ.out.2 (by simp)) hf (by simpa[Value.ownBlock] using hgQ);have hd:=qmk rs t r hr;obtain⟨rs1,rs2,rs3⟩:=r;simp only at hs18 hd;have d0:wr.cell? ⟨g4,t*3,none⟩=some (.int .i64 rs1):=by rw[<-hd.1];exact qco hrow _ (by omega)
   have d1:wr.cell? ⟨g4,t*3+1,none⟩=some (.int .u32 rs2):=by rw[<-hd.2.1];exact qco hrow _ (by omega)
   have d2:wr.cell? ⟨g4,t*3+2,none⟩=some (.int .i64 rs3):=by rw[<-hd.2.2];exact qco hrow _ (by omega)
   have fA:Fr [] wr (wr.alloc (.cells #[.int .i64 rs1,.int .u32 rs2,.int .i64 rs3] 344 (0,0))):=(Fr.refl [] wr).alloc _;have d3:=(how.fr fA (by simp)).cell (show rs1<19 by omega);have z3:=(how.fr fA (by simp)).frozen rs1;obtain⟨G,hG⟩:=zex (rcnt (rs.take t) rs1);have hGb:G≤1000:=by rw[hG];have:=qxk (rs.take t) rs1;rw[qaq]at this;omega
   rw[<-hG]at d3;have hset:=(how.fr fA (by simp)).set (show rs1<19 by omega) (G+1);have fS:Fr [Q] w5 ((wr.alloc (.cells #[.int .i64 rs1,.int .u32 rs2,.int .i64 rs3] 344 (0,0))).setCell ⟨Q,rs1,none⟩ (.int .i64 ((G+1:Nat):Nat))):=(hf.alloc _).setCell (by simp) _;have htake:rs.take (t+1)=rs.take t++[(rs1,rs2,rs3)]:=by rw[qh2,hr];rfl
   have HJ:=zhd5 hset fS hG htake htk;clear how hf hr hrow hd fA hset fS hG htake htk;go_wp2;go_roundg k;case measure=>omega
   case rel=>
    obtain⟨hset,fS,hG,htake,htk⟩:=HJ.out;refine⟨t+1,by go_num,by omega,?_,fS⟩;rw[htake];refine hset.congr λs _=>?_
    rw[zbj,hG];by_cases e:s=rs1
    ·rw[if_pos e,if_pos e,e]
    ·rw[if_neg e,if_neg e]
  ·obtain rfl:t=rn:=by omega
   rw[qbd (by rw[<-HR.out.1];exact qae _)]at how;obtain⟨w6,hw6⟩:∃w6:World,w6=wr:=⟨_,rfl⟩;rw[<-hw6]at how hf ⊢;obtain⟨F0,hF0⟩:=zex (rcnt rs);rw[<-hF0]at how;have hFb:∀s,F0 s≤400:=λs=>by rw[hF0];have:=qxk rs s;rw[<-HR.out.1]at this;omega
   have H6:=zhd4 how hf hFb hF0;clear how hf htk hw6 hFb hF0;go_wp2;go_loopg [10,12,52] 19 (λk s10 s12 s52 wz=>∃t m:Nat,s52 = .int .i64 (t:Nat)∧s10 = .int .i64 (m:Nat)∧t+k=19∧m=(symsTo (tolist F0) t).length∧w6=wz);case atStart=>exact⟨0,0,rfl,rfl,rfl,rfl,rfl⟩
   case round=>
    obtain⟨t2,m,rfl,rfl,htk,hm,rfl⟩:=hrel;have hmb:m≤t2:=by rw[hm];exact ql4 _ _
    by_cases ht:t2<19
    ·obtain⟨k,rfl⟩:∃k,gk=k+1:=⟨gk-1,by omega⟩;have d3:=H6.o0.cell ht;have hb:=H6.o2 t2;obtain⟨v,hv⟩:=zex (F0 t2);rw[<-hv]at d3 hb;have hsu:=qea (tolist F0) t2;rw[qfi F0 ht,<-hv,<-hm]at hsu;have HJ:=zhd2 hsu htk;clear hsu htk hm hv;by_cases hv0:0<v
     ·go_wp2;go_roundg k;case measure=>omega
      case rel=>exact⟨t2+1,m+1,by go_num,by go_num,by have:=HJ.out.2;omega,by rw[HJ.out.1,if_pos hv0],rfl⟩
     ·obtain rfl:v=0:=by omega
      go_wp2;go_roundg k;case measure=>omega
      case rel=>exact⟨t2+1,m,by go_num,rfl,by have:=HJ.out.2;omega,by rw[HJ.out.1];simp,rfl⟩
    ·obtain rfl:t2=19:=by omega
     have HM:=zhd hm;clear hm htk ht;go_wp2;go_loopg [10,13] 19 (λk s10 s13 wz=>∃(i m:Nat) (Fc:Nat→Nat),s13 = .int .i64 (i:Nat)∧s10 = .int .i64 (m:Nat)∧i+k=19∧m=(symsTo (tolist Fc) 19).length∧Ow wz Q 19 Fc∧(∀s,s<19→Fc s≤400)∧(∀s,0<F0 s→0<Fc s)∧(∀j,j<i→0<Fc j)∧Fr [Q] w6 wz);case atStart=>exact⟨0,m,F0,rfl,rfl,rfl,HM.out,H6.o0,λs _=>H6.o2 s,λ_ h=>h,λj hj=>absurd hj (by omega),.refl _ _⟩
     case round=>
      obtain⟨i,m,Fc,rfl,rfl,hik,hm,how,hFb,hpos,hall,hf⟩:=hrel;have hmb:m≤19:=by rw[hm];exact ql4 _ _
      by_cases hm2:m<2
      ·have hi2:i<2:=by
        have h1:=qnx (F:=Fc) (min i 19) (by omega) λj hj=>hall j (by omega)
        have h2:=ql3 (tolist Fc) (19-min i 19) (min i 19);rw[show min i 19+(19-min i 19)=19 from by omega,<-hm,h1]at h2;omega
       obtain⟨k,rfl⟩:∃k,gk=k+1:=⟨gk-1,by omega⟩;have hi19:i<19:=by omega
       have d3:=how.cell hi19;have z3:=how.frozen i;have hb:=hFb i hi19;obtain⟨v,hv⟩:=zex (Fc i);rw[<-hv]at d3 hb;by_cases hv0:v=0
       ·subst hv0;have hset:=how.set hi19 1;have HJ:=zhd8 hset hik hm hFb hpos hall hf hv;clear hset hik hm hFb hpos hall hf hv how;go_wp2;go_roundg k;case measure=>omega
        case rel=>
         obtain⟨hset,hik,hm,hFb,hpos,hall,hf,hv⟩:=HJ.out;refine⟨i+1,m+1,_,by go_num,by go_num,by omega,?_,hset,λs hs=>?_,λs hs=>?_,λj hj=>?_,hf.setCell (by simp) _⟩
         ·rw[ql2 (F:=Fc) (s:=i) hi19 hv.symm (by simp) (λj _ hj=>by simp[hj]) 19 (qae _),if_pos hi19,hm]
         ·split
          ·omega
          ·exact hFb s hs
         ·split
          ·omega
          ·exact hpos s hs
         ·split
          ·omega
          ·exact hall j (by omega)
       ·have q:((v:Int)==0)=false:=by simp only[beq_eq_false_iff_ne];omega
        have HJ:=zhd8 how hik hm hFb hpos hall hf hv;clear how hik hm hFb hpos hall hf hv;go_wp2;go_roundg k;case measure=>omega
        case rel=>
         obtain⟨how,hik,hm,hFb,hpos,hall,hf,hv⟩:=HJ.out;refine⟨i+1,m,Fc,by go_num,rfl,by omega,hm,how,hFb,hpos,λj hj=>?_,hf⟩;rcases qb8 j i with k1|k1
         ·exact hall j k1
         ·rw[show j=i from by omega,<-hv];omega
      ·have tl:(tolist Fc).length=19:=by simp[tolist]
       have hmem:∀c∈tolist Fc,c≤2^30:=λc hc=>by simp only[tolist,qcj,qdq]at hc;obtain⟨s,hs,rfl⟩:=hc;have:=hFb s hs;omega
       have hri:Ri wr (some ⟨Q,0,none⟩) 19 (tolist Fc):=⟨how.cs,by rw[tl];exact qae _,by unfold maxLen;omega,λh=>by cases h⟩;have hlen:=qf5 (some ⟨Q,0,none⟩) 19 (tolist Fc) 7 wr hri (by decide) (by decide) (by rw[tl];decide) hmem (by rw[tl];have:=ql4 (tolist Fc) 19;omega);rw[tl]at hlen;have hlen':Calls Tryz.prog 130 #[.slice (some ⟨Q,0,none⟩) 19 19,.int .i64 7] wr (LensGood 7 (tolist Fc) 19 wr):=hlen;have HJ:=zhd4 hlen' (show 2≤(symsTo (tolist Fc) (tolist Fc).length).length by rw[tl];omega) hpos hf;clear hlen hlen' hri hmem hm hpos hall hf how hFb hik tl;go_upto_region 23 with (go_at_call 130;refine HJ.out.1.mono ?_;rintro e w8 ⟨g8,cl,rfl,ok8,cs8,lo8,hi8,f8⟩;have H8:=zhd5 ok8 cs8 lo8 hi8 f8;clear ok8 cs8 lo8 hi8 f8);have hcl19:cl.length=19:=by rw[H8.o0.len];simp[tolist]
       have hfull:=H8.o0.full HJ.out.2.1;have hri2:Ri w8 (some ⟨g8,0,none⟩) 19 cl:=⟨H8.o1,by rw[hcl19];exact qae _,by unfold maxLen;omega,λh=>by cases h⟩;have hcd:=qjw (some ⟨g8,0,none⟩) 19 cl w8 hri2 (λx hx=>by have:=H8.o0.le x hx;omega) (by rw[hcl19];decide) (by rw[hfull];exact qae _);unfold CodesGood at hcd;rw[hcl19]at hcd;have H8b:=zhd4 hcd hri2 hcl19 hfull;clear hcd hri2 hcl19 hfull;go_upto_region 24 with (go_at_call 205;refine H8b.o0.mono ?_;rintro e w9 ⟨g9,rfl,u9,lo9,hi9,f9⟩;have H9:=zhd4 u9 lo9 hi9 f9;clear u9 lo9 hi9 f9);go_cut [18,85] from 85 to 86 (λs18 s85 wz=>∃O:Nat,s18 = .pointer (some ⟨O,0,none⟩)∧wz.heap[O]?=some (.cells (ordL.map λx=>Value.int .i64 (x:Nat)).toArray 287 (0,0))∧Fr [] w9 wz∧w9.heap.size≤O)
       case first=>
        clear H6 HJ H8 H8b H9 HR HM HQ HT HA HA3 HW4 HQQ HC HN HW H HZ;have hinf:(Tryz.prog.info? 287).map (·.size)=some 19:=by kernel_rfl
        go_wp2_with (refine wpList_store_row rfl 287 (.tmp 18) (.tmp 85) rfl w9.heap.size #[.int .i64 16,.int .i64 17,.int .i64 18,.int .i64 0,.int .i64 8,.int .i64 7,.int .i64 9,.int .i64 6,.int .i64 10,.int .i64 5,.int .i64 11,.int .i64 4,.int .i64 12,.int .i64 3,.int .i64 13,.int .i64 2,.int .i64 14,.int .i64 1,.int .i64 15] rfl rfl 287 #[.int .i64 0,.int .i64 0,.int .i64 0,.int .i64 0,.int .i64 0,.int .i64 0,.int .i64 0,.int .i64 0,.int .i64 0,.int .i64 0,.int .i64 0,.int .i64 0,.int .i64 0,.int .i64 0,.int .i64 0,.int .i64 0,.int .i64 0,.int .i64 0,.int .i64 0] (heap_alloc_last w9 _) hinf rfl (by kernel_rfl) ?_;rw[World.setRow_alloc_new]);simp only[Act.put];go_meet;exact⟨w9.heap.size,rfl,qay w9 _,(Fr.refl [] w9).alloc _,qae _⟩
       case rest=>
       obtain⟨O,rfl,hO,f10,hO9⟩:=hcut;obtain⟨w10,hw10⟩:∃w10:World,w10=wc:=⟨_,rfl⟩;rw[<-hw10]at hO f10 ⊢;clear hw10;have hcl19:=H8b.o2;have fQ7:Fr [Q] w4 w8:=((HQ.out.2.mono (by simp)).trans (H6.o1.trans HJ.out.2.2.2)).trans (H8.l4.mono (by simp));have f810:Fr [] w8 w10:=H9.l3.trans f10;have te:TE O g8 g9 ao4 t cp4 cl rs w10:=by
        refine⟨hO,H8b.o1.fr f810,Cs.fr H9.o0 f10 (by simp),qa7 (qa7 HR.out.2.1.own fQ7 ?_) f810 (by simp)⟩;intro k hk;have hb:k∈blk ao4:=by
         cases ao4 with
         | none=>cases hk
         | some ad=>simp only[Value.ownBlock,qaw]at hk;subst hk;simp[blk]
        have:=HR.out.2.1.lt k hb;rw[<-HQQ.o0]at this;simp;omega
       have fw10:Fr [] w w10:=(HW4.out.step fQ7 (λx hx=>.inr (by simp at hx;rw[hx,HQQ.o0];exact HW4.out.size))).trans f810;have hEl:∀x∈[O,g8,g9]++blk ao4,w.heap.size≤x∧x<w10.heap.size:=by
        intro x hx;have h8:=H8.o2;have h8':=H8.o3;have h9:=H9.o1;have h9':=H9.o2;have s10:=f10.size;have s9:=H9.l3.size;have s4:=HW4.out.size;have s8:=fQ7.size;have s68:=(HJ.out.2.2.2.trans (H8.l4.mono (by simp))).size;have s46:=((HQ.out.2.mono (T:=[Q]) (by simp)).trans H6.o1).size;have sw7:=HJ.out.2.2.2.size;simp only[qbu,qbh,qcw,or_false]at hx;rcases hx with (rfl|rfl|rfl)|hx
        ·have:=lt_of_block hO;omega
        ·omega
        ·omega
        ·have h1:=HR.out.2.1.lt x hx;have h2:=HR.out.2.1.new x hx;have h3:=(((HN.o2.trans (Fr.drew1 [] w1)).trans HA3.out.fr)).size;omega
       have HE:=zhd3 te fw10 hEl;have HCL:Hid (Told ll dl nl nd 19 cl rs (lsb 5 (nl-257)++lsb 5 (nd-1)++lsb 4 (19-4)++((List.range 19).flatMap λi=>lsb 3 (lenAt cl (ord i)))++rs.flatMap (rbits cl))):=zhd (by
        refine⟨HN.o0,HN.o1,HR.out.2.2,hcl19,H8.o0.le,H8b.l3,λr hr=>?_,by decide,qae _,λi h1 h2=>absurd h1 (by omega),rfl⟩
        have hr18:=(qh7 HR.out.2.2 r hr).1
        have h0:0<F0 r.1:=by
         rw[H6.l3]
         exact List.count_pos_iff.2 (List.mem_map_of_mem hr)
        have h1:=HJ.out.2.2.1 r.1 h0
        exact H8.o0.pos r.1 (by rw[qfi Fc (by omega)];exact h1))
       have HRN:Hid (t=rs.length):=zhd HR.out.1;have HF0:=zhd H.l8;have HWb:Hid (Wb w10 p F l):=zhd (qj5 H.o2 fw10 (by simp));have HLL:=zhd H.o7;clear te fw10 hEl fQ7 f810 hO f10 hO9 H6 HJ H8 H8b H9 HR HM HQ HT HA HA3 HW4 HQQ HC HN HW H HZ;go_wp2;go_loopg [19] 15 (λk s19 wz=>∃nc:Nat,s19 = .int .i64 (nc:Nat)∧nc=k+4∧nc≤19∧(∀i,nc≤i→i<19→lenAt cl (ord i)=0)∧w10=wz);case atStart=>exact⟨19,rfl,rfl,qae _,λi h1 h2=>absurd h1 (by omega),rfl⟩
       case round=>
        obtain⟨nc,rfl,hnk,hn19,hz0,rfl⟩:=hrel;have key:(4<nc∧lenAt cl (ord (nc-1))=0)∨(4<nc∧lenAt cl (ord (nc-1))≠0)∨nc=4:=by omega
        rcases key with⟨h4,hv⟩|hstop
        ·obtain⟨q,hq⟩:=zex (nc-1);have e1:(nc:Int)-1=(q:Int):=by omega
         rw[<-hq]at hv;have d1:=HE.o0.ord (show q<19 by omega);have hol:=qt3 q;obtain⟨y,hy⟩:=zex (ord q);rw[<-hy]at d1 hol hv;have d2:=HE.o0.len (show y<cl.length by omega);rw[hv]at d2;have hq19:q<19:=by omega
         have HJ:=zhd5 hq hy hv hz0 hnk;clear hq hy hv hz0 hnk;go_wp2;go_roundg (gk-1);case measure=>have:=HJ.out.2.2.2.2;omega
         case rel=>
          obtain⟨hq,hy,hv,hz0,hnk⟩:=HJ.out;refine⟨q,by go_num,by omega,by omega,λi h1 h2=>?_,rfl⟩;rcases qb8 i nc with k1|k1
          ·rw[show i=q from by omega,<-hy];exact hv
          ·exact hz0 i k1 h2
        ·have HNC:Hid (4≤nc∧∀i,nc≤i→i<19→lenAt cl (ord i)=0):=zhd ⟨by omega,hz0⟩;have hnc4:4≤nc:=by omega
         clear hz0;have hk4:(4<nc→lenAt cl (ord (nc-1))≠0):=by omega
         have HST:=zhd hk4;clear hstop hk4 hnk;go_upto_region 26 with fail;go_cut [97] from 86 to 98 (λs97 wz=>s97 = .bool false∧w10=wz)
         case first=>
          by_cases h4:4<nc
          ·obtain⟨q,hq⟩:=zex (nc-1);have e1:(nc:Int)-1=(q:Int):=by omega
           have hv:=HST.out h4;rw[<-hq]at hv;have d1:=HE.o0.ord (show q<19 by omega);have hol:=qt3 q;obtain⟨y,hy⟩:=zex (ord q);rw[<-hy]at d1 hol hv;have d2:=HE.o0.len (show y<cl.length by omega);obtain⟨v,hvv⟩:=zex (lenAt cl y);rw[<-hvv]at d2 hv;have hq19:q<19:=by omega
           have q1:((v:Int)==0)=false:=by simp only[beq_eq_false_iff_ne];omega
           clear hq hy hvv;go_wp2;go_meet;exact⟨rfl,rfl⟩
          ·obtain rfl:nc=4:=by omega
           go_wp2;go_meet;exact⟨rfl,rfl⟩
         case rest=>
         obtain⟨rfl,rfl⟩:=hcut;have hEF:∀x∈[O,g8,g9]++blk ao4,x∉F:=λx hx hxF=>by have h1:=(HE.l2 x hx).1;have h2:=(HF0.out x hxF).1;omega
         have HEF:=zhd hEF;clear hEF;obtain⟨k1,hk1⟩:=zex (nl-257);obtain⟨k2,hk2⟩:=zex (nd-1);obtain⟨k3,hk3⟩:=zex (nc-4);have e1:(nl:Int)-257=(k1:Int):=by omega
         have e2:(nd:Int)-1=(k2:Int):=by omega
         have e3:(nc:Int)-4=(k3:Int):=by omega
         have b1:k1≤100:=by omega
         have b2:k2≤100:=by omega
         have b3:k3≤100:=by omega
         have HK:=zhd3 hk1 hk2 hk3;clear hk1 hk2 hk3;have hp1:Calls Tryz.prog 247 #[.pointer (some ⟨p,0,none⟩),.int .u32 k1,.int .i64 5] w10 (WbPost p F w10 (l++lsb 5 k1)):=qsf p F l k1 5 w10 HWb.out (by omega) (by decide) (by have:=HLL.out;omega);have HP1:=zhd hp1;clear hp1;go_upto_region 29 with (go_at_call 247;refine HP1.out.mono ?_;rintro e w11 ⟨rfl,f11,g11⟩;have H11:=zhd (Pg.step (Pg.start HWb.out) f11 g11);clear f11 g11);obtain⟨F11,hq11⟩:=H11.out;have hp2:Calls Tryz.prog 247 #[.pointer (some ⟨p,0,none⟩),.int .u32 k2,.int .i64 5] w11 (WbPost p F11 w11 ((l++lsb 5 k1)++lsb 5 k2)):=qsf p F11 _ k2 5 w11 hq11.wb (by omega) (by decide) (by rw[qab,lsb_length];have:=HLL.out;omega);have HP2:=zhd hp2;have HQ11:=zhd hq11;clear hp2 hq11;go_upto_region 30 with (go_at_call 247;refine HP2.out.mono ?_;rintro e w12 ⟨rfl,f12,g12⟩;have H12:=zhd (Pg.step HQ11.out f12 g12);clear f12 g12);obtain⟨F12,hq12⟩:=H12.out;have hp3:Calls Tryz.prog 247 #[.pointer (some ⟨p,0,none⟩),.int .u32 k3,.int .i64 4] w12 (WbPost p F12 w12 (((l++lsb 5 k1)++lsb 5 k2)++lsb 4 k3)):=qsf p F12 _ k3 4 w12 hq12.wb (by omega) (by decide) (by rw[qab,qab,lsb_length,lsb_length];have:=HLL.out;omega);have HP3:=zhd hp3;have HQ12:=zhd hq12;clear hp3 hq12;go_upto_region 31 with (go_at_call 247;refine HP3.out.mono ?_;rintro e w13 ⟨rfl,f13,g13⟩;have H13:=zhd (Pg.step HQ12.out f13 g13);clear f13 g13);obtain⟨F13,hq13⟩:=H13.out;obtain⟨L3,hL3⟩:=zex (((l++lsb 5 k1)++lsb 5 k2)++lsb 4 k3);rw[<-hL3]at hq13;have hL3b:L3.length=l.length+14:=by rw[hL3];simp only[qab,lsb_length]
         have HQ13:=zhd3 hq13 hL3 hL3b;have hsl:=qqg O nc hn19;clear hq13 hL3 hL3b e1 e2 e3;go_wp2;go_loopg [21,120] nc (λk s21 s120 wz=>∃(t:Nat) (F':List Nat),s120 = .int .i64 (t:Nat)∧t+k=nc∧Pg p F w10 (L3++(List.range t).flatMap λi=>lsb 3 (lenAt cl (ord i))) F' wz);case atStart=>exact⟨0,F13,rfl,by omega,by simpa using HQ13.o0⟩
         case round=>
          obtain⟨t2,F',rfl,htk,hpg⟩:=hrel;by_cases ht:t2<nc
          ·obtain⟨k,rfl⟩:∃k,gk=k+1:=⟨gk-1,by omega⟩;have te:=HE.o0.fr hpg.fr HEF.out;have d1:=te.ord (show t2<19 by omega);have hol:=qt3 t2;obtain⟨y,hy⟩:=zex (ord t2);rw[<-hy]at d1 hol;have d2:=te.len (show y<cl.length by omega);obtain⟨v,hvv⟩:=zex (lenAt cl y);have hv7:v≤7:=by rw[hvv];exact HCL.out.cle _ (qfj (by omega))
           rw[<-hvv]at d2;have hlen3:((List.range t2).flatMap λi=>lsb 3 (lenAt cl (ord i))).length=t2*3:=flat3 _ (λi=>lsb_length _ _) t2;have hput:Calls Tryz.prog 247 #[.pointer (some ⟨p,0,none⟩),.int .u32 v,.int .i64 3] wr (WbPost p F' wr ((L3++(List.range t2).flatMap λi=>lsb 3 (lenAt cl (ord i)))++lsb 3 v)):=qsf p F' _ v 3 wr hpg.wb (by omega) (by decide) (by rw[qab,hlen3,HQ13.l2];have:=HLL.out;omega);have HJ:=zhd5 hput hpg hy hvv htk;clear hput hpg hy hvv htk te hlen3;go_wp2_with (go_at_call 247;refine HJ.out.1.mono ?_;rintro e w14 ⟨rfl,f14,g14⟩;have H14:=zhd (Pg.step HJ.out.2.1 f14 g14);clear f14 g14);go_roundg k;case measure=>omega
           case rel=>obtain⟨F14,h14⟩:=H14.out;obtain⟨_,_,hy,hvv,htk⟩:=HJ.out;refine⟨t2+1,F14,by go_num,by omega,?_⟩;rw[List.range_succ,qf9,<-qas];simp only[qcl,List.flatMap_nil,qbr];rw[<-hy,<-hvv];exact h14
          ·obtain rfl:t2=nc:=by omega
           obtain⟨L4,hL4⟩:=zex (L3++(List.range t2).flatMap λi=>lsb 3 (lenAt cl (ord i)));rw[<-hL4]at hpg;have hL4b:L4.length≤l.length+100:=by rw[hL4,qab,flat3 _ (λi=>lsb_length _ _) t2,HQ13.l2];omega
           have HQ4:=zhd3 hpg hL4 hL4b;clear hpg hL4 hL4b htk ht hsl;go_wp2;go_loopg [23,134] t (λk s23 s134 wz=>∃(t3:Nat) (F':List Nat),s134 = .int .i64 (t3:Nat)∧t3+k=t∧Pg p F w10 (L4++(rs.take t3).flatMap (rbits cl)) F' wz);case atStart=>exact⟨0,_,rfl,by omega,by simpa using HQ4.o0⟩
           case round=>
            obtain⟨t3,F',rfl,htk,hpg⟩:=hrel;by_cases ht:t3<t
            ·obtain⟨k,rfl⟩:∃k,gk=k+1:=⟨gk-1,by omega⟩;have te:=HE.o0.fr hpg.fr HEF.out;obtain⟨g4,rfl,_,_⟩:=qg9 te.row (by omega);obtain⟨r,hr⟩:∃r,rs[t3]?=some r:=⟨_,qai (by rw[<-HRN.out];exact ht)⟩;have hsy:=qh7 HCL.out.runs r (qa8 hr);have hd:=qmk rs t3 r hr;have htake:(rs.take (t3+1)).flatMap (rbits cl)=(rs.take t3).flatMap (rbits cl)++rbits cl r:=by rw[qh2,hr];simp
             obtain⟨ra,rb,rc⟩:=r;simp only at hsy hd;have d0:wr.cell? ⟨g4,t3*3,none⟩=some (.int .i64 ra):=by rw[<-hd.1];exact qco te.row _ (by omega)
             have d1:wr.cell? ⟨g4,t3*3+1,none⟩=some (.int .u32 rb):=by rw[<-hd.2.1];exact qco te.row _ (by omega)
             have d2:wr.cell? ⟨g4,t3*3+2,none⟩=some (.int .i64 rc):=by rw[<-hd.2.2];exact qco te.row _ (by omega)
             obtain⟨S0,hS0⟩:=zex wr.heap.size;obtain⟨W1,hW1⟩:∃W1,W1=wr.alloc (.cells #[.int .i64 (ra:Nat),.int .u32 (rb:Nat),.int .i64 (rc:Nat)] 344 (0,0)):=⟨_,rfl⟩;have fA:Fr [] wr W1:=by rw[hW1];exact (Fr.refl [] wr).alloc _
             have hblk:W1.heap[S0]?=some (.cells #[.int .i64 ra,.int .u32 rb,.int .i64 rc] 344 (0,0)):=by rw[hW1,hS0];exact qay wr _
             have hSF:S0∉F':=λhx=>by have:=qu4 hpg.wb S0 hx;omega
             have te1:=te.fr fA (by simp);have hra:ra<cl.length:=by omega
             have x1:=te1.len hra;have x2:=te1.code hra;have y0:=cell_of hblk 0;have y1:=cell_of hblk 1;have y2:=cell_of hblk 2;simp only[qag,qac,qaf]at y0 y1 y2;have hle15:∀x∈cl,x≤15:=λx hx=>by have:=HCL.out.cle x hx;omega
             have hflen:((rs.take t3).flatMap (rbits cl)).length≤400*30:=by
              have hb:∀r∈rs,(rbits cl r).length≤30:=λr hr=>by have h1:=qeb cl hle15 r.1;have h2:=(qh7 HCL.out.runs r hr).2.2;unfold rbits;rw[qab,lsb_length];omega
              have h3:=qpu (rbits cl) 30 (rs.take t3) λr hr=>hb r (qb7 hr)
              rw[qaq]at h3;have h4:min t3 rs.length*30≤400*30:=qcr _ (by omega);omega
             have hcode:=qrm p F' _ cl ra W1.drew (qj5 hpg.wb (fA.trans (Fr.drew1 [] W1)) (by simp)) hle15 (by rw[HCL.out.full];exact qae _) (by rw[qab];have:=HQ4.l2;have:=HLL.out;omega);obtain⟨xc,hxc⟩:=zex (codeAt cl ra);obtain⟨xl,hxl⟩:=zex (lenAt cl ra);rw[<-hxc]at x2 hcode;rw[<-hxl]at x1 hcode;have hra19:ra<19:=by omega
             have HJ:=zhd10 hcode hpg fA hblk hSF htake htk hsy hflen hle15;have HS:=zhd2 hS0 hW1;clear hcode hpg fA hblk hSF htake htk hsy hflen hle15 te te1 hr hd hxc hxl hS0 hW1;go_upto_region 39 with fail;rw[<-HS.l1,<-HS.o0];clear d0 d1 d2;refine qcu 11 (by kernel_rfl) (by kernel_rfl) ?_;simp only[qah,qan,qad,qaj];repeat (go_big_quiet_step (fail))
             refine wpQuiet_nil ?_;clear x1 x2 y0 y1 y2;go_upto_region 40 with (go_at_call 246;refine HJ.out.1.mono ?_;rintro e w15 ⟨rfl,f15,g15⟩;have H15:=zhd2 f15 (Pg.step (HJ.out.2.1.fr0 (HJ.out.2.2.1.trans (Fr.drew1 [] W1))) f15 g15);clear f15 g15);obtain⟨F15,hp15⟩:=H15.out.2;have hb15:=H15.out.1.blk (w:=W1.drew) HJ.out.2.2.2.1 HJ.out.2.2.2.2.1;have y1:=cell_of hb15 1;have y2:=cell_of hb15 2;simp only[qag,qac,qaf]at y1 y2;have hput:=qsf p F15 _ rb rc w15 hp15.wb (by have:=HJ.out.2.2.2.2.2.2.2.1;omega) (by have:=HJ.out.2.2.2.2.2.2.2.1;omega) (by rw[qab,qab];have:=HQ4.l2;have:=HLL.out;have:=HJ.out.2.2.2.2.2.2.2.2.1;have:=qeb cl HJ.out.2.2.2.2.2.2.2.2.2 ra;omega);have HP15:=zhd2 hput hp15;clear hput hp15 hb15;go_wp2_with (go_at_call 247;refine HP15.o0.mono ?_;rintro e w16 ⟨rfl,f16,g16⟩;have H16:=zhd (Pg.step HP15.l1 f16 g16);clear f16 g16);go_roundg k;case measure=>omega
             case rel=>obtain⟨F16,h16⟩:=H16.out;obtain⟨_,_,_,_,_,htake,htk,_⟩:=HJ.out;refine⟨t3+1,F16,by go_num,by omega,?_⟩;rw[htake,<-qas];unfold rbits;rw[<-qas];exact h16
            ·obtain rfl:t3=t:=by omega
             rw[qbd (by rw[HRN.out];exact qae _)]at hpg;have HJ:=zhd hpg;clear hpg htk;go_wp2;(try simp only[Exit.inBlock,Exit.then]);refine bodyPost_end (results_none rfl _ _ _) rfl ?_;have hq:=HJ.out;refine⟨rfl,(HE.o1.mono (by simp)).trans hq.fr,nl,nd,t2,cl,rs,_,{ HCL.out with nc4:=HNC.out.1,nc19:=hn19,rest:=HNC.out.2,bits:=rfl },_,?_,λy hy=>(hq.new y hy).imp id λk=>qar HE.o1.size k⟩;have h3:=hq.wb;rw[HQ4.o1,HQ13.o1]at h3;rw[<-HK.o0,<-HK.o1,<-HK.l2];simpa only[qas] using h3
end Go.Proofs.YtkmpfgpfbmeihaaGreatDoor.defl
