/-
  Texts of this proof, one behind the other: DeltaApp, RsFin, RsClone, RsIdx, RsSt, RsStart.
-/
import Derived.Test.YtkmpfgpfbmeihaaGreatDoorQ19
set_option maxHeartbeats 16000000
set_option maxRecDepth 100000
set_option linter.unusedVariables false
set_option linter.unusedSimpArgs false
namespace Go.Proofs.YtkmpfgpfbmeihaaGreatDoor
namespace delta
open Go Go.RowKit lib bm
theorem Kk (x:Nat) (h:x<256):bits .and .u8 ((x:Nat):Int) 1=((x%2:Nat):Int):=by
 have h1:∀x:Fin 256,bits .and .u8 (x.1:Int) 1=((x.1%2:Nat):Int):=by decide +kernel
 exact h1 ⟨x,h⟩
theorem II (i:Nat):256^(i+1)=256*256^i:=by rw[pH,mf]
theorem qu8 (n x i:Nat) (hi:i<4) (hn:n<256^i) (hx:x<256):∃m,(m=n+x*256^i/\m<256^(i+1))/\m<4294967296/\bits .or .i64 (n:Int) (wrap64 ((x:Int)*2^(8*i)))=(m:Int):=by
 have hp:2^(8*i)=256^i:=by rw[Nat.pow_mul]
 have h4:256^i<=256^3:=kh (by decide) (by omega);have e4:256^3=16777216:=by decide
 have iu:0<256^i:=Nat.pow_pos (by decide);have h1:x*256^i<=255*256^i:=uN _ (by omega);have h5:=II i;refine⟨n+x*256^i,⟨rfl,by omega⟩,by omega,?_⟩;have e:wrap64 ((x:Int)*2^(8*i))=((x*2^(8*i):Nat):Int):=by
  have:(x:Int)*2^(8*i)=((x*2^(8*i):Nat):Int):=by rw[C6,Bh];rfl
  rw[this,hp];generalize x*256^i=y at *;simp only[wrap64];omega
 rw[e,ze8 n x (8*i) (by rw[hp];exact hn) (by rw[hp];omega) (by omega),hp]
theorem Vy {op f i p n:Nat} {d:LB} (h:op/2^i%2=0):pl op (f+1) i p n d=pl op f (i+1) p n d:=by cases d<;>simp[pl,h]
theorem ze4 {op f i p n:Nat} (h:op/2^i%2=1):pl op (f+1) i p n []=none:=by simp[pl,h]
theorem R7 {op f i p n:Nat} {c:UInt8} {r:LB} (h:op/2^i%2=1):pl op (f+1) i p n (c::r)=if i<4 then pl op f (i+1) (p+c.toNat*256^i) n r else pl op f (i+1) p (n+c.toNat*256^(i-4)) r:=by simp[pl,h]
def CP (w:World) (op:Nat) (a0:OA) (cap:Nat) (d:LB) (e:Ending) (w':World):Prop:=
 w=w'/\((pl op 7 0 0 0 d=none/\e = .returned (.tuple #[.int .i64 0,.int .i64 0,.slice none 0 0,.bool false]))\/
  ∃p n r a c,pl op 7 0 0 0 d=some (p,n,r)/\e = .returned (.tuple #[.int .i64 (p:Nat),.int .i64 (n:Nat),.slice a r.length c,.bool true])/\(∀wz,Rd wz a0 cap d->Rd wz a c r)/\p<4294967296/\n<=16777216)
theorem qyt (op:Nat) (a:OA) (cap:Nat) (d:LB) (w:World) (ur:op<256) (h:Rd w a cap d):Calls Tryz.prog 138 #[.int .u8 op,.slice a d.length cap] w (CP w op a cap d):=by
 have H0:=ah h;clear h;go_enter Tryz.func138,Tryz.ntmps138;go_wp2;go_loopg [1,4,5,8,9] 7 (λk s1 s4 s5 s8 s9 wr=>∃i p n a' c r,i+k=7/\s9 = .int .i64 (i:Nat)/\s4 = .int .i64 (p:Nat)/\s5 = .int .i64 (n:Nat)/\s1 = .slice a' r.length c/\(∀wz,Rd wz a cap d->Rd wz a' c r)/\(i<=4->p<256^i)/\p<4294967296/\n<256^(i-4)/\pl op k i p n r=pl op 7 0 0 0 d/\w=wr);case atStart=>exact⟨0,0,0,a,cap,d,rfl,rfl,rfl,rfl,rfl,λ_ h=>h,λ_=>by decide,by decide,by decide,rfl,rfl⟩
 case round=>
  obtain⟨i,p,n,ar,cr,r,hi,rfl,rfl,rfl,rfl,ku,Jh,hp,hn,fY,rfl⟩:=hrel;have hr:=ku w H0.out;have rB:=hr.le;have H:=ah hr;have Rr:=ah ku;clear ku;have xm:n<16777216:=by
   have:256^(i-4)<=256^3:=kh (by decide) (by omega);have e:256^3=16777216:=by decide
   omega
  have HP:=ak Jh hn;have dK:=hr.max;unfold maxLen at dK;clear hr Jh hn;by_cases hi7:i<7
  ·obtain⟨k,rfl⟩:∃k,gk=k+1:=⟨gk-1,by omega⟩;have hb:=Kk (op/2^i) (Dj (Nat.div_le_self _ _) ur);have hq:((op/2^i:Nat):Int)=(op:Int)/2^i:=by rw[Ib,Bh];rfl
   rw[hq]at hb;clear hq;by_cases hbit:op/2^i%2=0
   ·rw[Vy hbit]at fY;rw[hbit]at hb;have uE:=ah fY;clear fY hbit;go_wp2;go_roundg k;case measure=>omega
    case rel=>exact⟨i+1,p,n,ar,cr,r,by omega,by go_num,rfl,rfl,rfl,Rr.out,λh=>eW (HP.out.1 (by omega)) (kh (by decide) (by omega)),hp,eW HP.out.2 (kh (by decide) (by omega)),uE.out,rfl⟩
   ·have Ci:op/2^i%2=1:=by omega
    rw[Ci]at hb;have uE:=ak Ci fY;clear fY hbit Ci;cases r with
    | nil=>
     go_wp2;refine bodyPost_ret (Lt rfl _ _ _) rfl ?_;exact⟨rfl,.inl ⟨by rw[<-uE.out.2,ze4 uE.out.1],rfl⟩⟩
    | cons x t=>
     obtain⟨g,o,rfl,hc⟩:=H.out.at (i:=0) (by simp);have hx:x.toNat<256:=iL x;simp only[ie,List.getElem_cons_zero]at hc;obtain⟨xn,OB⟩:=ai x.toNat;rw[<-OB]at hc hx;have HX:=ah OB;simp only[bU]at rB;clear OB;by_cases hi4:i<4
     ·obtain⟨m,hm,B3,vq⟩:=qu8 p xn i hi4 (HP.out.1 (by omega)) hx;have HM:=ah hm;clear hm;go_wp2_with (refine vY aq 1 rfl _ _ rfl (some ⟨g,o,none⟩) (t.length+1) cr _ rfl rfl rfl (by omega) (by omega) ?_);go_roundg k;case measure=>omega
      case rel=>have fY:=uE.out.2;rw[R7 uE.out.1,if_pos hi4,<-HX.out,<-HM.out.1]at fY;exact⟨i+1,m,n,_,_,t,by omega,by go_num,rfl,rfl,rfl,λwz hz=>(Rr.out wz hz).drop 1 (by simp),λ_=>HM.out.2,B3,eW HP.out.2 (kh (by decide) (by omega)),fY,rfl⟩
     ·obtain⟨j,hj⟩:∃j,i=j+4:=⟨i-4,by omega⟩;have mO:(i:Int)-4=(j:Int):=by omega
      obtain⟨m,hm,B3,vq⟩:=qu8 n xn j (by omega) (by have:=HP.out.2;rw[hj]at this;simpa using this) hx;have HM:=ah hm;have HJ:=ah hj;clear hm hj;go_wp2_with (refine vY aq 1 rfl _ _ rfl (some ⟨g,o,none⟩) (t.length+1) cr _ rfl rfl rfl (by omega) (by omega) ?_);go_roundg k;case measure=>omega
      case rel=>
       have fY:=uE.out.2;have e:i-4=j:=by omega
       rw[R7 uE.out.1,if_neg hi4,<-HX.out,e,<-HM.out.1]at fY;exact⟨i+1,p,m,_,_,t,by omega,by go_num,rfl,rfl,rfl,λwz hz=>(Rr.out wz hz).drop 1 (by simp),λh=>by omega,hp,by rw[show i+1-4=j+1 from by omega];exact HM.out.2,fY,rfl⟩
  ·obtain rfl:i=7:=by omega
   obtain rfl:gk=0:=by omega
   have uE:=ah fY;clear fY;by_cases pL:n=0
   ·subst pL;go_wp2;refine bodyPost_ret (Lt rfl _ _ _) rfl ?_;exact⟨rfl,.inr ⟨p,65536,r,ar,cr,by rw[<-uE.out,pl,if_pos rfl],rfl,Rr.out,hp,by decide⟩⟩
   ·have hb:((n:Int)==0)=false:=by simp;omega
    go_wp2;refine bodyPost_ret (Lt rfl _ _ _) rfl ?_;exact⟨rfl,.inr ⟨p,n,r,ar,cr,by rw[<-uE.out,pl,if_neg pL],rfl,Rr.out,hp,by omega⟩⟩
theorem M7 (op:Nat):∀(f i p n:Nat) (d:LB) (x:Nat×Nat×List UInt8),pl op f i p n d=some x->x.2.2.length<=d.length
 | 0,i,p,n,d,x,h=>by simp[pl]at h;rw[<-h];exact ay _
 | f+1,i,p,n,d,x,h=>by
  by_cases hb:op/2^i%2=0
  ·rw[Vy hb]at h;exact M7 op f _ _ _ _ _ h
  ·have fM:op/2^i%2=1:=by omega
   cases d with
   | nil=>rw[ze4 fM]at h;cases h
   | cons c r=>
    rw[R7 fM]at h;simp only[bU];split at h
    ·have:=M7 op f _ _ _ _ _ h;omega
    ·have:=M7 op f _ _ _ _ _ h;omega
theorem M9 (base:LB) (tn f:Nat) (out:LB):app base tn f [] out=if out.length<tn then ([],3) else (out,0):=by cases f<;>rfl
theorem Ll (base:LB) (tn f:Nat) (c:UInt8) (r out:LB):app base tn (f+1) (c::r) out=if 128<=c.toNat then match pl (c.toNat-128) 7 0 0 0 r with
   | none=>([],4)
   | some (p,n,rest)=>if base.length<p\/base.length-p<n\/tn-out.length<n then ([],3) else app base tn f rest (out++(base.drop p).take n)
  else if c.toNat=0\/tn-out.length<c.toNat then ([],3) else if r.length<c.toNat then ([],4) else app base tn f (r.drop c.toNat) (out++r.take c.toNat):=rfl
def Applied (w:World) (base d:LB) (bound:Int) (e:Ending) (w':World):Prop:=
 ∃a,e = .returned (.tuple #[.slice a (delta.apply base d bound).1.length (delta.apply base d bound).1.length,.int .i64 (delta.apply base d bound).2])/\Rd w' a (delta.apply base d bound).1.length (delta.apply base d bound).1/\
  (∀x∈af a,w.heap.size<=x/\x<w'.heap.size)/\Fr [] w w'
theorem qpj {w w':World} {base d out:LB} {bound:Int} {x:Nat} {a:OA} (h:delta.apply base d bound=(out,x)) (hr:Rd w' a out.length out) (hn:∀x∈af a,w.heap.size<=x/\x<w'.heap.size) (f:Fr [] w w') :
  Applied w base d bound (.returned (.tuple #[.slice a out.length out.length,.int .i64 x])) w':=by
 unfold Applied;rw[h];exact⟨a,rfl,hr,hn,f⟩
theorem Bl {w w':World} {base d:LB} {bound:Int} {x:Nat} (h:delta.apply base d bound=([],x)) (f:Fr [] w w') :
  Applied w base d bound (.returned (.tuple #[.slice none 0 0,.int .i64 x])) w':=qpj (out:=[]) h (Rd.none _) (by simp[af]) f
structure Ap (w wr:World) (base:LB) (tn:Nat) (k:Nat) (r:LB) (out:LB) (a:OA) (c:Nat) (R:List UInt8×Nat):Prop where
 own:wr.ownsRow 0 5 1 (.slice a out.length c) out.length (out.map bv)
 fr:Fr [] w wr
 new:∀x∈af a,w.heap.size<=x
 few:out.length<=tn
 fuel:r.length<=k
 all:app base tn k r out=R
theorem Ap.more {w wr w2:World} {base:LB} {tn k k':Nat} {r r' out news:LB} {a a2:OA} {c c2 m:Nat} {R:List UInt8×Nat} (h:Ap w wr base tn k r out a c R) (hm:news.length=m)
  (A:aV wr w2 5 1 (af a) a2 (out.length+m) c2 (out.map bv++news.map bv)) (hf:out.length+m<=tn) (hr:r'.length<=k') (aD:app base tn k' r' (out++news)=R):Ap w w2 base tn k' r' (out++news) a2 c2 R:=by
 refine⟨by rw[aA,hm,gF];exact A.own,h.fr.step A.fr λy hy=>.inr (h.new y hy),λy hy=>?_,by rw[aA,hm];exact hf,hr,aD⟩;rcases A.at_ y hy with h1|h1
 ·exact h.new y h1
 ·have:=h.fr.size;omega
theorem zbp (a b:OA) (cap Kd:Nat) (base d:LB) (bound:Int) (w:World) (hb:Rd w a cap base) (hd:Rd w b Kd d):Calls Tryz.prog 112 #[.slice a base.length cap,.slice b d.length Kd,.int .i64 bound] w (Applied w base d bound):=by
 have h1:=qye b Kd d w hd;unfold tZ at h1;obtain⟨hto,_⟩:=qux d;have bN:∀x,delta.sizes d=x->delta.apply base d bound=if x.2.2.2≠0 then ([],x.2.2.2) else if x.1≠base.length then ([],3) else if bound.toNat<x.2.1 then ([],5) else app base x.2.1 x.2.2.1.length x.2.2.1 []:=by rintro x rfl;rfl
 generalize delta.sizes d=x at *;have bN:=bN x rfl;obtain⟨n,m,r,e⟩:=x;simp only at h1 hto bN;have zcK:=hb.le;have Ub:=hb.max;unfold maxLen at Ub;have H:=ak h1 hb;have hmx:((bound.toNat:Nat):Int)=if 0>bound then 0 else bound:=by split<;>omega
 generalize bound.toNat=bt at *;have HM:=ah hmx;clear h1 hb hd hmx;by_cases he:e=0
 ·subst he;rw[if_neg (by simp)]at bN;by_cases hn:n=base.length
  ·rw[if_neg (by simp[hn])]at bN;by_cases mE:bt<m
   ·rw[if_pos mE]at bN;have HA:=ah bN;have xq:((n:Int)!=base.length)=false:=by simp[hn]
    clear bN;go_enter Tryz.func112,Tryz.ntmps112;go_wp2_with (first|(go_at_call 137;refine H.o0.mono ?_;rintro e1 w1 ⟨a1,c1,rfl,r1,f1⟩;have H1:=ak r1 f1;clear r1 f1)|(refine FX (bt:Int) rfl _ _ _ rfl bound 0 rfl rfl HM.out ?_));go_ret2;exact Bl HA.out H1.l1
   ·rw[if_neg mE]at bN;obtain⟨R,hR⟩:∃R,app base m r.length r []=R:=⟨_,rfl⟩;rw[hR]at bN;have HA:=ak bN hR;have xq:((n:Int)!=base.length)=false:=by simp[hn]
    have Cj:decide (bt<m)=false:=by simp;omega
    clear bN hR;go_enter Tryz.func112,Tryz.ntmps112;go_upto_block 1 with (first|(go_at_call 137;refine H.o0.mono ?_;rintro e1 w1 ⟨a1,c1,rfl,r1,f1⟩;have H1:=ak r1 f1;clear r1 f1)|(refine FX (bt:Int) rfl _ _ _ rfl bound 0 rfl rfl HM.out ?_));go_wp2;go_loopg [1,11] r.length (λk s1 s11 wr=>∃ar cr q ao co out,s1 = .slice ar q.length cr/\s11 = .slice ao out.length co/\Rd w1 ar cr q/\Ap w1 wr base m k q out ao co R);case atStart=>exact⟨a1,c1,r,none,0,[],rfl,rfl,H1.o0,wM _ _ _ _,Fr.refl _ _,by simp[af],ep _,ay _,HA.out.2⟩
    case round=>
     obtain⟨ar,cr,q,ao,co,out,rfl,rfl,hq,h⟩:=hrel;have HQ:=ah hq;have vg:=hq.le;have O4:=hq.max;unfold maxLen at O4;have mC:=h.few;have GJ:=h.fuel;obtain⟨BS,_⟩:=wK h.own;have Ds:=BS.le;have TH:=BS.max;unfold maxLen at TH;have G:=ah h;clear hq h BS;cases q with
     | nil=>
      have aD:=G.out.all;rw[M9]at aD;by_cases bg:out.length<m
      ·rw[if_pos bg]at aD;have iC:=ah aD;clear aD;go_wp2;go_ret2;exact Bl (by rw[HA.out.1,<-iC.out]) (H1.l1.trans G.out.fr)
      ·rw[if_neg bg]at aD;have iC:=ah aD;clear aD;go_wp2;go_ret2;have h:=G.out;obtain⟨r2,_⟩:=wK h.own;exact qpj (by rw[HA.out.1,<-iC.out]) ⟨r2.cs,ay _,ck r2.le r2.max,λe=>by have:=r2.nil e;omega⟩ (λy hy=>⟨ck H1.l1.size (h.new y hy),rr h.own (qi hy)⟩) (H1.l1.trans h.fr)
     | cons x t=>
      obtain⟨k,rfl⟩:∃k,gk=k+1:=⟨gk-1,by simp at GJ;omega⟩;simp only[bU]at vg GJ;obtain⟨g,o,rfl,hc⟩:=HQ.out.at (i:=0) (by simp);have hc:=G.out.fr.cell hc (by simp);have hx:x.toNat<256:=iL x;simp only[ie,List.getElem_cons_zero]at hc;have aD:=G.out.all;rw[Ll]at aD;have ha:=CN x;have di:=HQ.out.drop 1 (by simp);rw[wO,yf]at di;generalize x.toNat=xn at *;have Ab:=ah di;have nA:∀wz,Fr [] w1 wz->Rd wz (aL (some ⟨g,o,none⟩) cr 1 1) (cr-1) t:=λwz f=>Ab.out.fr f
      obtain⟨at1,Zw⟩:=ai (aL (some ⟨g,o,none⟩) cr 1 1);obtain⟨S,hS⟩:=ai (af ao);have HS:=ah hS;clear di nA hS Zw;by_cases h128:128<=xn
      ·rw[if_pos h128]at aD;rw[show xn%128=xn-128 from by omega]at ha;obtain⟨op,ur⟩:=ai (xn-128);rw[<-ur]at ha aD;have fY:=λw h=>qyt op (aL (some ⟨g,o,none⟩) cr 1 1) (cr-1) t w (by omega) h
       unfold CP at fY;have hlen:=M7 op 7 0 0 0 t;generalize pl op 7 0 0 0 t=y at *;clear ur;cases y with
       | none=>
        have BP:∀w,Rd w (aL (some ⟨g,o,none⟩) cr 1 1) (cr-1) t->Calls Tryz.prog 138 #[.int .u8 op,.slice (aL (some ⟨g,o,none⟩) cr 1 1) t.length (cr-1)] w λe w'=>w=w'/\e = .returned (.tuple #[.int .i64 0,.int .i64 0,.slice none 0 0,.bool false]):=
         λw h=>(fY w h).mono λe w' ⟨h1,h2⟩=>by
          rcases h2 with⟨_,h2⟩|⟨p,n,r,a,c,h3,_⟩
          ·exact⟨h1,h2⟩
          ·cases h3
        have iC:=ah aD;have uE:=ah BP;clear aD fY BP;go_wp2_with (first|(refine vY aq 1 rfl _ _ rfl (some ⟨g,o,none⟩) (t.length+1) cr _ rfl rfl rfl (by omega) (by omega) ?_)|(go_at_call 138;refine (uE.out _ (Ab.out.fr G.out.fr)).mono ?_;rintro e w2 ⟨rfl,rfl⟩));go_ret2;exact Bl (by rw[HA.out.1,<-iC.out]) (H1.l1.trans G.out.fr)
       | some y=>
        obtain⟨p,nn,rest⟩:=y;have BP:∀w,Rd w (aL (some ⟨g,o,none⟩) cr 1 1) (cr-1) t->Calls Tryz.prog 138 #[.int .u8 op,.slice (aL (some ⟨g,o,none⟩) cr 1 1) t.length (cr-1)] w λe w'=>w=w'/\∃a c,e = .returned (.tuple #[.int .i64 (p:Nat),.int .i64 (nn:Nat),.slice a rest.length c,.bool true])/\(∀wz,Rd wz (aL (some ⟨g,o,none⟩) cr 1 1) (cr-1) t->Rd wz a c rest)/\p<4294967296/\nn<=16777216:=
         λw h=>(fY w h).mono λe w' ⟨h1,h2⟩=>by
          rcases h2 with⟨h3,_⟩|⟨p',n',r',a,c,h3,h4,h5⟩
          ·cases h3
          ·cases h3
           exact⟨h1,a,c,h4,h5⟩
        have hlen:=hlen _ rfl;simp only at hlen aD;have uE:=ah BP;clear fY BP;by_cases jf:base.length<p\/base.length-p<nn\/m-out.length<nn
        ·rw[if_pos jf]at aD;have iC:=ah aD;clear aD;by_cases fM:base.length<p
         ·have b1:decide (base.length<p)=true:=by simpa using fM
          clear jf;go_wp2_with (first|(refine vY aq 1 rfl _ _ rfl (some ⟨g,o,none⟩) (t.length+1) cr _ rfl rfl rfl (by omega) (by omega) ?_)|(go_at_call 138;refine (uE.out _ (Ab.out.fr G.out.fr)).mono ?_;rintro e w2 ⟨rfl,a9,c9,rfl,h9,yt,YI⟩;have H9:=ah h9;clear h9));go_ret2;exact Bl (by rw[HA.out.1,<-iC.out]) (H1.l1.trans G.out.fr)
         ·have b1:decide (base.length<p)=false:=by simpa using fM
          by_cases kT:base.length-p<nn
          ·have b2:decide ((base.length:Int)-p<nn)=true:=by simp;omega
           clear jf;go_wp2_with (first|(refine vY aq 1 rfl _ _ rfl (some ⟨g,o,none⟩) (t.length+1) cr _ rfl rfl rfl (by omega) (by omega) ?_)|(go_at_call 138;refine (uE.out _ (Ab.out.fr G.out.fr)).mono ?_;rintro e w2 ⟨rfl,a9,c9,rfl,h9,yt,YI⟩;have H9:=ah h9;clear h9));go_ret2;exact Bl (by rw[HA.out.1,<-iC.out]) (H1.l1.trans G.out.fr)
          ·have b2:decide ((base.length:Int)-p<nn)=false:=by simp;omega
           have b3:decide ((m:Int)-out.length<nn)=true:=by simp;omega
           clear jf;go_wp2_with (first|(refine vY aq 1 rfl _ _ rfl (some ⟨g,o,none⟩) (t.length+1) cr _ rfl rfl rfl (by omega) (by omega) ?_)|(go_at_call 138;refine (uE.out _ (Ab.out.fr G.out.fr)).mono ?_;rintro e w2 ⟨rfl,a9,c9,rfl,h9,yt,YI⟩;have H9:=ah h9;clear h9));go_ret2;exact Bl (by rw[HA.out.1,<-iC.out]) (H1.l1.trans G.out.fr)
        ·rw[if_neg jf]at aD;have iC:=ah aD;have yu:p<=base.length/\nn<=base.length-p/\nn<=m-out.length:=by omega
         have b1:decide (base.length<p)=false:=by simp;omega
         have b2:decide ((base.length:Int)-p<nn)=false:=by simp;omega
         have b3:decide ((m:Int)-out.length<nn)=false:=by simp;omega
         have pn:=(H.l1.fr (H1.l1.trans G.out.fr)).mid p nn (by omega);obtain⟨news,yv⟩:=ai ((base.drop p).take nn);rw[<-yv]at pn;have tH:news.length=nn:=by rw[yv,dU,eV];omega
         have oz:=aw pn yv tH;clear jf aD pn yv tH;go_wp2_with (first|(refine vY aq 1 rfl _ _ rfl (some ⟨g,o,none⟩) (t.length+1) cr _ rfl rfl rfl (by omega) (by omega) ?_)|(go_at_call 138;refine (uE.out _ (Ab.out.fr G.out.fr)).mono ?_;rintro e w2 ⟨rfl,a9,c9,rfl,h9,yt,YI⟩;have H9:=ah h9;clear h9)|(refine qmh aq p nn rfl _ _ _ rfl a base.length cap _ _ rfl rfl rfl rfl rfl (by omega) ?_)|(refine gM aq rfl _ _ rfl (.slice ao out.length co) out.length (out.map bv) S rfl (by rw[dD,HS.out]) G.out.own (cutAt a cap p) nn (cap-p) (news.map bv) rfl (by omega) oz.o0.nil oz.o0.cs (by rw[bW,oz.l2,pI]) (j3 _) (by omega) (by unfold maxLen;omega) ?_;intro a2 c2 w2 A1;have xQ:=ah A1;clear A1));go_roundg k;case measure=>omega
         case rel=>have A1:=xQ.out;rw[HS.out]at A1;have h:=G.out.more oz.l2 A1 (k':=k) (r':=rest) (by omega) (by omega) (by rw[oz.o1];exact iC.out);exact⟨a9,c9,rest,a2,c2,out++news,rfl,by rw[aA,oz.l2],H9.out w1 Ab.out,h⟩
      ·rw[if_neg h128]at aD;by_cases jf:xn=0\/m-out.length<xn
       ·rw[if_pos jf]at aD;have iC:=ah aD;clear aD;by_cases iD:xn=0
        ·subst iD;clear jf;go_wp2_with (first|(refine vY aq 1 rfl _ _ rfl (some ⟨g,o,none⟩) (t.length+1) cr _ rfl rfl rfl (by omega) (by omega) ?_));go_ret2;exact Bl (by rw[HA.out.1,<-iC.out]) (H1.l1.trans G.out.fr)
        ·have b1:((xn:Int)==0)=false:=by simp;omega
         have b3:decide ((m:Int)-out.length<xn)=true:=by simp;omega
         clear jf;go_wp2_with (first|(refine vY aq 1 rfl _ _ rfl (some ⟨g,o,none⟩) (t.length+1) cr _ rfl rfl rfl (by omega) (by omega) ?_));go_ret2;exact Bl (by rw[HA.out.1,<-iC.out]) (H1.l1.trans G.out.fr)
       ·rw[if_neg jf]at aD;have b1:((xn:Int)==0)=false:=by simp;omega
        have b3:decide ((m:Int)-out.length<xn)=false:=by simp;omega
        have hxp:1<=xn/\xn<=m-out.length:=by omega
        by_cases hlong:t.length<xn
        ·rw[if_pos hlong]at aD;have iC:=ah aD;clear aD jf;go_wp2_with (first|(refine vY aq 1 rfl _ _ rfl (some ⟨g,o,none⟩) (t.length+1) cr _ rfl rfl rfl (by omega) (by omega) ?_));go_ret2;exact Bl (by rw[HA.out.1,<-iC.out]) (H1.l1.trans G.out.fr)
        ·rw[if_neg hlong]at aD;have iC:=ah aD;have pn:=(Ab.out.fr G.out.fr).take xn;have bu:=Ab.out.drop xn (by omega);have tH:(t.take xn).length=xn:=by rw[dU];omega
         have oz:=aw pn bu tH;clear aD pn bu tH jf;go_wp2_with (first|(refine vY aq 1 rfl _ _ rfl (some ⟨g,o,none⟩) (t.length+1) cr _ rfl rfl rfl (by omega) (by omega) ?_)|(refine qh9 aq xn rfl _ _ rfl (aL (some ⟨g,o,none⟩) cr 1 1) t.length (cr-1) _ rfl rfl rfl (by omega) ?_)|(refine gM aq rfl _ _ rfl (.slice ao out.length co) out.length (out.map bv) S rfl (by rw[dD,HS.out]) G.out.own (aL (some ⟨g,o,none⟩) cr 1 1) xn (cr-1) ((t.take xn).map bv) rfl (by omega) oz.o0.nil oz.o0.cs (by rw[bW,oz.l2,pI]) (j3 _) (by omega) (by unfold maxLen;omega) ?_;intro a2 c2 w2 A1;have xQ:=ah A1;clear A1)|(refine vY aq xn rfl _ _ rfl (aL (some ⟨g,o,none⟩) cr 1 1) t.length (cr-1) _ rfl rfl rfl (by omega) (by omega) ?_));go_roundg k;case measure=>omega
         case rel=>have A1:=xQ.out;rw[HS.out]at A1;have h:=G.out.more oz.l2 A1 (k':=k) (r':=t.drop xn) (by omega) (by rw[eV];omega) iC.out;exact⟨_,_,t.drop xn,a2,c2,out++t.take xn,by rw[eV],by rw[aA,oz.l2],oz.o1,h⟩
  ·rw[if_pos hn]at bN;have HA:=ah bN;have xq:((n:Int)==base.length)=false:=by simp;omega
   have jM:((n:Int)!=base.length)=true:=by simp;omega
   clear bN;go_enter Tryz.func112,Tryz.ntmps112;go_wp2_with (first|(go_at_call 137;refine H.o0.mono ?_;rintro e1 w1 ⟨a1,c1,rfl,r1,f1⟩;have H1:=ak r1 f1;clear r1 f1));go_ret2;exact Bl HA.out H1.l1
 ·rw[if_pos (by simpa using he)]at bN;have HA:=ah bN;have hb:((e:Int)==0)=false:=by simp;omega
  have kT:((e:Int)!=0)=true:=by simp;omega
  clear bN he;go_enter Tryz.func112,Tryz.ntmps112;go_wp2_with (first|(go_at_call 137;refine H.o0.mono ?_;rintro e1 w1 ⟨a1,c1,rfl,r1,f1⟩;have H1:=ak r1 f1;clear r1 f1));go_ret2;exact Bl HA.out H1.l1
end delta
namespace pk
open Go Go.RowKit lib bm
theorem Vj (base:LB) (tn:Nat):∀(f:Nat) (d out:LB),out.length<=tn->(delta.app base tn f d out).1.length<=tn
 | f,[],out,h=>by
  rw[delta.M9];split
  ·exact ep _
  ·exact h
 | 0,_::_,out,h=>ep _
 | f+1,c::r,out,h=>by
  rw[delta.Ll];split
  ·split
   ·exact ep _
   ·split
    ·exact ep _
    ·refine Vj base tn f _ _ ?_;rw[aA,dU,eV];omega
  ·split
   ·exact ep _
   ·split
    ·exact ep _
    ·refine Vj base tn f _ _ ?_;rw[aA,dU];omega
theorem zbo (base d:LB) (bound:Int):(delta.apply base d bound).1.length<=2147483647:=by
 unfold delta.apply;split
 ·exact ep _
 ·split
  ·exact ep _
  ·split
   ·exact ep _
   ·exact ck (Vj _ _ _ _ _ (ep _)) (delta.qux d).1
def Fin (w w':World) (O S i:Nat) (C C' D D':AV) (res:Except Nat (Obj×Nat)):Prop:=
 (∀j,j<i*5\/i*5+5<=j->C'[j]?=C[j]?)/\(∀j,j<i*4\/i*4+3<=j->D'[j]?=D[j]?)/\D'[i*4]?=some (.bool true)/\
 match res with
 | .error x=>D'[i*4+1]?=some (.int .i64 x)/\0<x
 | .ok (o,d)=>D'[i*4+1]?=some (.int .i64 0)/\D'[i*4+2]?=some (.int .i64 (d:Nat))/\∃ba bc,(∀j v,(eK o ba bc)[j]?=some v->C'[i*5+j]?=some v)/\lib.Rd w' ba bc o.body/\(∀y∈af ba,w.heap.size<=y/\y<w'.heap.size)/\o.body.length<=2147483647
theorem W6 (g O S:Nat) (gv tv:Value) (la:OA) (ms:List EM) (C D:AV) (i:Nat) (m:EM) (kd:Int) (fa:OA) (fc:Nat) (from_:LB) (d:Nat) (w:World)
  (h:Rb w g O S gv tv la ms C D) (hi:ms[i]?=some m) (hf:lib.Rd w fa fc from_) (yE:∀x∈af fa,x≠O/\x≠S) (hd:d<=100) (hp:obj.Pw w) (he:D[i*4+1]?=some (.int .i64 0)) (Uh:∀w',Fr [O,S] w w'->obj.Pw w') :
  Calls Tryz.prog 80 #[.pointer (some ⟨g,0,none⟩),.int .i64 i,.int .i64 kd,.slice fa from_.length fc,.int .i64 ((d+1:Nat):Int)] w λe w'=>e = .returned (.tuple #[])/\Fr [O,S] w w'/\
   ∃C' D',Rb w' g O S gv tv la ms C' D'/\Fin w w' O S i C C' D D' (over m.1 kd from_ d):=by
 obtain⟨n,hn⟩:=ai ms.length;have dP:i<n:=by rw[hn];exact (jq.1 hi).1
 have mC:n<=4096:=by rw[hn];exact h.few
 have b0:=cell_of h.box 0;have b2:=cell_of h.box 2;simp only[bF,aT,bP]at b0 b2;rw[<-hn]at b0 b2;have cV:i*4+4<=D.size:=by rw[h.sc,<-hn];omega
 obtain⟨x0,d0⟩:∃x,w.cell? ⟨S,i*4,none⟩=some x:=⟨D[i*4]'(by omega),by rw[cell_of h.sb];exact tr (by omega)⟩;have z0:=aW h.sb (i*4);obtain⟨dp,yF⟩:=ai (d+1);rw[<-yF];have hdb:dp<=101:=by omega
 obtain⟨RR,ZF⟩:=ai (over m.1 kd from_ d);rw[<-ZF];have xg:RR=if 50<dp then .error 3 else if (delta.apply from_ m.1.data 65536).2=0 then .ok (whole m.1 kd (delta.apply from_ m.1.data 65536).1,dp) else .error (delta.apply from_ m.1.data 65536).2:=by rw[ZF,yF];rfl
 have H:=pX h hn hi hf yE hp he Uh cV yF xg;clear h hn hi hf yE hp he Uh cV yF xg ZF;go_enter Tryz.func80,Tryz.ntmps80;go_upto_region 2 with fail;obtain⟨hR,hn,hi,hf,yE,hp,he,Uh,cV,yF,xg⟩:=H.out;obtain⟨w1,cP⟩:=ai (w.setCell ⟨S,i*4,none⟩ (.bool true));rw[<-cP];obtain⟨D1,E9⟩:=ai (D.setIfInBounds (i*4) (.bool true));have f1:Fr [S] w w1:=by rw[cP];exact (Fr.refl [S] w).setCell (by simp) _
 have ve:w1.heap[S]?=some (.cells D1 100 (0,0)):=by rw[cP,E9];exact bI hR.sb _
 have rY:=hR.rL f1 ve (by rw[E9,rA]);have J0:∀j,j≠i*4->D1[j]?=D[j]?:=λj hj=>by rw[E9,aX (kC hj)]
 have QB:D1[i*4]?=some (.bool true):=by rw[E9];exact iG (by omega)
 have c1:w1.cell? ⟨S,i*4+1,none⟩=some (.int .i64 0):=by rw[cell_of ve,J0 _ (by omega)];exact he
 have z1:=aW ve (i*4+1);have b0:=cell_of rY.box 0;have b2:=cell_of rY.box 2;simp only[bF,aT,bP]at b0 b2;rw[<-hn]at b0 b2;have fOS:Fr [O,S] w w1:=f1.mono (λx hx=>.inl (by simp at hx;simp[hx]));have H1:=dk rY ve J0 QB xg fOS f1;clear hR hn hi hf yE hp he Uh cV yF cP E9 f1 ve rY J0 QB xg fOS d0 z0;have PY:∀(wz:World) (x:Nat),Fr [] w1 wz->0<x->RR = .error x->Fr [O,S] w (wz.setCell ⟨S,i*4+1,none⟩ (.int .i64 (x:Nat)))/\∃C' D',Rb (wz.setCell ⟨S,i*4+1,none⟩ (.int .i64 (x:Nat))) g O S gv tv la ms C' D'/\Fin w (wz.setCell ⟨S,i*4+1,none⟩ (.int .i64 (x:Nat))) O S i C C' D D' RR:=λwz x fz hx hr=>by
  have hRz:=H1.out.1.fr fz;have cV:=H.out.2.2.2.2.2.2.2.2.1;have zcR:D1.size=D.size:=by rw[H1.out.1.sc,H.out.1.sc]
  refine⟨(H1.out.2.2.2.2.2.1.trans (fz.mono (by simp))).setCell (by simp) _,C,D1.setIfInBounds (i*4+1) (.int .i64 x),hRz.rL ((Fr.refl [S] wz).setCell (by simp) _) (bI hRz.sb _) (by rw[rA]),λj _=>rfl,λj hj=>?_,?_,?_⟩
  ·rw[aX (by omega)];exact H1.out.2.2.1 j (by omega)
  ·rw[aX (by omega)];exact H1.out.2.2.2.1
  ·rw[hr];exact⟨iG (by omega),hx⟩
 have Rw:=ah PY;clear PY;by_cases h50:50<dp
 ·have hr:RR = .error 3:=by rw[H1.out.2.2.2.2.1,if_pos h50]
  have g50:decide ((50:Int)<(dp:Int))=true:=by simp;omega
  have HX:=ah (Rw.out w1 3 (Fr.refl _ _) (by decide) hr);clear hr h50 b0 b2;go_wp2;refine bodyPost_ret (results_none rfl _ _ _) rfl ?_;exact⟨rfl,HX.out⟩
 ·have g50:decide ((50:Int)<(dp:Int))=false:=by simp;omega
  have hr:=H1.out.2.2.2.2.1;rw[if_neg h50]at hr;obtain⟨gb,o,fH,hce⟩:=H1.out.1.ents.cell H.out.2.2.1;have e4:=hce 4 _ (by decide) (show _=some (.slice m.2 m.1.data.length m.1.data.length) from rfl);rw[<-oW]at e4;subst fH;have bN:=delta.zbp fa m.2 fc m.1.data.length from_ m.1.data 65536 w1 (H.out.2.2.2.1.gJ H1.out.2.2.2.2.2.2 (λx hx=>by simp;exact (H.out.2.2.2.2.1 x hx).2)) (H1.out.1.ents.dat m (gB H.out.2.2.1));unfold delta.Applied at bN;have nA:=zbo from_ m.1.data 65536;generalize delta.apply from_ m.1.data 65536=y at *;obtain⟨out,x⟩:=y;simp only at bN hr nA;obtain⟨dl,hU⟩:=ai m.1.data.length;rw[<-hU]at bN e4;obtain⟨fl,sH⟩:=ai from_.length;rw[<-sH]at bN ⊢;have HB:=aw bN hr nA;clear bN hr hce hU sH h50;go_upto_region 5 with (go_at_call 112;refine HB.o0.mono ?_;rintro e w2 ⟨a2,rfl,r2,n2,f2⟩;have H2:=aw r2 n2 f2;clear r2 n2 f2);clear e4 b0 b2 g50;have c1:=H2.l2.cell c1 (by simp);have z1:=aW (H2.l2.af H1.out.2.1 (by simp)) (i*4+1);by_cases hx:x=0
  ·subst hx;have hr:=HB.o1;rw[if_pos rfl]at hr;have gx:((0:Int)!=0)=false:=by decide
   have nE:=H1.out.1.fr H2.l2;have e2:D1.size=D.size:=by rw[H1.out.1.sc,H.out.1.sc]
   have cV:=H.out.2.2.2.2.2.2.2.2.1;obtain⟨x2,y2⟩:∃x,w2.cell? ⟨S,i*4+2,none⟩=some x:=⟨D1[i*4+2]'(by omega),by rw[cell_of nE.sb];exact tr (by omega)⟩;have z2:=aW nE.sb (i*4+2);obtain⟨w3,jR⟩:∃w3,w3=w2.setCell ⟨S,i*4+2,none⟩ (.int .i64 (dp:Nat)):=⟨_,rfl⟩;obtain⟨D2,sR⟩:∃D2,D2=D1.setIfInBounds (i*4+2) (.int .i64 (dp:Nat)):=⟨_,rfl⟩;have f3:Fr [S] w2 w3:=by rw[jR];exact (Fr.refl [S] w2).setCell (by simp) _
   have jL:w3.heap[S]?=some (.cells D2 100 (0,0)):=by rw[jR,sR];exact bI nE.sb _
   have rJ:=nE.rL f3 jL (by rw[sR,rA]);have ZC:=lt_of_block H.out.1.sb;have X9:=H1.out.2.2.2.2.2.1.size;have Cu:Fr [O,S] w w3:=(H1.out.2.2.2.2.2.1.trans (H2.l2.mono (by simp))).trans (f3.mono (λx hx=>.inl (by simp at hx;simp[hx])));have cm:=qyg g O S gv tv _ ms C D2 i m kd a2 out.length out w3 rJ H.out.2.2.1 (H2.o0.gJ f3 (λx hx hm=>by have:=(H2.o1 x hx).1;simp at hm;omega)) (by omega) (H.out.2.2.2.2.2.2.2.1 _ Cu);obtain⟨ol,iw⟩:=ai out.length;rw[<-iw]at cm ⊢;have HS:=dk cm Cu sR hr iw f3 e2;have HW:=ah jR;clear cm Cu sR hr iw f3 jL rJ nE e2 cV X9 ZC c1 z1 jR;go_upto_region 8 with fail;rw[<-HW.out];clear y2 z2;go_wp2_with (go_at_call 79;refine HS.out.1.mono ?_;rintro e w4 ⟨rfl,f4,C',DA,vF,uB⟩;have H4:=aG f4 DA vF uB;clear f4 DA vF uB);go_end0;obtain⟨f4,DA,vF,uB⟩:=H4.out;obtain⟨_,Cu,sR,hr,iw,f3,e2⟩:=HS.out;have cV:=H.out.2.2.2.2.2.2.2.2.1;have hO:=lt_of_block H.out.1.ob;have hS:=lt_of_block H.out.1.sb;have ve:=H1.out.2.2.2.2.2.1.size;refine⟨rfl,Cu.trans (f4.mono (λx hx=>.inl (by simp at hx;simp[hx]))),C',D2,DA,vF,λj hj=>?_,?_,?_⟩
   ·rw[sR,aX (by omega)];exact H1.out.2.2.1 j (by omega)
   ·rw[sR,aX (by omega)];exact H1.out.2.2.2.1
   ·rw[hr];refine⟨?_,?_,a2,ol,λj v hv=>uB j v (by rw[iw]at hv ⊢;exact hv),?_,λy hy=>⟨?_,?_⟩,?_⟩
    ·rw[sR,aX (by omega),H1.out.2.2.1 _ (by omega)];exact H.out.2.2.2.2.2.2.1
    ·rw[sR];exact iG (by omega)
    ·show lib.Rd w4 a2 ol out;rw[iw];exact (H2.o0.gJ f3 (λx hx hm=>by have:=(H2.o1 x hx).1;simp at hm;omega)).gJ f4 (λx hx hm=>by have:=(H2.o1 x hx).1;simp at hm;omega)
    ·have:=(H2.o1 y hy).1;omega
    ·have:=(H2.o1 y hy).2;have:=f3.size;have:=f4.size;omega
    ·exact HB.l2
  ·have hr:=HB.o1;rw[if_neg hx]at hr;have gx:((x:Int)!=0)=true:=by simp;omega
   have HX:=ah (Rw.out w2 x H2.l2 (by omega) hr);clear hr hx;go_wp2;refine bodyPost_ret (results_none rfl _ _ _) rfl ?_;exact⟨rfl,HX.out⟩
def CW (w:World) (bs:LB) (e:Ending) (w':World):Prop:=
 ∃ao cap,e = .returned (.slice ao bs.length cap)/\lib.Rd w' ao cap bs/\bs.length<=cap/\cap<=maxLen/\(∀x∈af ao,w.heap.size<=x/\x<w'.heap.size)/\Fr [] w w'
theorem za4 (ao:OA) (cap:Nat) (bs:LB) (w:World) (h:lib.Rd w ao cap bs) (xv:bs.length<=140737488355328) :
  Calls Tryz.prog 37 #[.slice ao bs.length cap] w (CW w bs):=by
 have qT:∀(w:World) (a:OA) (n c n' c':Nat),(binOp .eql 23 (.slice a n c) (.slice none n' c')).run Tryz.prog w = .ok (.bool a.isNone) w:=λw a n c n' c'=>Lib.run_eql_slice_nil w _ _ a n c n' c' Tryz.underlying23
 have hcs:=h.cs;have hle:=h.le;have cz:=h.nil;have bg:=h;cases ao with
 | none=>
  have h0:=cz rfl;obtain rfl:bs=[]:=wN (by omega);go_enter Tryz.func37,Tryz.ntmps37;go_wp2;go_ret;exact⟨none,0,rfl,⟨.inl rfl,by simp,by decide,λ_=>rfl⟩,by simp,by decide,by simp[af],Fr.refl _ _⟩
 | some a=>
  go_enter Tryz.func37,Tryz.ntmps37;go_wp2_with (refine gM aq rfl _ _ rfl (.slice (some ⟨w.heap.size,0,none⟩) 0 0) 0 [] [w.heap.size] rfl rfl ⟨rfl,.inr ⟨w.heap.size,0,#[],rfl,ep _,bC _ _,ay _,ep _,rfl,rfl⟩⟩ (some a) bs.length cap (bs.map bv) rfl hle cz (hcs.fr ((Fr.refl [] w).alloc _) (by simp)) (by simp) (j3 bs) (by omega) (by unfold maxLen;omega) ?_;intro lM fN w1 A1;simp only[ft,qj]at A1);go_ret;have eG:Fr [] w w1:=((Fr.refl [] w).alloc _).step A1.fr (by simp);have hb:∀x∈af lM,w.heap.size<=x/\x<w1.heap.size:=λx hx=>⟨by have:=A1.at_ x hx;simp at this;omega,A1.lt x hx⟩
  exact⟨lM,fN,rfl,⟨C8 A1.own,A1.le,A1.max,A1.nil⟩,A1.le,A1.max,hb,eG⟩
theorem qwf (m:EM) (X off:Nat) (w:World) (hX:w.cell? ⟨X,6,none⟩=some (.int .i64 off)) :
  Calls Tryz.prog 78 #[.agg (sf m.1 m.2 m.1.data.length),.pointer (some ⟨X,0,none⟩)] w λe w'=>e = .returned (.bool (m.1.at_==off))/\Fr [] w w':=by
 obtain⟨⟨xk,xa,xs,xc,xd,xb,xo⟩,da⟩:=m;simp only[sf];obtain⟨dl,hU⟩:=ai xd.length;rw[<-hU];have hXl:=Lp w _ hX;simp only at hXl;by_cases he:xa=off
 ·subst he;have Ca:((xa:Int)==xa)=true:=beq_self_eq_true _;rw[show (xa==xa)=true from beq_self_eq_true _];go_enter Tryz.func78,Tryz.ntmps78;go_wp2;go_ret;exact⟨rfl,(Fr.refl [] w).alloc _⟩
 ·have Ca:((xa:Int)==off)=false:=by simp;omega
  rw[show (xa==off)=false from by simpa using he];go_enter Tryz.func78,Tryz.ntmps78;go_wp2;go_ret;exact⟨rfl,(Fr.refl [] w).alloc _⟩
def Q8 (l:List ek) (off k:Nat):Bool:=match l[k]? with
 | some y=>y.at_==off
 | none=>false
theorem zbn (l:List ek) (i off:Nat):pB l i off=(List.range i).find? (Q8 l off):=rfl
theorem qr7 (p:Nat->Bool) (i:Nat):∀k,k<=i->(∀j,j<k->p j=false)->(List.range i).find? p=((List.range i).drop k).find? p:=by
 intro k;induction k with
 | zero=>intro _ _;rw[yf]
 | succ k ih=>
  intro hk h;rw[ih (by omega) (λj hj=>h j (by omega))];have hd:(List.range i).drop k=k::(List.range i).drop (k+1):=by rw[Al (by simp;omega)];simp
  rw[hd,KM,h k (by omega)]
theorem zfg {l:List ek} {off k:Nat} (h:∀y,l[k]?=some y->y.at_≠off):Q8 l off k=false:=by
 unfold Q8;cases hl:l[k]? with
 | none=>rfl
 | some y=>simpa using h y hl
theorem zeq (l:List ek) (i off k:Nat) (y:ek) (hk:k<i) (h:∀j,j<k->∀y,l[j]?=some y->y.at_≠off) (hy:l[k]?=some y) (ho:y.at_=off):pB l i off=some k:=by
 rw[zbn,qr7 _ i k (by omega) (λj hj=>zfg (h j hj))];have hd:(List.range i).drop k=k::(List.range i).drop (k+1):=by rw[Al (by simp;omega)];simp
 have hp:Q8 l off k=true:=by unfold Q8;rw[hy];simpa using ho
 rw[hd,KM,hp]
theorem zbm (l:List ek) (i off:Nat) (h:∀j,j<i->∀y,l[j]?=some y->y.at_≠off):pB l i off=none:=by rw[zbn,qr7 _ i i (ay _) (λj hj=>zfg (h j hj)),List.drop_of_length_le (by simp)];rfl
def Kj:Option Nat->Int
 | some k=>(k:Int)
 | none=>-1
theorem qzw (la:OA) (ms:List EM) (i X off:Nat) (w:World) (h:lO w la ms) (hi:i<=ms.length) (mC:ms.length<=4096) (hX:w.cell? ⟨X,6,none⟩=some (.int .i64 off)) :
  Calls Tryz.prog 77 #[.slice la i ms.length,.func (.func 78) #[] #[.pointer (some ⟨X,0,none⟩)]] w λe w'=>e = .returned (.int .i64 (Kj (pB (ms.map (·.1)) i off)))/\Fr [] w w':=by
 obtain⟨n,hn⟩:=ai ms.length;have H:=aw h hn hX;rw[<-hn]at hi mC ⊢;clear h hn hX;go_enter Tryz.func77,Tryz.ntmps77;go_wp2;go_loopg [5,8] i (λk s5 s8 wr=>∃j:Nat,s8 = .int .i64 (j:Nat)/\j+k=i/\Fr [] w wr/\∀t,t<j->∀y,(ms.map (·.1))[t]?=some y->y.at_≠off);case atStart=>exact⟨0,rfl,by omega,Fr.refl _ _,λt ht=>by omega⟩
 case round=>
  obtain⟨j,rfl,fx,hf,oK⟩:=hrel;have HL:=ak hf oK;clear hf oK;by_cases hj:j<i
  ·obtain⟨k,rfl⟩:∃k,gk=k+1:=⟨gk-1,by omega⟩;obtain⟨m,hm⟩:∃m,ms[j]?=some m:=⟨ms[j]'(by rw[<-H.out.2.1];omega),br _⟩;obtain⟨gb,o,fH,hce⟩:=(H.out.1.fr HL.out.1).cell hm;subst fH;have aH:=λw' f=>qwf m X off w' ((HL.out.1.trans f).cell H.out.2.2 (by simp))
   have qD:=aH;have iy:=hm;have c0:=hce 0 _ (by decide) rfl;have c1:=hce 1 _ (by decide) rfl;have c2:=hce 2 _ (by decide) rfl;have c3:=hce 3 _ (by decide) rfl;have c4:=hce 4 _ (by decide) rfl;have c5:=hce 5 _ (by decide) rfl;have c6:=hce 6 _ (by decide) rfl;rw[<-oW]at c0 c1 c2 c3 c4 c5 c6;clear hce aH hm;have yB:(ms.map (·.1))[j]?=some m.1:=by rw[iM,iy];rfl
   have HG:=ah yB;clear yB iy;obtain⟨⟨xk,xa,xs,xc,xd,xb,xo⟩,da⟩:=m;simp only[sf]at qD;replace c0:wr.cell? ⟨gb,o+j*7,none⟩=some (.int .i64 xk):=c0;replace c1:wr.cell? ⟨gb,o+j*7+1,none⟩=some (.int .i64 xa):=c1;replace c2:wr.cell? ⟨gb,o+j*7+2,none⟩=some (.int .i64 xs):=c2;replace c3:wr.cell? ⟨gb,o+j*7+3,none⟩=some (.int .u32 xc):=c3;replace c4:wr.cell? ⟨gb,o+j*7+4,none⟩=some (.slice da xd.length xd.length):=c4;replace c5:wr.cell? ⟨gb,o+j*7+5,none⟩=some (.string (str xb)):=c5;replace c6:wr.cell? ⟨gb,o+j*7+6,none⟩=some (.int .i64 xo):=c6;have HS:=ah qD;clear qD;by_cases hx:xa=off
   ·have hb:(xa==off)=true:=by simpa using hx
    have HB:=ak hx hb;clear hx hb;go_wp2_with (go_at_call 78;refine (HS.out _ (Fr.refl _ _)).mono ?_;rintro e w1 ⟨rfl,f1⟩;rw[HB.l1];have HF:=ah f1;clear f1);go_ret;refine⟨?_,HL.out.1.trans HF.out⟩;rw[zeq (ms.map (·.1)) i off j _ hj HL.out.2 HG.out HB.o0];rfl
   ·have hb:(xa==off)=false:=by simpa using hx
    have HB:=ak hx hb;clear hx hb;go_wp2_with (go_at_call 78;refine (HS.out _ (Fr.refl _ _)).mono ?_;rintro e w1 ⟨rfl,f1⟩;rw[HB.l1];have HF:=ah f1;clear f1);go_roundg k;case measure=>omega
    case rel=>
     refine⟨j+1,rfl,by omega,HL.out.1.trans HF.out,?_⟩;intro t ht y hy;by_cases Jt:t=j
     ·subst Jt;rw[HG.out]at hy;obtain rfl:=lA hy;exact HB.o0
     ·exact HL.out.2 t (by omega) y hy
  ·obtain rfl:j=i:=by omega
   have cz:=zbm (ms.map (·.1)) j off HL.out.2;have HX:=ah cz;clear cz;go_wp2;go_ret;exact⟨by rw[HX.out];rfl,HL.out.1⟩
def S1 (w:World) (O S:Nat) (C D:AV) (i:Nat):St->Prop
 | none=>D[i*4]?=some (.bool false)/\D[i*4+1]?=some (.int .i64 0)
 | some (.error x)=>D[i*4]?=some (.bool true)/\D[i*4+1]?=some (.int .i64 x)/\0<x
 | some (.ok (o,d))=>D[i*4]?=some (.bool true)/\D[i*4+1]?=some (.int .i64 0)/\D[i*4+2]?=some (.int .i64 d)/\d<=50/\
   ∃ba bc,(∀j v,(eK o ba bc)[j]?=some v->C[i*5+j]?=some v)/\lib.Rd w ba bc o.body/\(∀y∈af ba,y≠O/\y≠S)/\o.body.length<=2147483647
theorem S1.keep {w w':World} {O S:Nat} {C C' D D':AV} {i:Nat} {s:St} (h:S1 w O S C D i s) (hC:∀j,j<5->C'[i*5+j]?=C[i*5+j]?) (hD:∀j,j<3->D'[i*4+j]?=D[i*4+j]?) (f:Fr [O,S] w w'):S1 w' O S C' D' i s:=by
 have d0:=hD 0 (by decide);have d1:=hD 1 (by decide);have d2:=hD 2 (by decide);simp only[ie]at d0;match s,h with
 | none,h=>exact⟨by rw[d0];exact h.1,by rw[d1];exact h.2⟩
 | some (.error x),h=>exact⟨by rw[d0];exact h.1,by rw[d1];exact h.2.1,h.2.2⟩
 | some (.ok (o,d)),h=>
  obtain⟨h0,h1,h2,h3,ba,bc,h4,h5,h6,h7⟩:=h;refine⟨by rw[d0];exact h0,by rw[d1];exact h1,by rw[d2];exact h2,h3,ba,bc,λj v hj=>?_,h5.gJ f (λx hx=>by have:=h6 x hx;simp;exact this),h6,h7⟩;have hj5:j<5:=by have:=(IC.1 hj).1;simpa[eK] using this
  rw[hC j hj5];exact h4 j v hj
def iV (l:List ek) (i:Nat) (x:ek):Value:=
 if x.kind=6 then .iface 123 (.int .i64 (Kj (pB l i x.off))) else if x.kind=7 then .iface 124 (.string (str x.base)) else .nilIface
structure tY (w:World) (O S:Nat) (C D:AV) (l:List ek) (W:List St):Prop where
 len:W.length=l.length
 st:∀i s,W[i]?=some s->S1 w O S C D i s
 base:∀i x,l[i]?=some x->D[i*4+3]?=some (iV l i x)
theorem tY.one {w w':World} {O S:Nat} {C C' D D':AV} {l:List ek} {W:List St} (h:tY w O S C D l W) (i:Nat) (s:St)
  (hC:∀j,j<i*5\/i*5+5<=j->C'[j]?=C[j]?) (hD:∀j,j<i*4\/i*4+3<=j->D'[j]?=D[j]?) (f:Fr [O,S] w w') (hs:S1 w' O S C' D' i s):tY w' O S C' D' l (W.set i s):=by
 refine⟨by rw[KN];exact h.len,λk t hk=>?_,λk x hk=>?_⟩
 ·rw[List.getElem?_set]at hk;split at hk
  ·rename_i bX;subst bX;split at hk
   ·obtain rfl:=lA hk;exact hs
   ·cases hk
  ·rename_i bX;exact (h.st k t hk).keep (λj hj=>hC _ (by omega)) (λj hj=>hD _ (by omega)) f
 ·rw[hD _ (by omega)];exact h.base k x hk
theorem qy0 {r:ek} {kind:Int} {b:LB} {d:Nat} {o:Obj} {k:Nat} (h:over r kind b d = .ok (o,k)):k=d+1/\k<=50:=by
 unfold over at h;split at h
 ·cases h
 ·split at h
  ·cases h;exact⟨rfl,by omega⟩
  ·cases h
theorem Fin.st {w w':World} {O S i:Nat} {C C' D D':AV} {r:ek} {kind:Int} {b:LB} {d:Nat} (h:Fin w w' O S i C C' D D' (over r kind b d)) (hO:O<w.heap.size) (hS:S<w.heap.size):S1 w' O S C' D' i (some (over r kind b d)):=by
 obtain⟨R,hR⟩:=ai (over r kind b d);rw[<-hR]at h ⊢;obtain⟨-,-,h0,h1⟩:=h;match R,hR,h1 with
 | .error x,_,h1=>exact⟨h0,h1.1,h1.2⟩
 | .ok (o,k),hR,h1=>obtain⟨g1,g2,ba,bc,g3,g4,g5,g6⟩:=h1;exact⟨h0,g1,g2,(qy0 hR.symm).2,ba,bc,g3,g4,λy hy=>⟨by have:=(g5 y hy).1;omega,by have:=(g5 y hy).1;omega⟩,g6⟩
structure CX (w w':World) (g O S:Nat) (gv tv:Value) (la:OA) (ms:List EM) (C D:AV) (i:Nat):Prop where
 rb:Rb w' g O S gv tv la ms C D
 fr:Fr [O,S] w w'
 done:∀t m,t<i->ms[t]?=some m->S1 w' O S C D t (eD (ms.map (·.1)) t m.1)/\D[t*4+3]?=some (iV (ms.map (·.1)) t m.1)
 rest:∀t,i<=t->t<ms.length->D[t*4]?=some (.bool false)/\D[t*4+1]?=some (.int .i64 0)/\D[t*4+3]?=some .nilIface
 deep:∀t,i<=t->t<ms.length->D[t*4+2]?=some (.int .i64 0)
theorem CX.next {w w1 w2:World} {g O S:Nat} {gv tv:Value} {la:OA} {ms:List EM} {C C' D D':AV} {i:Nat} {m:EM} (h:CX w w1 g O S gv tv la ms C D i) (hm:ms[i]?=some m) (rb:Rb w2 g O S gv tv la ms C' D') (f:Fr [O,S] w1 w2)
  (hC:∀j,j<i*5\/i*5+5<=j->C'[j]?=C[j]?) (hD:∀j,j<i*4\/i*4+4<=j->D'[j]?=D[j]?) (hs:S1 w2 O S C' D' i (eD (ms.map (·.1)) i m.1)) (hb:D'[i*4+3]?=some (iV (ms.map (·.1)) i m.1)):CX w w2 g O S gv tv la ms C' D' (i+1):=by
 refine⟨rb,h.fr.trans f,λt y ht hy=>?_,λt ht hn=>?_,λt ht hn=>by rw[hD _ (by omega)];exact h.deep t (by omega) hn⟩
 ·by_cases LU:t=i
  ·subst LU;rw[hm]at hy;obtain rfl:=lA hy;exact⟨hs,hb⟩
  ·obtain⟨h1,h2⟩:=h.done t y (by omega) hy;exact⟨h1.keep (λj hj=>hC _ (by omega)) (λj hj=>hD _ (by omega)) f,by rw[hD _ (by omega)];exact h2⟩
 ·obtain⟨h1,h2,h3⟩:=h.rest t (by omega) hn;exact⟨by rw[hD _ (by omega)];exact h1,by rw[hD _ (by omega)];exact h2,by rw[hD _ (by omega)];exact h3⟩
theorem CX.dQ {w w1 w2:World} {g O S:Nat} {gv tv:Value} {la:OA} {ms:List EM} {C D:AV} {i:Nat} (h:CX w w1 g O S gv tv la ms C D i) (f:Fr [] w1 w2):CX w w2 g O S gv tv la ms C D i:=
 ⟨h.rb.fr f,h.fr.trans (f.mono (by simp)),λt y ht hy=>⟨(h.done t y ht hy).1.keep (λ_ _=>rfl) (λ_ _=>rfl) (f.mono (by simp)),(h.done t y ht hy).2⟩,h.rest,h.deep⟩
theorem CX.xX {w w':World} {g O S:Nat} {gv tv:Value} {la:OA} {ms:List EM} {C D:AV} (h:CX w w' g O S gv tv la ms C D ms.length):tY w' O S C D (ms.map (·.1)) (gK (ms.map (·.1))):=by
 refine⟨S3 _,λi s hi=>?_,λi x hx=>?_⟩
 ·have hl:=(jq.1 hi).1;rw[S3,bW]at hl;have hm:ms[i]?=some ms[i]:=br hl;rw[W7 _ i ms[i].1 (by rw[iM,hm];rfl)]at hi;obtain rfl:=lA hi;exact (h.done i _ hl hm).1
 ·rw[iM]at hx;cases hm:ms[i]? with
  | none=>rw[hm]at hx;cases hx
  | some m=>rw[hm]at hx;obtain rfl:=lA hx;exact (h.done i m (jq.1 hm).1 hm).2
theorem qya (g O S:Nat) (gv tv:Value) (la:OA) (ms:List EM) (C D:AV) (w:World) (h:Rb w g O S gv tv la ms C D) (hp:∀w',Fr [O,S] w w'->obj.Pw w')
  (hl:∀m∈ms,m.1.data.length<=2147483647) (hz:∀t,t<ms.length->D[t*4]?=some (.bool false)/\D[t*4+1]?=some (.int .i64 0)/\D[t*4+3]?=some .nilIface) (mv:∀t,t<ms.length->D[t*4+2]?=some (.int .i64 0)) :
  Calls Tryz.prog 47 #[.pointer (some ⟨g,0,none⟩)] w λe w'=>e = .returned (.tuple #[])/\
   ∃C' D',CX w w' g O S gv tv la ms C' D' ms.length:=by
 have h0:CX w w g O S gv tv la ms C D 0:=⟨h,Fr.refl _ _,λt m ht=>by omega,λt _ ht=>hz t ht,λt _ ht=>mv t ht⟩;obtain⟨n,hn⟩:=ai ms.length;have mC:n<=4096:=by rw[hn];exact h.few
 have b0:=cell_of h.box 0;simp only[bF,aT]at b0;rw[<-hn]at b0 ⊢;have H:=aG h0 hn hp hl;clear h h0 hn hp hl hz mv;go_enter Tryz.func47,Tryz.ntmps47;go_wp2;clear b0;go_loopg [2,3,4,5,11] n (λk s2 s3 s4 s5 s11 wr=>∃j C D,s11 = .int .i64 (j:Nat)/\j+k=n/\CX w wr g O S gv tv la ms C D j);case atStart=>exact⟨0,C,D,rfl,by omega,H.out.1⟩
 case round=>
  obtain⟨i,C1,D1,rfl,bX,hB⟩:=hrel;have HL:=ah hB;clear hB;by_cases hi:i<n
  ·obtain⟨k,rfl⟩:∃k,gk=k+1:=⟨gk-1,by omega⟩;obtain⟨m,hm⟩:∃m,ms[i]?=some m:=⟨ms[i]'(by rw[<-H.out.2.1];omega),br _⟩;obtain⟨gb,o,fH,hce⟩:=HL.out.rb.ents.cell hm;have Js:=fH;subst fH;have c0:=hce 0 _ (by decide) rfl;have c1:=hce 1 _ (by decide) rfl;have c2:=hce 2 _ (by decide) rfl;have c3:=hce 3 _ (by decide) rfl;have c4:=hce 4 _ (by decide) rfl;have c5:=hce 5 _ (by decide) rfl;have c6:=hce 6 _ (by decide) rfl;rw[<-oW]at c0 c1 c2 c3 c4 c5 c6;have HM:=ah hm;clear hce hm Js;obtain⟨⟨xk,xa,xs,xc,xd,xb,xo⟩,da⟩:=m;replace c0:wr.cell? ⟨gb,o+i*7,none⟩=some (.int .i64 xk):=c0;replace c1:wr.cell? ⟨gb,o+i*7+1,none⟩=some (.int .i64 xa):=c1;replace c2:wr.cell? ⟨gb,o+i*7+2,none⟩=some (.int .i64 xs):=c2;replace c3:wr.cell? ⟨gb,o+i*7+3,none⟩=some (.int .u32 xc):=c3;replace c4:wr.cell? ⟨gb,o+i*7+4,none⟩=some (.slice da xd.length xd.length):=c4;replace c5:wr.cell? ⟨gb,o+i*7+5,none⟩=some (.string (str xb)):=c5;replace c6:wr.cell? ⟨gb,o+i*7+6,none⟩=some (.int .i64 xo):=c6;obtain⟨dl,hU⟩:=ai xd.length;rw[<-hU]at c4;have HD:=ah hU;clear hU;go_upto_region 3 with (refine wpList_store_row rfl 65 (.tmp 3) (.tmp 15) rfl wr.heap.size #[.int .i64 xk,.int .i64 xa,.int .i64 xs,.int .u32 xc,.slice da dl dl,.string (str xb),.int .i64 xo] rfl rfl 65 _ (bC _ _) cK rfl (by kernel_rfl) ?_);clear c0 c1 c2 c3 c4 c5 c6;generalize cP:World.setRow _ _ _=w1;obtain⟨X,hX⟩:=ai wr.heap.size;rw[<-hX]at cP ⊢;have eQ:w1.heap[X]?=some (.cells #[.int .i64 xk,.int .i64 xa,.int .i64 xs,.int .u32 xc,.slice da dl dl,.string (str xb),.int .i64 xo] 65 (0,0)):=by rw[<-cP,hX];exact setRow_heap _ _ _ _ _ _ (bC _ _)
   have f1:Fr [] wr w1:=by rw[<-cP,hX];exact ((Fr.refl [] wr).alloc _).setRow (.inr (ay _)) _
   have nC:=lt_of_block eQ;clear cP;have jV:=HL.out.dQ f1;have hn:=H.out.2.1;have b0:=cell_of jV.rb.box 0;have b2:=cell_of jV.rb.box 2;simp only[bF,aT,bP]at b0 b2;rw[<-hn]at b0 b2;have k0:=cell_of eQ 0;have k4:=cell_of eQ 4;have k5:=cell_of eQ 5;have k6:=cell_of eQ 6;simp only[bF,aT,bP]at k0 k4 k5 k6;have vC:X≠O:=by have:=lt_of_block HL.out.rb.ob;omega
   have uA:X≠S:=by have:=lt_of_block HL.out.rb.sb;omega
   have kP:=λw2 (f:Fr [] w1 w2)=>qzw _ ms i X xo w2 (jV.rb.ents.fr f) (by omega) (by omega) (f.cell k6 (by simp))
   rw[<-hn]at kP;obtain⟨r0,r1,r3⟩:=jV.rest i (ay _) (by omega);have cV:i*4+4<=D1.size:=by rw[jV.rb.sc];omega
   have H1:=pY jV eQ vC uA kP r0 r1 r3 cV hX;clear jV hn eQ vC uA kP r0 r1 r3 cV hX f1 nC k6 HL;by_cases h6:xk=6
   ·subst h6;have g6:(((6:Nat):Int)==6)=true:=by decide
    clear k4 k5;have HI:=ah (H1.out.2.2.2.2.1 w1 (Fr.refl _ _));obtain⟨at_,bR⟩:=ai (pB (ms.map (·.1)) i xo);rw[<-bR]at HI;have HA:=ah bR;clear bR;go_upto_region 9 with (go_at_call 77;refine HI.out.mono ?_;rintro e w2 ⟨rfl,f2⟩;have H2:=ah f2;clear f2);clear b0 b2 k0 g6;obtain⟨jV,eQ,vC,uA,kP,r0,r1,r3,cV,hX⟩:=H1.out;have tT:=jV.dQ H2.out;obtain⟨bV,yH⟩:=ai (Value.iface 123 (.int .i64 (Kj at_)));have rX:iV (ms.map (·.1)) i ⟨6,xa,xs,xc,xd,xb,xo⟩=bV:=by rw[yH,HA.out];rfl
    have y3:w2.cell? ⟨S,i*4+3,none⟩=some .nilIface:=by rw[cell_of tT.rb.sb];exact r3
    have z3:=aW tT.rb.sb (i*4+3);have f3:Fr [S] w2 (w2.setCell ⟨S,i*4+3,none⟩ bV):=(Fr.refl [S] w2).setCell (by simp) _;have jL:(w2.setCell ⟨S,i*4+3,none⟩ bV).heap[S]?=some (.cells (D1.setIfInBounds (i*4+3) bV) 100 (0,0)):=bI tT.rb.sb _;have rJ:=tT.rb.rL f3 jL (by rw[rA]);rw[yH]at jL rJ f3;have H3:=cJ tT rX f3 jL rJ yH;clear jV eQ vC uA kP r0 r1 r3 cV hX tT rX f3 jL rJ yH;cases at_ with
    | some q=>
     have gq:decide (((q:Nat):Int)<0)=false:=by simp
     simp only[Kj]at H3;simp only[Kj];go_upto_region 10 with fail;clear y3 z3;go_wp2;go_roundg k;case measure=>omega
     case rel=>
      obtain⟨tT,rX,f3,jL,rJ,yH⟩:=H3.out;obtain⟨jV,eQ,vC,uA,kP,r0,r1,r3,cV,hX⟩:=H1.out;refine⟨i+1,C1,_,rfl,by omega,tT.next HM.out rJ (f3.mono (λx hx=>.inl (by simp at hx;simp[hx]))) (λ_ _=>rfl) (λj hj=>by rw[aX (by omega)]) ?_ ?_⟩
      ·have:eD (ms.map (·.1)) i ⟨6,xa,xs,xc,xd,xb,xo⟩=none:=by unfold eD;simp only[if_pos];rw[<-HA.out]
       rw[this];exact⟨by rw[aX (by omega)];exact r0,by rw[aX (by omega)];exact r1⟩
      ·rw[rX,yH];exact iG (by omega)
    | none=>
     simp only[Kj]at H3;simp only[Kj];go_upto_region 10 with fail;clear y3 z3;generalize jR:w2.setCell _ _=w3;have hb9:=H3.out;rw[jR]at hb9;clear jR H3;obtain⟨tT,rX,f3,jL,rJ,yH⟩:=hb9;obtain⟨jV,eQ,vC,uA,kP,r0,r1,r3,cV,hX⟩:=H1.out;obtain⟨D3,E8⟩:=ai (D1.setIfInBounds (i*4+3) (Value.iface 123 (.int .i64 (-1))));rw[<-E8]at jL rJ;have y0:w3.cell? ⟨S,i*4,none⟩=some (.bool false):=by rw[cell_of jL,E8,aX (by omega)];exact r0
     have z0:=aW jL (i*4);have wY:=bI (o:=i*4) jL (.bool true);have f4:Fr [S] w3 (w3.setCell ⟨S,i*4,none⟩ (.bool true)):=(Fr.refl [S] w3).setCell (by simp) _;have y1:(w3.setCell ⟨S,i*4,none⟩ (.bool true)).cell? ⟨S,i*4+1,none⟩=some (.int .i64 0):=by rw[cell_of wY,aX (by omega),E8,aX (by omega)];exact r1
     have z1:=aW wY (i*4+1);have DA:=rJ.rL f4 wY (by rw[rA]);have LY:=bI (o:=i*4+1) wY (.int .i64 3);have f5:Fr [S] (w3.setCell ⟨S,i*4,none⟩ (.bool true)) ((w3.setCell ⟨S,i*4,none⟩ (.bool true)).setCell ⟨S,i*4+1,none⟩ (.int .i64 3)):=(Fr.refl [S] _).setCell (by simp) _;have yI:=DA.rL f5 LY (by rw[rA]);have fF:=(f3.trans f4).trans f5;have H4:=cJ tT rX yH E8 yI fF;clear tT rX yH E8 yI fF jV eQ vC uA kP r0 r1 r3 cV hX f3 f4 f5 jL wY LY rJ DA;go_wp2;clear y0 z0 y1 z1;go_roundg k;case measure=>omega
     case rel=>
      obtain⟨tT,rX,yH,E8,yI,fF⟩:=H4.out;obtain⟨jV,eQ,vC,uA,kP,r0,r1,r3,cV,hX⟩:=H1.out;have zbD:D3.size=D1.size:=by rw[E8,rA]
      refine⟨i+1,C1,_,rfl,by omega,tT.next HM.out yI (fF.mono (λx hx=>.inl (by simp at hx;simp[hx]))) (λ_ _=>rfl) (λj hj=>by rw[aX (by omega),aX (by omega),E8,aX (by omega)]) ?_ ?_⟩
      ·have:eD (ms.map (·.1)) i ⟨6,xa,xs,xc,xd,xb,xo⟩=some (.error 3):=by unfold eD;simp only[if_pos];rw[<-HA.out]
       rw[this];exact⟨by rw[aX (by omega)];exact iG (by omega),iG (by rw[rA];omega),by decide⟩
      ·rw[rX,yH,aX (by omega),aX (by omega),E8];exact iG (by omega)
   ·have g6:((xk:Int)==6)=false:=by simp;omega
    by_cases h7:xk=7
    ·subst h7;have g7:(((7:Nat):Int)==7)=true:=by decide
     clear b0 k4;obtain⟨jV,eQ,vC,uA,kP,r0,r1,r3,cV,hX⟩:=H1.out;have y3:w1.cell? ⟨S,i*4+3,none⟩=some .nilIface:=by rw[cell_of jV.rb.sb];exact r3
     have z3:=aW jV.rb.sb (i*4+3);have f3:Fr [S] w1 (w1.setCell ⟨S,i*4+3,none⟩ (.iface 124 (.string (str xb)))):=(Fr.refl [S] w1).setCell (by simp) _;have jL:(w1.setCell ⟨S,i*4+3,none⟩ (.iface 124 (.string (str xb)))).heap[S]?=some (.cells (D1.setIfInBounds (i*4+3) (.iface 124 (.string (str xb)))) 100 (0,0)):=bI jV.rb.sb _;have rJ:=jV.rb.rL f3 jL (by rw[rA]);have H3:=ak f3 rJ;clear jV eQ vC uA kP r0 r1 r3 cV hX f3 jL rJ;go_wp2;clear y3 z3 b2 k0 k5;go_roundg k;case measure=>omega
     case rel=>
      obtain⟨f3,rJ⟩:=H3.out;obtain⟨jV,eQ,vC,uA,kP,r0,r1,r3,cV,hX⟩:=H1.out;refine⟨i+1,C1,_,rfl,by omega,jV.next HM.out rJ (f3.mono (λx hx=>.inl (by simp at hx;simp[hx]))) (λ_ _=>rfl) (λj hj=>by rw[aX (by omega)]) ?_ ?_⟩
      ·have:eD (ms.map (·.1)) i ⟨7,xa,xs,xc,xd,xb,xo⟩=none:=rfl;rw[this];exact⟨by rw[aX (by omega)];exact r0,by rw[aX (by omega)];exact r1⟩
      ·have:iV (ms.map (·.1)) i ⟨7,xa,xs,xc,xd,xb,xo⟩ = .iface 124 (.string (str xb)):=rfl;rw[this];exact iG (by omega)
    ·have g7:((xk:Int)==7)=false:=by simp;omega
     clear b0;obtain⟨jV,eQ,vC,uA,kP,r0,r1,r3,cV,hX⟩:=H1.out;have y0:w1.cell? ⟨S,i*4,none⟩=some (.bool false):=by rw[cell_of jV.rb.sb];exact r0
     have z0:=aW jV.rb.sb (i*4);clear jV eQ vC uA kP r0 r1 r3 cV hX k4 k5;go_upto_region 6 with fail;clear y0 z0 b2 k0 g6 g7;obtain⟨jV,eQ,vC,uA,kP,r0,r1,r3,cV,hX⟩:=H1.out;have dE:(w1.setCell ⟨S,i*4,none⟩ (.bool true)).heap[S]?=some (.cells (D1.setIfInBounds (i*4) (.bool true)) 100 (0,0)):=bI jV.rb.sb _;have f2:Fr [S] w1 (w1.setCell ⟨S,i*4,none⟩ (.bool true)):=(Fr.refl [S] w1).setCell (by simp) _;generalize w1.setCell ⟨S,i*4,none⟩ (.bool true)=w2 at *;have lJ:=jV.rb.rL f2 dE (by rw[rA]);obtain⟨D2,sR⟩:=ai (D1.setIfInBounds (i*4) (.bool true));rw[<-sR]at lJ dE;have k0:w2.cell? ⟨X,0,none⟩=some (.int .i64 xk):=f2.cell (by rw[cell_of eQ];rfl) (by simp;exact uA);have k4:w2.cell? ⟨X,4,none⟩=some (.slice da dl dl):=f2.cell (by rw[cell_of eQ];rfl) (by simp;exact uA);have JU:X∉[O]:=by simp;exact vC
     have s0:∀x,(sup [O] w2.drew x).cell? ⟨X,0,none⟩=some (.int .i64 xk):=λx=>(dY [O] w2.drew x).cell (show w2.drew.cell? _=_ from k0) JU
     have s4:∀x,(sup [O] w2.drew x).cell? ⟨X,4,none⟩=some (.slice da dl dl):=λx=>(dY [O] w2.drew x).cell (show w2.drew.cell? _=_ from k4) JU
     have H2:=aG lJ f2 sR dE;clear jV eQ vC uA kP r0 r1 r3 cV hX lJ sR f2 k0 k4 JU dE;refine j4 9 [(false,0),(false,1),(false,2),(false,3),(false,4),(false,5),(true,6),(true,7),(true,8)] [O] (by kernel_rfl) (by kernel_rfl) (λ_ _ d _ _ h=>by cases d<;>exact h) ?_;simp only[jm];refine dT 6 rfl ?_;simp only[bD];repeat (go_big_quiet_step (fail))
     refine wpQuiet_nil ?_;clear s0 s4;refine eT rfl ?_;intro X1 nC;have lJ:=H2.out.1.fr (Fr.av [] w2);have xr:=H.out.2.2.2 _ (gB HM.out);have hc:=za4 da xd.length xd w2.drew (lJ.ents.dat _ (gB HM.out)) (by have:xd.length<=2147483647:=xr;omega);rw[<-HD.out]at hc;have HC:=ak hc xr;clear hc xr lJ;go_wp2_with (go_at_call 37;refine HC.o0.mono ?_;rintro e w3 ⟨a3,cc,rfl,r3,l3,m3,b3,f3⟩);refine nC.out _ _ (f3.mono (by simp)) ?_;clear nC X1;have H3:=aQ r3 l3 m3 b3 f3;clear r3 l3 m3 b3 f3;refine eT rfl ?_;intro X1 nC;go_wp2_with (go_at_call 29;refine (M3 a3 xd.length cc _ H3.out.2.1 H3.out.2.2.1).mono ?_;rintro e w4 ⟨rfl,rfl⟩);refine nC.out _ _ (Fr.refl _ _) ?_;clear nC X1;refine eT rfl ?_;intro X1 nC;have fw:Fr [O,S] w w4:=by have:=H1.out.1.fr.trans ((H2.out.2.1.mono (λx hx=>.inl (by simp at hx;simp[hx]))).trans (((Fr.av [] w2).trans H3.out.2.2.2.2).mono (by simp)));exact this
     have cm:=qyg g O S gv tv _ ms C1 D2 i _ (xk:Nat) a3 xd.length xd w4 (H2.out.1.fr ((Fr.av [] w2).trans H3.out.2.2.2.2)) HM.out ⟨H3.out.1.cs,ay _,ck H3.out.2.1 H3.out.2.2.1,λh=>by have:=H3.out.1.nil h;have:=H3.out.2.1;omega⟩ (by have:xd.length<=2147483647:=HC.l1;omega) (H.out.2.2.1 _ fw);have HS:=ah cm;clear cm fw;go_wp2_with (go_at_call 79;refine HS.out.mono ?_;rintro e w5 ⟨rfl,f5,C2,yI,vF,uB⟩);refine nC.out _ _ f5 ?_;clear nC X1;have H5:=aG f5 yI vF uB;clear f5 yI vF uB;refine ic ?_;go_wp2;go_roundg k;case measure=>omega
     case rel=>
      obtain⟨f5,yI,vF,uB⟩:=H5.out;obtain⟨jV,eQ,vC,uA,kP,r0,r1,r3,cV,hX⟩:=H1.out;obtain⟨lJ,f2,sR,dE⟩:=H2.out;obtain⟨q3,l3,m3,b3,f3⟩:=H3.out;have rd:=jV.deep i (ay _) (by rw[<-H.out.2.1];omega);have fF:Fr [O,S] w1 w5:=((f2.mono (λx hx=>.inl (by simp at hx;simp[hx]))).trans (((Fr.av [] w2).trans f3).mono (by simp))).trans (f5.mono (λx hx=>.inl (by simp at hx;simp[hx])));have Ut:∀j,j≠i*4->D2[j]?=D1[j]?:=λj hj=>by rw[sR,aX (kC hj)]
      refine⟨i+1,C2,D2,rfl,by omega,jV.next HM.out yI fF vF (λj hj=>Ut j (by omega)) ?_ ?_⟩
      ·have:eD (ms.map (·.1)) i ⟨xk,xa,xs,xc,xd,xb,xo⟩=some (.ok (whole ⟨xk,xa,xs,xc,xd,xb,xo⟩ xk xd,0)):=by unfold eD;rw[if_neg h6,if_neg h7]
       rw[this];refine⟨by rw[sR];exact iG (by omega),by rw[Ut _ (by omega)];exact r1,by rw[Ut _ (by omega)];exact rd,by decide,a3,xd.length,uB,?_,λy hy=>?_,HC.l1⟩
       ·show lib.Rd w5 a3 xd.length xd;exact Rd.gJ ⟨q3.cs,ay _,ck l3 m3,λh=>by have:=q3.nil h;omega⟩ f5 (λx hx hm=>by have:=(b3 x hx).1;have:=lt_of_block lJ.ob;simp at hm;simp at *;omega)
       ·have:=(b3 y hy).1;have h1:=lt_of_block lJ.ob;have h2:=lt_of_block lJ.sb;have:w2.drew.heap.size=w2.heap.size:=rfl;omega
      ·have:iV (ms.map (·.1)) i ⟨xk,xa,xs,xc,xd,xb,xo⟩ = .nilIface:=by unfold iV;rw[if_neg h6,if_neg h7]
       rw[this,Ut _ (by omega)];exact r3
  ·obtain rfl:i=n:=by omega
   go_wp2;go_end0;exact⟨rfl,C1,D1,HL.out⟩
end pk

end Go.Proofs.YtkmpfgpfbmeihaaGreatDoor