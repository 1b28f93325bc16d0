/-
  Texts of this proof, one behind the other: DeltaApp, RsFin, RsClone, RsIdx, RsSt, RsStart.
-/
import Derived.Test.YtkmpfgpfbmeihaaGreatDoorU18
set_option maxHeartbeats 16000000
set_option maxRecDepth 100000
set_option linter.unusedVariables false
set_option linter.unusedSimpArgs false
namespace Go.Proofs.YtkmpfgpfbmeihaaGreatDoor
namespace delta
open Go Go.RowKit lib bm
theorem JO (x:Nat) (h:x<256):bits .and .u8 ((x:Nat):Int) 1=((x%2:Nat):Int):=by
 have h1:∀x:Fin 256,bits .and .u8 (x.1:Int) 1=((x.1%2:Nat):Int):=by decide +kernel
 exact h1 ⟨x,h⟩
theorem Ig (i:Nat):256^(i+1)=256*256^i:=by rw[pK,nE]
theorem qtp (n x i:Nat) (hi:i<4) (hn:n<256^i) (hx:x<256):∃m,(m=n+x*256^i/\m<256^(i+1))/\m<4294967296/\bits .or .i64 (n:Int) (wrap64 ((x:Int)*2^(8*i)))=(m:Int):=by
 have hp:2^(8*i)=256^i:=by rw[Nat.pow_mul]
 have h4:256^i<=256^3:=kr (by decide) (by omega);have e4:256^3=16777216:=by decide
 have jo:0<256^i:=Nat.pow_pos (by decide);have h1:x*256^i<=255*256^i:=uz _ (by omega);have h5:=Ig i;refine⟨n+x*256^i,⟨rfl,by omega⟩,by omega,?_⟩;have e:wrap64 ((x:Int)*2^(8*i))=((x*2^(8*i):Nat):Int):=by
  have:(x:Int)*2^(8*i)=((x*2^(8*i):Nat):Int):=by rw[Cz,Ao];rfl
  rw[this,hp];generalize x*256^i=y at *;simp only[wrap64];omega
 rw[e,ZU n x (8*i) (by rw[hp];exact hn) (by rw[hp];omega) (by omega),hp]
theorem UA {op f i p n:Nat} {d:List UInt8} (h:op/2^i%2=0):pl op (f+1) i p n d=pl op f (i+1) p n d:=by cases d<;>simp[pl,h]
theorem ZX {op f i p n:Nat} (h:op/2^i%2=1):pl op (f+1) i p n []=none:=by simp[pl,h]
theorem QW {op f i p n:Nat} {c:UInt8} {r:List UInt8} (h:op/2^i%2=1):pl op (f+1) i p n (c::r)=if i<4 then pl op f (i+1) (p+c.toNat*256^i) n r else pl op f (i+1) p (n+c.toNat*256^(i-4)) r:=by simp[pl,h]
def Cg (w:World) (op:Nat) (a0:Option Addr) (cap:Nat) (d:List UInt8) (e:Ending) (w':World):Prop:=
 w=w'/\((pl op 7 0 0 0 d=none/\e = .returned (.tuple #[.int .i64 0,.int .i64 0,.slice none 0 0,.bool false]))\/
  ∃p n r a c,pl op 7 0 0 0 d=some (p,n,r)/\e = .returned (.tuple #[.int .i64 (p:Nat),.int .i64 (n:Nat),.slice a r.length c,.bool true])/\(∀wz,Rd wz a0 cap d->Rd wz a c r)/\p<4294967296/\n<=16777216)
theorem qw0 (op:Nat) (a:Option Addr) (cap:Nat) (d:List UInt8) (w:World) (tW:op<256) (h:Rd w a cap d):Calls Tryz.prog 138 #[.int .u8 op,.slice a d.length cap] w (Cg w op a cap d):=by
 have H0:=af h;clear h;go_enter Tryz.func138,Tryz.ntmps138;go_wp2;go_loopg [1,4,5,8,9] 7 (λk s1 s4 s5 s8 s9 wr=>∃i p n a' c r,i+k=7/\s9 = .int .i64 (i:Nat)/\s4 = .int .i64 (p:Nat)/\s5 = .int .i64 (n:Nat)/\s1 = .slice a' r.length c/\(∀wz,Rd wz a cap d->Rd wz a' c r)/\(i<=4->p<256^i)/\p<4294967296/\n<256^(i-4)/\pl op k i p n r=pl op 7 0 0 0 d/\w=wr);case atStart=>exact⟨0,0,0,a,cap,d,rfl,rfl,rfl,rfl,rfl,λ_ h=>h,λ_=>by decide,by decide,by decide,rfl,rfl⟩
 case round=>
  obtain⟨i,p,n,ar,cr,r,hi,rfl,rfl,rfl,rfl,jD,IJ,hp,hn,fN,rfl⟩:=hrel;have hr:=jD w H0.out;have rh:=hr.le;have H:=af hr;have Qp:=af jD;clear jD;have wP:n<16777216:=by
   have:256^(i-4)<=256^3:=kr (by decide) (by omega);have e:256^3=16777216:=by decide
   omega
  have HP:=ak IJ hn;have dv:=hr.max;unfold maxLen at dv;clear hr IJ hn;by_cases hi7:i<7
  ·obtain⟨k,rfl⟩:∃k,gk=k+1:=⟨gk-1,by omega⟩;have hb:=JO (op/2^i) (Az (Nat.div_le_self _ _) tW);have hq:((op/2^i:Nat):Int)=(op:Int)/2^i:=by rw[G6,Ao];rfl
   rw[hq]at hb;clear hq;by_cases hbit:op/2^i%2=0
   ·rw[UA hbit]at fN;rw[hbit]at hb;have ug:=af fN;clear fN hbit;go_wp2;go_roundg k;case measure=>omega
    case rel=>exact⟨i+1,p,n,ar,cr,r,by omega,by go_num,rfl,rfl,rfl,Qp.out,λh=>eT (HP.out.1 (by omega)) (kr (by decide) (by omega)),hp,eT HP.out.2 (kr (by decide) (by omega)),ug.out,rfl⟩
   ·have BF:op/2^i%2=1:=by omega
    rw[BF]at hb;have ug:=ak BF fN;clear fN hbit BF;cases r with
    | nil=>
     go_wp2;refine bodyPost_ret (KM rfl _ _ _) rfl ?_;exact⟨rfl,.inl ⟨by rw[<-ug.out.2,ZX ug.out.1],rfl⟩⟩
    | cons x t=>
     obtain⟨g,o,rfl,hc⟩:=H.out.at (i:=0) (by simp);have hx:x.toNat<256:=iB x;simp only[jS,List.getElem_cons_zero]at hc;obtain⟨xn,Ns⟩:=ah x.toNat;rw[<-Ns]at hc hx;have HX:=af Ns;simp only[cQ]at rh;clear Ns;by_cases hi4:i<4
     ·obtain⟨m,hm,Bi,uS⟩:=qtp p xn i hi4 (HP.out.1 (by omega)) hx;have HM:=af hm;clear hm;go_wp2_with (refine vK aq 1 rfl _ _ rfl (some ⟨g,o,none⟩) (t.length+1) cr _ rfl rfl rfl (by omega) (by omega) ?_);go_roundg k;case measure=>omega
      case rel=>have fN:=ug.out.2;rw[QW ug.out.1,if_pos hi4,<-HX.out,<-HM.out.1]at fN;exact⟨i+1,m,n,_,_,t,by omega,by go_num,rfl,rfl,rfl,λwz hz=>(Qp.out wz hz).drop 1 (by simp),λ_=>HM.out.2,Bi,eT HP.out.2 (kr (by decide) (by omega)),fN,rfl⟩
     ·obtain⟨j,hj⟩:∃j,i=j+4:=⟨i-4,by omega⟩;have jW:(i:Int)-4=(j:Int):=by omega
      obtain⟨m,hm,Bi,uS⟩:=qtp n xn j (by omega) (by have:=HP.out.2;rw[hj]at this;simpa using this) hx;have HM:=af hm;have HJ:=af hj;clear hm hj;go_wp2_with (refine vK aq 1 rfl _ _ rfl (some ⟨g,o,none⟩) (t.length+1) cr _ rfl rfl rfl (by omega) (by omega) ?_);go_roundg k;case measure=>omega
      case rel=>
       have fN:=ug.out.2;have e:i-4=j:=by omega
       rw[QW ug.out.1,if_neg hi4,<-HX.out,e,<-HM.out.1]at fN;exact⟨i+1,p,m,_,_,t,by omega,by go_num,rfl,rfl,rfl,λwz hz=>(Qp.out wz hz).drop 1 (by simp),λh=>by omega,hp,by rw[show i+1-4=j+1 from by omega];exact HM.out.2,fN,rfl⟩
  ·obtain rfl:i=7:=by omega
   obtain rfl:gk=0:=by omega
   have ug:=af fN;clear fN;by_cases qg:n=0
   ·subst qg;go_wp2;refine bodyPost_ret (KM rfl _ _ _) rfl ?_;exact⟨rfl,.inr ⟨p,65536,r,ar,cr,by rw[<-ug.out,pl,if_pos rfl],rfl,Qp.out,hp,by decide⟩⟩
   ·have hb:((n:Int)==0)=false:=by simp;omega
    go_wp2;refine bodyPost_ret (KM rfl _ _ _) rfl ?_;exact⟨rfl,.inr ⟨p,n,r,ar,cr,by rw[<-ug.out,pl,if_neg qg],rfl,Qp.out,hp,by omega⟩⟩
theorem L5 (op:Nat):∀(f i p n:Nat) (d:List UInt8) (x:Nat×Nat×List UInt8),pl op f i p n d=some x->x.2.2.length<=d.length
 | 0,i,p,n,d,x,h=>by simp[pl]at h;rw[<-h];exact aw _
 | f+1,i,p,n,d,x,h=>by
  by_cases hb:op/2^i%2=0
  ·rw[UA hb]at h;exact L5 op f _ _ _ _ _ h
  ·have fx:op/2^i%2=1:=by omega
   cases d with
   | nil=>rw[ZX fx]at h;cases h
   | cons c r=>
    rw[QW fx]at h;simp only[cQ];split at h
    ·have:=L5 op f _ _ _ _ _ h;omega
    ·have:=L5 op f _ _ _ _ _ h;omega
theorem QR (base:List UInt8) (tn f:Nat) (out:List UInt8):app base tn f [] out=if out.length<tn then ([],3) else (out,0):=by cases f<;>rfl
theorem Ky (base:List UInt8) (tn f:Nat) (c:UInt8) (r out:List UInt8):app base tn (f+1) (c::r) out=if 128<=c.toNat then match pl (c.toNat-128) 7 0 0 0 r with
   | none=>([],4)
   | some (p,n,rest)=>if base.length<p\/base.length-p<n\/tn-out.length<n then ([],3) else app base tn f rest (out++(base.drop p).take n)
  else if c.toNat=0\/tn-out.length<c.toNat then ([],3) else if r.length<c.toNat then ([],4) else app base tn f (r.drop c.toNat) (out++r.take c.toNat):=rfl
def Applied (w:World) (base d:List UInt8) (bound:Int) (e:Ending) (w':World):Prop:=
 ∃a,e = .returned (.tuple #[.slice a (delta.apply base d bound).1.length (delta.apply base d bound).1.length,.int .i64 (delta.apply base d bound).2])/\Rd w' a (delta.apply base d bound).1.length (delta.apply base d bound).1/\
  (∀x∈ae a,w.heap.size<=x/\x<w'.heap.size)/\Fr [] w w'
theorem qoh {w w':World} {base d out:List UInt8} {bound:Int} {x:Nat} {a:Option Addr} (h:delta.apply base d bound=(out,x)) (hr:Rd w' a out.length out) (hn:∀x∈ae a,w.heap.size<=x/\x<w'.heap.size) (f:Fr [] w w') :
  Applied w base d bound (.returned (.tuple #[.slice a out.length out.length,.int .i64 x])) w':=by
 unfold Applied;rw[h];exact⟨a,rfl,hr,hn,f⟩
theorem Ax {w w':World} {base d:List UInt8} {bound:Int} {x:Nat} (h:delta.apply base d bound=([],x)) (f:Fr [] w w') :
  Applied w base d bound (.returned (.tuple #[.slice none 0 0,.int .i64 x])) w':=qoh (out:=[]) h (Rd.none _) (by simp[ae]) f
structure Ap (w wr:World) (base:List UInt8) (tn:Nat) (k:Nat) (r:List UInt8) (out:List UInt8) (a:Option Addr) (c:Nat) (R:List UInt8×Nat):Prop where
 own:wr.ownsRow 0 5 1 (.slice a out.length c) out.length (out.map bv)
 fr:Fr [] w wr
 new:∀x∈ae a,w.heap.size<=x
 few:out.length<=tn
 fuel:r.length<=k
 all:app base tn k r out=R
theorem Ap.more {w wr w2:World} {base:List UInt8} {tn k k':Nat} {r r' out news:List UInt8} {a a2:Option Addr} {c c2 m:Nat} {R:List UInt8×Nat} (h:Ap w wr base tn k r out a c R) (hm:news.length=m)
  (A:aW wr w2 5 1 (ae a) a2 (out.length+m) c2 (out.map bv++news.map bv)) (hf:out.length+m<=tn) (hr:r'.length<=k') (aE:app base tn k' r' (out++news)=R):Ap w w2 base tn k' r' (out++news) a2 c2 R:=by
 refine⟨by rw[aK,hm,gB];exact A.own,h.fr.step A.fr λy hy=>.inr (h.new y hy),λy hy=>?_,by rw[aK,hm];exact hf,hr,aE⟩;rcases A.at_ y hy with h1|h1
 ·exact h.new y h1
 ·have:=h.fr.size;omega
theorem qzn (a b:Option Addr) (cap JI:Nat) (base d:List UInt8) (bound:Int) (w:World) (hb:Rd w a cap base) (hd:Rd w b JI d):Calls Tryz.prog 112 #[.slice a base.length cap,.slice b d.length JI,.int .i64 bound] w (Applied w base d bound):=by
 have h1:=qwh b JI d w hd;unfold tM at h1;obtain⟨hto,_⟩:=qtf d;have bI:∀x,delta.sizes d=x->delta.apply base d bound=if x.2.2.2≠0 then ([],x.2.2.2) else if x.1≠base.length then ([],3) else if bound.toNat<x.2.1 then ([],5) else app base x.2.1 x.2.2.1.length x.2.2.1 []:=by rintro x rfl;rfl
 generalize delta.sizes d=x at *;have bI:=bI x rfl;obtain⟨n,m,r,e⟩:=x;simp only at h1 hto bI;have zbU:=hb.le;have SM:=hb.max;unfold maxLen at SM;have H:=ak h1 hb;have hmx:((bound.toNat:Nat):Int)=if 0>bound then 0 else bound:=by split<;>omega
 generalize bound.toNat=bt at *;have HM:=af hmx;clear h1 hb hd hmx;by_cases he:e=0
 ·subst he;rw[if_neg (by simp)]at bI;by_cases hn:n=base.length
  ·rw[if_neg (by simp[hn])]at bI;by_cases lY:bt<m
   ·rw[if_pos lY]at bI;have HA:=af bI;have wR:((n:Int)!=base.length)=false:=by simp[hn]
    clear bI;go_enter Tryz.func112,Tryz.ntmps112;go_wp2_with (first|(go_at_call 137;refine H.o0.mono ?_;rintro e1 w1 ⟨a1,c1,rfl,r1,f1⟩;have H1:=ak r1 f1;clear r1 f1)|(refine Fy (bt:Int) rfl _ _ _ rfl bound 0 rfl rfl HM.out ?_));go_ret2;exact Ax HA.out H1.l1
   ·rw[if_neg lY]at bI;obtain⟨R,hR⟩:∃R,app base m r.length r []=R:=⟨_,rfl⟩;rw[hR]at bI;have HA:=ak bI hR;have wR:((n:Int)!=base.length)=false:=by simp[hn]
    have BG:decide (bt<m)=false:=by simp;omega
    clear bI hR;go_enter Tryz.func112,Tryz.ntmps112;go_upto_block 1 with (first|(go_at_call 137;refine H.o0.mono ?_;rintro e1 w1 ⟨a1,c1,rfl,r1,f1⟩;have H1:=ak r1 f1;clear r1 f1)|(refine Fy (bt:Int) rfl _ _ _ rfl bound 0 rfl rfl HM.out ?_));go_wp2;go_loopg [1,11] r.length (λk s1 s11 wr=>∃ar cr q ao co out,s1 = .slice ar q.length cr/\s11 = .slice ao out.length co/\Rd w1 ar cr q/\Ap w1 wr base m k q out ao co R);case atStart=>exact⟨a1,c1,r,none,0,[],rfl,rfl,H1.o0,v8 _ _ _ _,Fr.refl _ _,by simp[ae],dZ _,aw _,HA.out.2⟩
    case round=>
     obtain⟨ar,cr,q,ao,co,out,rfl,rfl,hq,h⟩:=hrel;have HQ:=af hq;have uP:=hq.le;have NT:=hq.max;unfold maxLen at NT;have lW:=h.few;have Gg:=h.fuel;obtain⟨Bd,_⟩:=wh h.own;have CS:=Bd.le;have Sy:=Bd.max;unfold maxLen at Sy;have G:=af h;clear hq h Bd;cases q with
     | nil=>
      have aE:=G.out.all;rw[QR]at aE;by_cases aY:out.length<m
      ·rw[if_pos aY]at aE;have im:=af aE;clear aE;go_wp2;go_ret2;exact Ax (by rw[HA.out.1,<-im.out]) (H1.l1.trans G.out.fr)
      ·rw[if_neg aY]at aE;have im:=af aE;clear aE;go_wp2;go_ret2;have h:=G.out;obtain⟨r2,_⟩:=wh h.own;exact qoh (by rw[HA.out.1,<-im.out]) ⟨r2.cs,aw _,bS r2.le r2.max,λe=>by have:=r2.nil e;omega⟩ (λy hy=>⟨bS H1.l1.size (h.new y hy),qR h.own (pI hy)⟩) (H1.l1.trans h.fr)
     | cons x t=>
      obtain⟨k,rfl⟩:∃k,gk=k+1:=⟨gk-1,by simp at Gg;omega⟩;simp only[cQ]at uP Gg;obtain⟨g,o,rfl,hc⟩:=HQ.out.at (i:=0) (by simp);have hc:=G.out.fr.cell hc (by simp);have hx:x.toNat<256:=iB x;simp only[jS,List.getElem_cons_zero]at hc;have aE:=G.out.all;rw[Ky]at aE;have ha:=Ce x;have bP:=HQ.out.drop 1 (by simp);rw[xH,yU]at bP;generalize x.toNat=xn at *;have zD:=af bP;have mW:∀wz,Fr [] w1 wz->Rd wz (aL (some ⟨g,o,none⟩) cr 1 1) (cr-1) t:=λwz f=>zD.out.fr f
      obtain⟨at1,Yn⟩:=ah (aL (some ⟨g,o,none⟩) cr 1 1);obtain⟨S,hS⟩:=ah (ae ao);have HS:=af hS;clear bP mW hS Yn;by_cases h128:128<=xn
      ·rw[if_pos h128]at aE;rw[show xn%128=xn-128 from by omega]at ha;obtain⟨op,tW⟩:=ah (xn-128);rw[<-tW]at ha aE;have fN:=λw h=>qw0 op (aL (some ⟨g,o,none⟩) cr 1 1) (cr-1) t w (by omega) h
       unfold Cg at fN;have hlen:=L5 op 7 0 0 0 t;generalize pl op 7 0 0 0 t=y at *;clear tW;cases y with
       | none=>
        have Ba:∀w,Rd w (aL (some ⟨g,o,none⟩) cr 1 1) (cr-1) t->Calls Tryz.prog 138 #[.int .u8 op,.slice (aL (some ⟨g,o,none⟩) cr 1 1) t.length (cr-1)] w λe w'=>w=w'/\e = .returned (.tuple #[.int .i64 0,.int .i64 0,.slice none 0 0,.bool false]):=
         λw h=>(fN w h).mono λe w' ⟨h1,h2⟩=>by
          rcases h2 with⟨_,h2⟩|⟨p,n,r,a,c,h3,_⟩
          ·exact⟨h1,h2⟩
          ·cases h3
        have im:=af aE;have ug:=af Ba;clear aE fN Ba;go_wp2_with (first|(refine vK aq 1 rfl _ _ rfl (some ⟨g,o,none⟩) (t.length+1) cr _ rfl rfl rfl (by omega) (by omega) ?_)|(go_at_call 138;refine (ug.out _ (zD.out.fr G.out.fr)).mono ?_;rintro e w2 ⟨rfl,rfl⟩));go_ret2;exact Ax (by rw[HA.out.1,<-im.out]) (H1.l1.trans G.out.fr)
       | some y=>
        obtain⟨p,nn,rest⟩:=y;have Ba:∀w,Rd w (aL (some ⟨g,o,none⟩) cr 1 1) (cr-1) t->Calls Tryz.prog 138 #[.int .u8 op,.slice (aL (some ⟨g,o,none⟩) cr 1 1) t.length (cr-1)] w λe w'=>w=w'/\∃a c,e = .returned (.tuple #[.int .i64 (p:Nat),.int .i64 (nn:Nat),.slice a rest.length c,.bool true])/\(∀wz,Rd wz (aL (some ⟨g,o,none⟩) cr 1 1) (cr-1) t->Rd wz a c rest)/\p<4294967296/\nn<=16777216:=
         λw h=>(fN w h).mono λe w' ⟨h1,h2⟩=>by
          rcases h2 with⟨h3,_⟩|⟨p',n',r',a,c,h3,h4,h5⟩
          ·cases h3
          ·cases h3
           exact⟨h1,a,c,h4,h5⟩
        have hlen:=hlen _ rfl;simp only at hlen aE;have ug:=af Ba;clear fN Ba;by_cases iX:base.length<p\/base.length-p<nn\/m-out.length<nn
        ·rw[if_pos iX]at aE;have im:=af aE;clear aE;by_cases fx:base.length<p
         ·have b1:decide (base.length<p)=true:=by simpa using fx
          clear iX;go_wp2_with (first|(refine vK aq 1 rfl _ _ rfl (some ⟨g,o,none⟩) (t.length+1) cr _ rfl rfl rfl (by omega) (by omega) ?_)|(go_at_call 138;refine (ug.out _ (zD.out.fr G.out.fr)).mono ?_;rintro e w2 ⟨rfl,a9,c9,rfl,h9,xU,Xs⟩;have H9:=af h9;clear h9));go_ret2;exact Ax (by rw[HA.out.1,<-im.out]) (H1.l1.trans G.out.fr)
         ·have b1:decide (base.length<p)=false:=by simpa using fx
          by_cases jY:base.length-p<nn
          ·have b2:decide ((base.length:Int)-p<nn)=true:=by simp;omega
           clear iX;go_wp2_with (first|(refine vK aq 1 rfl _ _ rfl (some ⟨g,o,none⟩) (t.length+1) cr _ rfl rfl rfl (by omega) (by omega) ?_)|(go_at_call 138;refine (ug.out _ (zD.out.fr G.out.fr)).mono ?_;rintro e w2 ⟨rfl,a9,c9,rfl,h9,xU,Xs⟩;have H9:=af h9;clear h9));go_ret2;exact Ax (by rw[HA.out.1,<-im.out]) (H1.l1.trans G.out.fr)
          ·have b2:decide ((base.length:Int)-p<nn)=false:=by simp;omega
           have b3:decide ((m:Int)-out.length<nn)=true:=by simp;omega
           clear iX;go_wp2_with (first|(refine vK aq 1 rfl _ _ rfl (some ⟨g,o,none⟩) (t.length+1) cr _ rfl rfl rfl (by omega) (by omega) ?_)|(go_at_call 138;refine (ug.out _ (zD.out.fr G.out.fr)).mono ?_;rintro e w2 ⟨rfl,a9,c9,rfl,h9,xU,Xs⟩;have H9:=af h9;clear h9));go_ret2;exact Ax (by rw[HA.out.1,<-im.out]) (H1.l1.trans G.out.fr)
        ·rw[if_neg iX]at aE;have im:=af aE;have xV:p<=base.length/\nn<=base.length-p/\nn<=m-out.length:=by omega
         have b1:decide (base.length<p)=false:=by simp;omega
         have b2:decide ((base.length:Int)-p<nn)=false:=by simp;omega
         have b3:decide ((m:Int)-out.length<nn)=false:=by simp;omega
         have lh:=(H.l1.fr (H1.l1.trans G.out.fr)).mid p nn (by omega);obtain⟨news,xW⟩:=ah ((base.drop p).take nn);rw[<-xW]at lh;have tq:news.length=nn:=by rw[xW,eJ,eQ];omega
         have nW:=au lh xW tq;clear iX aE lh xW tq;go_wp2_with (first|(refine vK aq 1 rfl _ _ rfl (some ⟨g,o,none⟩) (t.length+1) cr _ rfl rfl rfl (by omega) (by omega) ?_)|(go_at_call 138;refine (ug.out _ (zD.out.fr G.out.fr)).mono ?_;rintro e w2 ⟨rfl,a9,c9,rfl,h9,xU,Xs⟩;have H9:=af h9;clear h9)|(refine qls aq p nn rfl _ _ _ rfl a base.length cap _ _ rfl rfl rfl rfl rfl (by omega) ?_)|(refine iq aq rfl _ _ rfl (.slice ao out.length co) out.length (out.map bv) S rfl (by rw[dw,HS.out]) G.out.own (cutAt a cap p) nn (cap-p) (news.map bv) rfl (by omega) nW.o0.nil nW.o0.cs (by rw[cN,nW.l2,qV]) (jQ _) (by omega) (by unfold maxLen;omega) ?_;intro a2 c2 w2 A1;have xv:=af A1;clear A1));go_roundg k;case measure=>omega
         case rel=>have A1:=xv.out;rw[HS.out]at A1;have h:=G.out.more nW.l2 A1 (k':=k) (r':=rest) (by omega) (by omega) (by rw[nW.o1];exact im.out);exact⟨a9,c9,rest,a2,c2,out++news,rfl,by rw[aK,nW.l2],H9.out w1 zD.out,h⟩
      ·rw[if_neg h128]at aE;by_cases iX:xn=0\/m-out.length<xn
       ·rw[if_pos iX]at aE;have im:=af aE;clear aE;by_cases gM:xn=0
        ·subst gM;clear iX;go_wp2_with (first|(refine vK aq 1 rfl _ _ rfl (some ⟨g,o,none⟩) (t.length+1) cr _ rfl rfl rfl (by omega) (by omega) ?_));go_ret2;exact Ax (by rw[HA.out.1,<-im.out]) (H1.l1.trans G.out.fr)
        ·have b1:((xn:Int)==0)=false:=by simp;omega
         have b3:decide ((m:Int)-out.length<xn)=true:=by simp;omega
         clear iX;go_wp2_with (first|(refine vK aq 1 rfl _ _ rfl (some ⟨g,o,none⟩) (t.length+1) cr _ rfl rfl rfl (by omega) (by omega) ?_));go_ret2;exact Ax (by rw[HA.out.1,<-im.out]) (H1.l1.trans G.out.fr)
       ·rw[if_neg iX]at aE;have b1:((xn:Int)==0)=false:=by simp;omega
        have b3:decide ((m:Int)-out.length<xn)=false:=by simp;omega
        have hxp:1<=xn/\xn<=m-out.length:=by omega
        by_cases hlong:t.length<xn
        ·rw[if_pos hlong]at aE;have im:=af aE;clear aE iX;go_wp2_with (first|(refine vK aq 1 rfl _ _ rfl (some ⟨g,o,none⟩) (t.length+1) cr _ rfl rfl rfl (by omega) (by omega) ?_));go_ret2;exact Ax (by rw[HA.out.1,<-im.out]) (H1.l1.trans G.out.fr)
        ·rw[if_neg hlong]at aE;have im:=af aE;have lh:=(zD.out.fr G.out.fr).take xn;have aG:=zD.out.drop xn (by omega);have tq:(t.take xn).length=xn:=by rw[eJ];omega
         have nW:=au lh aG tq;clear aE lh aG tq iX;go_wp2_with (first|(refine vK aq 1 rfl _ _ rfl (some ⟨g,o,none⟩) (t.length+1) cr _ rfl rfl rfl (by omega) (by omega) ?_)|(refine qhx aq xn rfl _ _ rfl (aL (some ⟨g,o,none⟩) cr 1 1) t.length (cr-1) _ rfl rfl rfl (by omega) ?_)|(refine iq aq rfl _ _ rfl (.slice ao out.length co) out.length (out.map bv) S rfl (by rw[dw,HS.out]) G.out.own (aL (some ⟨g,o,none⟩) cr 1 1) xn (cr-1) ((t.take xn).map bv) rfl (by omega) nW.o0.nil nW.o0.cs (by rw[cN,nW.l2,qV]) (jQ _) (by omega) (by unfold maxLen;omega) ?_;intro a2 c2 w2 A1;have xv:=af A1;clear A1)|(refine vK aq xn rfl _ _ rfl (aL (some ⟨g,o,none⟩) cr 1 1) t.length (cr-1) _ rfl rfl rfl (by omega) (by omega) ?_));go_roundg k;case measure=>omega
         case rel=>have A1:=xv.out;rw[HS.out]at A1;have h:=G.out.more nW.l2 A1 (k':=k) (r':=t.drop xn) (by omega) (by rw[eQ];omega) im.out;exact⟨_,_,t.drop xn,a2,c2,out++t.take xn,by rw[eQ],by rw[aK,nW.l2],nW.o1,h⟩
  ·rw[if_pos hn]at bI;have HA:=af bI;have wR:((n:Int)==base.length)=false:=by simp;omega
   have iJ:((n:Int)!=base.length)=true:=by simp;omega
   clear bI;go_enter Tryz.func112,Tryz.ntmps112;go_wp2_with (first|(go_at_call 137;refine H.o0.mono ?_;rintro e1 w1 ⟨a1,c1,rfl,r1,f1⟩;have H1:=ak r1 f1;clear r1 f1));go_ret2;exact Ax HA.out H1.l1
 ·rw[if_pos (by simpa using he)]at bI;have HA:=af bI;have hb:((e:Int)==0)=false:=by simp;omega
  have jY:((e:Int)!=0)=true:=by simp;omega
  clear bI he;go_enter Tryz.func112,Tryz.ntmps112;go_wp2_with (first|(go_at_call 137;refine H.o0.mono ?_;rintro e1 w1 ⟨a1,c1,rfl,r1,f1⟩;have H1:=ak r1 f1;clear r1 f1));go_ret2;exact Ax HA.out H1.l1
end delta
namespace pk
open Go Go.RowKit lib bm
theorem Ur (base:List UInt8) (tn:Nat):∀(f:Nat) (d out:List UInt8),out.length<=tn->(delta.app base tn f d out).1.length<=tn
 | f,[],out,h=>by
  rw[delta.QR];split
  ·exact dZ _
  ·exact h
 | 0,_::_,out,h=>dZ _
 | f+1,c::r,out,h=>by
  rw[delta.Ky];split
  ·split
   ·exact dZ _
   ·split
    ·exact dZ _
    ·refine Ur base tn f _ _ ?_;rw[aK,eJ,eQ];omega
  ·split
   ·exact dZ _
   ·split
    ·exact dZ _
    ·refine Ur base tn f _ _ ?_;rw[aK,eJ];omega
theorem qrf (base d:List UInt8) (bound:Int):(delta.apply base d bound).1.length<=2147483647:=by
 unfold delta.apply;split
 ·exact dZ _
 ·split
  ·exact dZ _
  ·split
   ·exact dZ _
   ·exact bS (Ur _ _ _ _ _ (dZ _)) (delta.qtf d).1
def Fin (w w':World) (O S i:Nat) (C C' D D':Array Value) (res:Except Nat (Obj×Nat)):Prop:=
 (∀j,j<i*5\/i*5+5<=j->C'[j]?=C[j]?)/\(∀j,j<i*4\/i*4+3<=j->D'[j]?=D[j]?)/\D'[i*4]?=some (.bool true)/\
 match res with
 | .error x=>D'[i*4+1]?=some (.int .i64 x)/\0<x
 | .ok (o,d)=>D'[i*4+1]?=some (.int .i64 0)/\D'[i*4+2]?=some (.int .i64 (d:Nat))/\∃ba bc,(∀j v,(dG o ba bc)[j]?=some v->C'[i*5+j]?=some v)/\lib.Rd w' ba bc o.body/\(∀y∈ae ba,w.heap.size<=y/\y<w'.heap.size)/\o.body.length<=2147483647
theorem VH (g O S:Nat) (gv tv:Value) (la:Option Addr) (ms:List EM) (C D:Array Value) (i:Nat) (m:EM) (kd:Int) (fa:Option Addr) (fc:Nat) (from_:List UInt8) (d:Nat) (w:World)
  (h:Rb w g O S gv tv la ms C D) (hi:ms[i]?=some m) (hf:lib.Rd w fa fc from_) (yb:∀x∈ae fa,x≠O/\x≠S) (hd:d<=100) (hp:obj.Pw w) (he:D[i*4+1]?=some (.int .i64 0)) (SV:∀w',Fr [O,S] w w'->obj.Pw w') :
  Calls Tryz.prog 80 #[.pointer (some ⟨g,0,none⟩),.int .i64 i,.int .i64 kd,.slice fa from_.length fc,.int .i64 ((d+1:Nat):Int)] w λe w'=>e = .returned (.tuple #[])/\Fr [O,S] w w'/\
   ∃C' D',Rb w' g O S gv tv la ms C' D'/\Fin w w' O S i C C' D D' (over m.1 kd from_ d):=by
 obtain⟨n,hn⟩:=ah ms.length;have dz:i<n:=by rw[hn];exact (lA.1 hi).1
 have lW:n<=4096:=by rw[hn];exact h.few
 have b0:=cell_of h.box 0;have b2:=cell_of h.box 2;simp only[bw,aV,bN]at b0 b2;rw[<-hn]at b0 b2;have cF:i*4+4<=D.size:=by rw[h.sc,<-hn];omega
 obtain⟨x0,d0⟩:∃x,w.cell? ⟨S,i*4,none⟩=some x:=⟨D[i*4]'(by omega),by rw[cell_of h.sb];exact xG (by omega)⟩;have z0:=aO h.sb (i*4);obtain⟨dp,Ey⟩:=ah (d+1);rw[<-Ey];have hdb:dp<=101:=by omega
 obtain⟨RR,Ls⟩:=ah (over m.1 kd from_ d);rw[<-Ls];have ze:RR=if 50<dp then .error 3 else if (delta.apply from_ m.1.data 65536).2=0 then .ok (whole m.1 kd (delta.apply from_ m.1.data 65536).1,dp) else .error (delta.apply from_ m.1.data 65536).2:=by rw[Ls,Ey];rfl
 have H:=mH h hn hi hf yb hp he SV cF Ey ze;clear h hn hi hf yb hp he SV cF Ey ze Ls;go_enter Tryz.func80,Tryz.ntmps80;go_upto_region 2 with fail;obtain⟨hR,hn,hi,hf,yb,hp,he,SV,cF,Ey,ze⟩:=H.out;obtain⟨w1,cD⟩:=ah (w.setCell ⟨S,i*4,none⟩ (.bool true));rw[<-cD];obtain⟨D1,zp⟩:=ah (D.setIfInBounds (i*4) (.bool true));have f1:Fr [S] w w1:=by rw[cD];exact (Fr.refl [S] w).setCell (by simp) _
 have uO:w1.heap[S]?=some (.cells D1 100 (0,0)):=by rw[cD,zp];exact aX hR.sb _
 have oT:=hR.rB f1 uO (by rw[zp,qX]);have Jw:∀j,j≠i*4->D1[j]?=D[j]?:=λj hj=>by rw[zp,aZ (jg hj)]
 have Px:D1[i*4]?=some (.bool true):=by rw[zp];exact iu (by omega)
 have c1:w1.cell? ⟨S,i*4+1,none⟩=some (.int .i64 0):=by rw[cell_of uO,Jw _ (by omega)];exact he
 have z1:=aO uO (i*4+1);have b0:=cell_of oT.box 0;have b2:=cell_of oT.box 2;simp only[bw,aV,bN]at b0 b2;rw[<-hn]at b0 b2;have fOS:Fr [O,S] w w1:=f1.mono (λx hx=>.inl (by simp at hx;simp[hx]));have H1:=cz oT uO Jw Px ze fOS f1;clear hR hn hi hf yb hp he SV cF Ey cD zp f1 uO oT Jw Px ze fOS d0 z0;have OP:∀(wz:World) (x:Nat),Fr [] w1 wz->0<x->RR = .error x->Fr [O,S] w (wz.setCell ⟨S,i*4+1,none⟩ (.int .i64 (x:Nat)))/\∃C' D',Rb (wz.setCell ⟨S,i*4+1,none⟩ (.int .i64 (x:Nat))) g O S gv tv la ms C' D'/\Fin w (wz.setCell ⟨S,i*4+1,none⟩ (.int .i64 (x:Nat))) O S i C C' D D' RR:=λwz x fz hx hr=>by
  have hRz:=H1.out.1.fr fz;have cF:=H.out.2.2.2.2.2.2.2.2.1;have zcA:D1.size=D.size:=by rw[H1.out.1.sc,H.out.1.sc]
  refine⟨(H1.out.2.2.2.2.2.1.trans (fz.mono (by simp))).setCell (by simp) _,C,D1.setIfInBounds (i*4+1) (.int .i64 x),hRz.rB ((Fr.refl [S] wz).setCell (by simp) _) (aX hRz.sb _) (by rw[qX]),λj _=>rfl,λj hj=>?_,?_,?_⟩
  ·rw[aZ (by omega)];exact H1.out.2.2.1 j (by omega)
  ·rw[aZ (by omega)];exact H1.out.2.2.2.1
  ·rw[hr];exact⟨iu (by omega),hx⟩
 have Qu:=af OP;clear OP;by_cases h50:50<dp
 ·have hr:RR = .error 3:=by rw[H1.out.2.2.2.2.1,if_pos h50]
  have g50:decide ((50:Int)<(dp:Int))=true:=by simp;omega
  have HX:=af (Qu.out w1 3 (Fr.refl _ _) (by decide) hr);clear hr h50 b0 b2;go_wp2;refine bodyPost_ret (results_none rfl _ _ _) rfl ?_;exact⟨rfl,HX.out⟩
 ·have g50:decide ((50:Int)<(dp:Int))=false:=by simp;omega
  have hr:=H1.out.2.2.2.2.1;rw[if_neg h50]at hr;obtain⟨gb,o,fh,hce⟩:=H1.out.1.ents.cell H.out.2.2.1;have e4:=hce 4 _ (by decide) (show _=some (.slice m.2 m.1.data.length m.1.data.length) from rfl);rw[<-uy]at e4;subst fh;have bI:=delta.qzn fa m.2 fc m.1.data.length from_ m.1.data 65536 w1 (H.out.2.2.2.1.gg H1.out.2.2.2.2.2.2 (λx hx=>by simp;exact (H.out.2.2.2.2.1 x hx).2)) (H1.out.1.ents.dat m (iC H.out.2.2.1));unfold delta.Applied at bI;have mW:=qrf from_ m.1.data 65536;generalize delta.apply from_ m.1.data 65536=y at *;obtain⟨out,x⟩:=y;simp only at bI hr mW;obtain⟨dl,ic⟩:=ah m.1.data.length;rw[<-ic]at bI e4;obtain⟨fl,nN⟩:=ah from_.length;rw[<-nN]at bI ⊢;have HB:=au bI hr mW;clear bI hr hce ic nN h50;go_upto_region 5 with (go_at_call 112;refine HB.o0.mono ?_;rintro e w2 ⟨a2,rfl,r2,n2,f2⟩;have H2:=au r2 n2 f2;clear r2 n2 f2);clear e4 b0 b2 g50;have c1:=H2.l2.cell c1 (by simp);have z1:=aO (H2.l2.ae H1.out.2.1 (by simp)) (i*4+1);by_cases hx:x=0
  ·subst hx;have hr:=HB.o1;rw[if_pos rfl]at hr;have gx:((0:Int)!=0)=false:=by decide
   have mZ:=H1.out.1.fr H2.l2;have e2:D1.size=D.size:=by rw[H1.out.1.sc,H.out.1.sc]
   have cF:=H.out.2.2.2.2.2.2.2.2.1;obtain⟨x2,y2⟩:∃x,w2.cell? ⟨S,i*4+2,none⟩=some x:=⟨D1[i*4+2]'(by omega),by rw[cell_of mZ.sb];exact xG (by omega)⟩;have z2:=aO mZ.sb (i*4+2);obtain⟨w3,gN⟩:∃w3,w3=w2.setCell ⟨S,i*4+2,none⟩ (.int .i64 (dp:Nat)):=⟨_,rfl⟩;obtain⟨D2,pn⟩:∃D2,D2=D1.setIfInBounds (i*4+2) (.int .i64 (dp:Nat)):=⟨_,rfl⟩;have f3:Fr [S] w2 w3:=by rw[gN];exact (Fr.refl [S] w2).setCell (by simp) _
   have jV:w3.heap[S]?=some (.cells D2 100 (0,0)):=by rw[gN,pn];exact aX mZ.sb _
   have ru:=mZ.rB f3 jV (by rw[pn,qX]);have Yu:=lt_of_block H.out.1.sb;have WK:=H1.out.2.2.2.2.2.1.size;have BS:Fr [O,S] w w3:=(H1.out.2.2.2.2.2.1.trans (H2.l2.mono (by simp))).trans (f3.mono (λx hx=>.inl (by simp at hx;simp[hx])));have bX:=qwj g O S gv tv _ ms C D2 i m kd a2 out.length out w3 ru H.out.2.2.1 (H2.o0.gg f3 (λx hx hm=>by have:=(H2.o1 x hx).1;simp at hm;omega)) (by omega) (H.out.2.2.2.2.2.2.2.1 _ BS);obtain⟨ol,gD⟩:=ah out.length;rw[<-gD]at bX ⊢;have HS:=cz bX BS pn hr gD f3 e2;have HW:=af gN;clear bX BS pn hr gD f3 jV ru mZ e2 cF WK Yu c1 z1 gN;go_upto_region 8 with fail;rw[<-HW.out];clear y2 z2;go_wp2_with (go_at_call 79;refine HS.out.1.mono ?_;rintro e w4 ⟨rfl,f4,C',C5,vo,ud⟩;have H4:=aF f4 C5 vo ud;clear f4 C5 vo ud);go_end0;obtain⟨f4,C5,vo,ud⟩:=H4.out;obtain⟨_,BS,pn,hr,gD,f3,e2⟩:=HS.out;have cF:=H.out.2.2.2.2.2.2.2.2.1;have hO:=lt_of_block H.out.1.ob;have hS:=lt_of_block H.out.1.sb;have uO:=H1.out.2.2.2.2.2.1.size;refine⟨rfl,BS.trans (f4.mono (λx hx=>.inl (by simp at hx;simp[hx]))),C',D2,C5,vo,λj hj=>?_,?_,?_⟩
   ·rw[pn,aZ (by omega)];exact H1.out.2.2.1 j (by omega)
   ·rw[pn,aZ (by omega)];exact H1.out.2.2.2.1
   ·rw[hr];refine⟨?_,?_,a2,ol,λj v hv=>ud j v (by rw[gD]at hv ⊢;exact hv),?_,λy hy=>⟨?_,?_⟩,?_⟩
    ·rw[pn,aZ (by omega),H1.out.2.2.1 _ (by omega)];exact H.out.2.2.2.2.2.2.1
    ·rw[pn];exact iu (by omega)
    ·show lib.Rd w4 a2 ol out;rw[gD];exact (H2.o0.gg f3 (λx hx hm=>by have:=(H2.o1 x hx).1;simp at hm;omega)).gg f4 (λx hx hm=>by have:=(H2.o1 x hx).1;simp at hm;omega)
    ·have:=(H2.o1 y hy).1;omega
    ·have:=(H2.o1 y hy).2;have:=f3.size;have:=f4.size;omega
    ·exact HB.l2
  ·have hr:=HB.o1;rw[if_neg hx]at hr;have gx:((x:Int)!=0)=true:=by simp;omega
   have HX:=af (Qu.out w2 x H2.l2 (by omega) hr);clear hr hx;go_wp2;refine bodyPost_ret (results_none rfl _ _ _) rfl ?_;exact⟨rfl,HX.out⟩
def Cl (w:World) (bs:List UInt8) (e:Ending) (w':World):Prop:=
 ∃ao cap,e = .returned (.slice ao bs.length cap)/\lib.Rd w' ao cap bs/\bs.length<=cap/\cap<=maxLen/\(∀x∈ae ao,w.heap.size<=x/\x<w'.heap.size)/\Fr [] w w'
theorem qy4 (ao:Option Addr) (cap:Nat) (bs:List UInt8) (w:World) (h:lib.Rd w ao cap bs) (wU:bs.length<=140737488355328) :
  Calls Tryz.prog 37 #[.slice ao bs.length cap] w (Cl w bs):=by
 have qT:∀(w:World) (a:Option Addr) (n c n' c':Nat),(binOp .eql 23 (.slice a n c) (.slice none n' c')).run Tryz.prog w = .ok (.bool a.isNone) w:=λw a n c n' c'=>Lib.run_eql_slice_nil w _ _ a n c n' c' Tryz.underlying23
 have hcs:=h.cs;have hle:=h.le;have bY:=h.nil;have aY:=h;cases ao with
 | none=>
  have h0:=bY rfl;obtain rfl:bs=[]:=wk (by omega);go_enter Tryz.func37,Tryz.ntmps37;go_wp2;go_ret;exact⟨none,0,rfl,⟨.inl rfl,by simp,by decide,λ_=>rfl⟩,by simp,by decide,by simp[ae],Fr.refl _ _⟩
 | some a=>
  go_enter Tryz.func37,Tryz.ntmps37;go_wp2_with (refine iq aq rfl _ _ rfl (.slice (some ⟨w.heap.size,0,none⟩) 0 0) 0 [] [w.heap.size] rfl rfl ⟨rfl,.inr ⟨w.heap.size,0,#[],rfl,dZ _,bx _ _,aw _,dZ _,rfl,rfl⟩⟩ (some a) bs.length cap (bs.map bv) rfl hle bY (hcs.fr ((Fr.refl [] w).alloc _) (by simp)) (by simp) (jQ bs) (by omega) (by unfold maxLen;omega) ?_;intro lq fX w1 A1;simp only[fM,vI]at A1);go_ret;have fk:Fr [] w w1:=((Fr.refl [] w).alloc _).step A1.fr (by simp);have hb:∀x∈ae lq,w.heap.size<=x/\x<w1.heap.size:=λx hx=>⟨by have:=A1.at_ x hx;simp at this;omega,A1.lt x hx⟩
  exact⟨lq,fX,rfl,⟨Cx A1.own,A1.le,A1.max,A1.nil⟩,A1.le,A1.max,hb,fk⟩
theorem qup (m:EM) (X off:Nat) (w:World) (hX:w.cell? ⟨X,6,none⟩=some (.int .i64 off)) :
  Calls Tryz.prog 78 #[.agg (rS m.1 m.2 m.1.data.length),.pointer (some ⟨X,0,none⟩)] w λe w'=>e = .returned (.bool (m.1.at_==off))/\Fr [] w w':=by
 obtain⟨⟨xk,xa,xs,xc,xd,xb,xo⟩,da⟩:=m;simp only[rS];obtain⟨dl,ic⟩:=ah xd.length;rw[<-ic];have hXl:=KC w _ hX;simp only at hXl;by_cases he:xa=off
 ·subst he;have Gk:((xa:Int)==xa)=true:=beq_self_eq_true _;rw[show (xa==xa)=true from beq_self_eq_true _];go_enter Tryz.func78,Tryz.ntmps78;go_wp2;go_ret;exact⟨rfl,(Fr.refl [] w).alloc _⟩
 ·have Gk:((xa:Int)==off)=false:=by simp;omega
  rw[show (xa==off)=false from by simpa using he];go_enter Tryz.func78,Tryz.ntmps78;go_wp2;go_ret;exact⟨rfl,(Fr.refl [] w).alloc _⟩
def Qa (l:List eo) (off k:Nat):Bool:=match l[k]? with
 | some y=>y.at_==off
 | none=>false
theorem qzm (l:List eo) (i off:Nat):rU l i off=(List.range i).find? (Qa l off):=rfl
theorem qq1 (p:Nat->Bool) (i:Nat):∀k,k<=i->(∀j,j<k->p j=false)->(List.range i).find? p=((List.range i).drop k).find? p:=by
 intro k;induction k with
 | zero=>intro _ _;rw[yU]
 | succ k ih=>
  intro hk h;rw[ih (by omega) (λj hj=>h j (by omega))];have hd:(List.range i).drop k=k::(List.range i).drop (k+1):=by rw[AF (by simp;omega)];simp
  rw[hd,Kd,h k (by omega)]
theorem ZM {l:List eo} {off k:Nat} (h:∀y,l[k]?=some y->y.at_≠off):Qa l off k=false:=by
 unfold Qa;cases hl:l[k]? with
 | none=>rfl
 | some y=>simpa using h y hl
theorem zcb (l:List eo) (i off k:Nat) (y:eo) (hk:k<i) (h:∀j,j<k->∀y,l[j]?=some y->y.at_≠off) (hy:l[k]?=some y) (ho:y.at_=off):rU l i off=some k:=by
 rw[qzm,qq1 _ i k (by omega) (λj hj=>ZM (h j hj))];have hd:(List.range i).drop k=k::(List.range i).drop (k+1):=by rw[AF (by simp;omega)];simp
 have hp:Qa l off k=true:=by unfold Qa;rw[hy];simpa using ho
 rw[hd,Kd,hp]
theorem qzl (l:List eo) (i off:Nat) (h:∀j,j<i->∀y,l[j]?=some y->y.at_≠off):rU l i off=none:=by rw[qzm,qq1 _ i i (aw _) (λj hj=>ZM (h j hj)),List.drop_of_length_le (by simp)];rfl
def JN:Option Nat->Int
 | some k=>(k:Int)
 | none=>-1
theorem qx1 (la:Option Addr) (ms:List EM) (i X off:Nat) (w:World) (h:lv w la ms) (hi:i<=ms.length) (lW:ms.length<=4096) (hX:w.cell? ⟨X,6,none⟩=some (.int .i64 off)) :
  Calls Tryz.prog 77 #[.slice la i ms.length,.func (.func 78) #[] #[.pointer (some ⟨X,0,none⟩)]] w λe w'=>e = .returned (.int .i64 (JN (rU (ms.map (·.1)) i off)))/\Fr [] w w':=by
 obtain⟨n,hn⟩:=ah ms.length;have H:=au h hn hX;rw[<-hn]at hi lW ⊢;clear h hn hX;go_enter Tryz.func77,Tryz.ntmps77;go_wp2;go_loopg [5,8] i (λk s5 s8 wr=>∃j:Nat,s8 = .int .i64 (j:Nat)/\j+k=i/\Fr [] w wr/\∀t,t<j->∀y,(ms.map (·.1))[t]?=some y->y.at_≠off);case atStart=>exact⟨0,rfl,by omega,Fr.refl _ _,λt ht=>by omega⟩
 case round=>
  obtain⟨j,rfl,eG,hf,mT⟩:=hrel;have HL:=ak hf mT;clear hf mT;by_cases hj:j<i
  ·obtain⟨k,rfl⟩:∃k,gk=k+1:=⟨gk-1,by omega⟩;obtain⟨m,hm⟩:∃m,ms[j]?=some m:=⟨ms[j]'(by rw[<-H.out.2.1];omega),bO _⟩;obtain⟨gb,o,fh,hce⟩:=(H.out.1.fr HL.out.1).cell hm;subst fh;have az:=λw' f=>qup m X off w' ((HL.out.1.trans f).cell H.out.2.2 (by simp))
   have mS:=az;have hU:=hm;have c0:=hce 0 _ (by decide) rfl;have c1:=hce 1 _ (by decide) rfl;have c2:=hce 2 _ (by decide) rfl;have c3:=hce 3 _ (by decide) rfl;have c4:=hce 4 _ (by decide) rfl;have c5:=hce 5 _ (by decide) rfl;have c6:=hce 6 _ (by decide) rfl;rw[<-uy]at c0 c1 c2 c3 c4 c5 c6;clear hce az hm;have x7:(ms.map (·.1))[j]?=some m.1:=by rw[j5,hU];rfl
   have HG:=af x7;clear x7 hU;obtain⟨⟨xk,xa,xs,xc,xd,xb,xo⟩,da⟩:=m;simp only[rS]at mS;replace c0:wr.cell? ⟨gb,o+j*7,none⟩=some (.int .i64 xk):=c0;replace c1:wr.cell? ⟨gb,o+j*7+1,none⟩=some (.int .i64 xa):=c1;replace c2:wr.cell? ⟨gb,o+j*7+2,none⟩=some (.int .i64 xs):=c2;replace c3:wr.cell? ⟨gb,o+j*7+3,none⟩=some (.int .u32 xc):=c3;replace c4:wr.cell? ⟨gb,o+j*7+4,none⟩=some (.slice da xd.length xd.length):=c4;replace c5:wr.cell? ⟨gb,o+j*7+5,none⟩=some (.string (str xb)):=c5;replace c6:wr.cell? ⟨gb,o+j*7+6,none⟩=some (.int .i64 xo):=c6;have HS:=af mS;clear mS;by_cases hx:xa=off
   ·have hb:(xa==off)=true:=by simpa using hx
    have HB:=ak hx hb;clear hx hb;go_wp2_with (go_at_call 78;refine (HS.out _ (Fr.refl _ _)).mono ?_;rintro e w1 ⟨rfl,f1⟩;rw[HB.l1];have HF:=af f1;clear f1);go_ret;refine⟨?_,HL.out.1.trans HF.out⟩;rw[zcb (ms.map (·.1)) i off j _ hj HL.out.2 HG.out HB.o0];rfl
   ·have hb:(xa==off)=false:=by simpa using hx
    have HB:=ak hx hb;clear hx hb;go_wp2_with (go_at_call 78;refine (HS.out _ (Fr.refl _ _)).mono ?_;rintro e w1 ⟨rfl,f1⟩;rw[HB.l1];have HF:=af f1;clear f1);go_roundg k;case measure=>omega
    case rel=>
     refine⟨j+1,rfl,by omega,HL.out.1.trans HF.out,?_⟩;intro t ht y hy;by_cases I4:t=j
     ·subst I4;rw[HG.out]at hy;obtain rfl:=lL hy;exact HB.o0
     ·exact HL.out.2 t (by omega) y hy
  ·obtain rfl:j=i:=by omega
   have bY:=qzl (ms.map (·.1)) j off HL.out.2;have HX:=af bY;clear bY;go_wp2;go_ret;exact⟨by rw[HX.out];rfl,HL.out.1⟩
def S1 (w:World) (O S:Nat) (C D:Array Value) (i:Nat):St->Prop
 | none=>D[i*4]?=some (.bool false)/\D[i*4+1]?=some (.int .i64 0)
 | some (.error x)=>D[i*4]?=some (.bool true)/\D[i*4+1]?=some (.int .i64 x)/\0<x
 | some (.ok (o,d))=>D[i*4]?=some (.bool true)/\D[i*4+1]?=some (.int .i64 0)/\D[i*4+2]?=some (.int .i64 d)/\d<=50/\
   ∃ba bc,(∀j v,(dG o ba bc)[j]?=some v->C[i*5+j]?=some v)/\lib.Rd w ba bc o.body/\(∀y∈ae ba,y≠O/\y≠S)/\o.body.length<=2147483647
theorem S1.keep {w w':World} {O S:Nat} {C C' D D':Array Value} {i:Nat} {s:St} (h:S1 w O S C D i s) (hC:∀j,j<5->C'[i*5+j]?=C[i*5+j]?) (hD:∀j,j<3->D'[i*4+j]?=D[i*4+j]?) (f:Fr [O,S] w w'):S1 w' O S C' D' i s:=by
 have d0:=hD 0 (by decide);have d1:=hD 1 (by decide);have d2:=hD 2 (by decide);simp only[jS]at d0;match s,h with
 | none,h=>exact⟨by rw[d0];exact h.1,by rw[d1];exact h.2⟩
 | some (.error x),h=>exact⟨by rw[d0];exact h.1,by rw[d1];exact h.2.1,h.2.2⟩
 | some (.ok (o,d)),h=>
  obtain⟨h0,h1,h2,h3,ba,bc,h4,h5,h6,h7⟩:=h;refine⟨by rw[d0];exact h0,by rw[d1];exact h1,by rw[d2];exact h2,h3,ba,bc,λj v hj=>?_,h5.gg f (λx hx=>by have:=h6 x hx;simp;exact this),h6,h7⟩;have hj5:j<5:=by have:=(FE.1 hj).1;simpa[dG] using this
  rw[hC j hj5];exact h4 j v hj
def iO (l:List eo) (i:Nat) (x:eo):Value:=
 if x.kind=6 then .iface 123 (.int .i64 (JN (rU l i x.off))) else if x.kind=7 then .iface 124 (.string (str x.base)) else .nilIface
structure tL (w:World) (O S:Nat) (C D:Array Value) (l:List eo) (W:List St):Prop where
 len:W.length=l.length
 st:∀i s,W[i]?=some s->S1 w O S C D i s
 base:∀i x,l[i]?=some x->D[i*4+3]?=some (iO l i x)
theorem tL.one {w w':World} {O S:Nat} {C C' D D':Array Value} {l:List eo} {W:List St} (h:tL w O S C D l W) (i:Nat) (s:St)
  (hC:∀j,j<i*5\/i*5+5<=j->C'[j]?=C[j]?) (hD:∀j,j<i*4\/i*4+3<=j->D'[j]?=D[j]?) (f:Fr [O,S] w w') (hs:S1 w' O S C' D' i s):tL w' O S C' D' l (W.set i s):=by
 refine⟨by rw[Kf];exact h.len,λk t hk=>?_,λk x hk=>?_⟩
 ·rw[List.getElem?_set]at hk;split at hk
  ·rename_i bU;subst bU;split at hk
   ·obtain rfl:=lL hk;exact hs
   ·cases hk
  ·rename_i bU;exact (h.st k t hk).keep (λj hj=>hC _ (by omega)) (λj hj=>hD _ (by omega)) f
 ·rw[hD _ (by omega)];exact h.base k x hk
theorem qw6 {r:eo} {kind:Int} {b:List UInt8} {d:Nat} {o:Obj} {k:Nat} (h:over r kind b d = .ok (o,k)):k=d+1/\k<=50:=by
 unfold over at h;split at h
 ·cases h
 ·split at h
  ·cases h;exact⟨rfl,by omega⟩
  ·cases h
theorem Fin.st {w w':World} {O S i:Nat} {C C' D D':Array Value} {r:eo} {kind:Int} {b:List UInt8} {d:Nat} (h:Fin w w' O S i C C' D D' (over r kind b d)) (hO:O<w.heap.size) (hS:S<w.heap.size):S1 w' O S C' D' i (some (over r kind b d)):=by
 obtain⟨R,hR⟩:=ah (over r kind b d);rw[<-hR]at h ⊢;obtain⟨-,-,h0,h1⟩:=h;match R,hR,h1 with
 | .error x,_,h1=>exact⟨h0,h1.1,h1.2⟩
 | .ok (o,k),hR,h1=>obtain⟨g1,g2,ba,bc,g3,g4,g5,g6⟩:=h1;exact⟨h0,g1,g2,(qw6 hR.symm).2,ba,bc,g3,g4,λy hy=>⟨by have:=(g5 y hy).1;omega,by have:=(g5 y hy).1;omega⟩,g6⟩
structure Cm (w w':World) (g O S:Nat) (gv tv:Value) (la:Option Addr) (ms:List EM) (C D:Array Value) (i:Nat):Prop where
 rb:Rb w' g O S gv tv la ms C D
 fr:Fr [O,S] w w'
 done:∀t m,t<i->ms[t]?=some m->S1 w' O S C D t (fK (ms.map (·.1)) t m.1)/\D[t*4+3]?=some (iO (ms.map (·.1)) t m.1)
 rest:∀t,i<=t->t<ms.length->D[t*4]?=some (.bool false)/\D[t*4+1]?=some (.int .i64 0)/\D[t*4+3]?=some .nilIface
 deep:∀t,i<=t->t<ms.length->D[t*4+2]?=some (.int .i64 0)
theorem Cm.next {w w1 w2:World} {g O S:Nat} {gv tv:Value} {la:Option Addr} {ms:List EM} {C C' D D':Array Value} {i:Nat} {m:EM} (h:Cm w w1 g O S gv tv la ms C D i) (hm:ms[i]?=some m) (rb:Rb w2 g O S gv tv la ms C' D') (f:Fr [O,S] w1 w2)
  (hC:∀j,j<i*5\/i*5+5<=j->C'[j]?=C[j]?) (hD:∀j,j<i*4\/i*4+4<=j->D'[j]?=D[j]?) (hs:S1 w2 O S C' D' i (fK (ms.map (·.1)) i m.1)) (hb:D'[i*4+3]?=some (iO (ms.map (·.1)) i m.1)):Cm w w2 g O S gv tv la ms C' D' (i+1):=by
 refine⟨rb,h.fr.trans f,λt y ht hy=>?_,λt ht hn=>?_,λt ht hn=>by rw[hD _ (by omega)];exact h.deep t (by omega) hn⟩
 ·by_cases K7:t=i
  ·subst K7;rw[hm]at hy;obtain rfl:=lL hy;exact⟨hs,hb⟩
  ·obtain⟨h1,h2⟩:=h.done t y (by omega) hy;exact⟨h1.keep (λj hj=>hC _ (by omega)) (λj hj=>hD _ (by omega)) f,by rw[hD _ (by omega)];exact h2⟩
 ·obtain⟨h1,h2,h3⟩:=h.rest t (by omega) hn;exact⟨by rw[hD _ (by omega)];exact h1,by rw[hD _ (by omega)];exact h2,by rw[hD _ (by omega)];exact h3⟩
theorem Cm.dF {w w1 w2:World} {g O S:Nat} {gv tv:Value} {la:Option Addr} {ms:List EM} {C D:Array Value} {i:Nat} (h:Cm w w1 g O S gv tv la ms C D i) (f:Fr [] w1 w2):Cm w w2 g O S gv tv la ms C D i:=
 ⟨h.rb.fr f,h.fr.trans (f.mono (by simp)),λt y ht hy=>⟨(h.done t y ht hy).1.keep (λ_ _=>rfl) (λ_ _=>rfl) (f.mono (by simp)),(h.done t y ht hy).2⟩,h.rest,h.deep⟩
theorem Cm.xy {w w':World} {g O S:Nat} {gv tv:Value} {la:Option Addr} {ms:List EM} {C D:Array Value} (h:Cm w w' g O S gv tv la ms C D ms.length):tL w' O S C D (ms.map (·.1)) (ig (ms.map (·.1))):=by
 refine⟨V6 _,λi s hi=>?_,λi x hx=>?_⟩
 ·have hl:=(lA.1 hi).1;rw[V6,cN]at hl;have hm:ms[i]?=some ms[i]:=bO hl;rw[qn9 _ i ms[i].1 (by rw[j5,hm];rfl)]at hi;obtain rfl:=lL hi;exact (h.done i _ hl hm).1
 ·rw[j5]at hx;cases hm:ms[i]? with
  | none=>rw[hm]at hx;cases hx
  | some m=>rw[hm]at hx;obtain rfl:=lL hx;exact (h.done i m (lA.1 hm).1 hm).2
theorem qwf (g O S:Nat) (gv tv:Value) (la:Option Addr) (ms:List EM) (C D:Array Value) (w:World) (h:Rb w g O S gv tv la ms C D) (hp:∀w',Fr [O,S] w w'->obj.Pw w')
  (hl:∀m∈ms,m.1.data.length<=2147483647) (hz:∀t,t<ms.length->D[t*4]?=some (.bool false)/\D[t*4+1]?=some (.int .i64 0)/\D[t*4+3]?=some .nilIface) (lS:∀t,t<ms.length->D[t*4+2]?=some (.int .i64 0)) :
  Calls Tryz.prog 47 #[.pointer (some ⟨g,0,none⟩)] w λe w'=>e = .returned (.tuple #[])/\
   ∃C' D',Cm w w' g O S gv tv la ms C' D' ms.length:=by
 have h0:Cm w w g O S gv tv la ms C D 0:=⟨h,Fr.refl _ _,λt m ht=>by omega,λt _ ht=>hz t ht,λt _ ht=>lS t ht⟩;obtain⟨n,hn⟩:=ah ms.length;have lW:n<=4096:=by rw[hn];exact h.few
 have b0:=cell_of h.box 0;simp only[bw,aV]at b0;rw[<-hn]at b0 ⊢;have H:=aF h0 hn hp hl;clear h h0 hn hp hl hz lS;go_enter Tryz.func47,Tryz.ntmps47;go_wp2;clear b0;go_loopg [2,3,4,5,11] n (λk s2 s3 s4 s5 s11 wr=>∃j C D,s11 = .int .i64 (j:Nat)/\j+k=n/\Cm w wr g O S gv tv la ms C D j);case atStart=>exact⟨0,C,D,rfl,by omega,H.out.1⟩
 case round=>
  obtain⟨i,C1,D1,rfl,bU,hB⟩:=hrel;have HL:=af hB;clear hB;by_cases hi:i<n
  ·obtain⟨k,rfl⟩:∃k,gk=k+1:=⟨gk-1,by omega⟩;obtain⟨m,hm⟩:∃m,ms[i]?=some m:=⟨ms[i]'(by rw[<-H.out.2.1];omega),bO _⟩;obtain⟨gb,o,fh,hce⟩:=HL.out.rb.ents.cell hm;have I3:=fh;subst fh;have c0:=hce 0 _ (by decide) rfl;have c1:=hce 1 _ (by decide) rfl;have c2:=hce 2 _ (by decide) rfl;have c3:=hce 3 _ (by decide) rfl;have c4:=hce 4 _ (by decide) rfl;have c5:=hce 5 _ (by decide) rfl;have c6:=hce 6 _ (by decide) rfl;rw[<-uy]at c0 c1 c2 c3 c4 c5 c6;have HM:=af hm;clear hce hm I3;obtain⟨⟨xk,xa,xs,xc,xd,xb,xo⟩,da⟩:=m;replace c0:wr.cell? ⟨gb,o+i*7,none⟩=some (.int .i64 xk):=c0;replace c1:wr.cell? ⟨gb,o+i*7+1,none⟩=some (.int .i64 xa):=c1;replace c2:wr.cell? ⟨gb,o+i*7+2,none⟩=some (.int .i64 xs):=c2;replace c3:wr.cell? ⟨gb,o+i*7+3,none⟩=some (.int .u32 xc):=c3;replace c4:wr.cell? ⟨gb,o+i*7+4,none⟩=some (.slice da xd.length xd.length):=c4;replace c5:wr.cell? ⟨gb,o+i*7+5,none⟩=some (.string (str xb)):=c5;replace c6:wr.cell? ⟨gb,o+i*7+6,none⟩=some (.int .i64 xo):=c6;obtain⟨dl,ic⟩:=ah xd.length;rw[<-ic]at c4;have HD:=af ic;clear ic;go_upto_region 3 with (refine wpList_store_row rfl 65 (.tmp 3) (.tmp 15) rfl wr.heap.size #[.int .i64 xk,.int .i64 xa,.int .i64 xs,.int .u32 xc,.slice da dl dl,.string (str xb),.int .i64 xo] rfl rfl 65 _ (bx _ _) cm rfl (by kernel_rfl) ?_);clear c0 c1 c2 c3 c4 c5 c6;generalize cD:World.setRow _ _ _=w1;obtain⟨X,hX⟩:=ah wr.heap.size;rw[<-hX]at cD ⊢;have dT:w1.heap[X]?=some (.cells #[.int .i64 xk,.int .i64 xa,.int .i64 xs,.int .u32 xc,.slice da dl dl,.string (str xb),.int .i64 xo] 65 (0,0)):=by rw[<-cD,hX];exact setRow_heap _ _ _ _ _ _ (bx _ _)
   have f1:Fr [] wr w1:=by rw[<-cD,hX];exact ((Fr.refl [] wr).alloc _).setRow (.inr (aw _)) _
   have mX:=lt_of_block dT;clear cD;have jH:=HL.out.dF f1;have hn:=H.out.2.1;have b0:=cell_of jH.rb.box 0;have b2:=cell_of jH.rb.box 2;simp only[bw,aV,bN]at b0 b2;rw[<-hn]at b0 b2;have k0:=cell_of dT 0;have k4:=cell_of dT 4;have k5:=cell_of dT 5;have k6:=cell_of dT 6;simp only[bw,aV,bN]at k0 k4 k5 k6;have ve:X≠O:=by have:=lt_of_block HL.out.rb.ob;omega
   have ub:X≠S:=by have:=lt_of_block HL.out.rb.sb;omega
   have kJ:=λw2 (f:Fr [] w1 w2)=>qx1 _ ms i X xo w2 (jH.rb.ents.fr f) (by omega) (by omega) (f.cell k6 (by simp))
   rw[<-hn]at kJ;obtain⟨r0,r1,r3⟩:=jH.rest i (aw _) (by omega);have cF:i*4+4<=D1.size:=by rw[jH.rb.sc];omega
   have H1:=pB jH dT ve ub kJ r0 r1 r3 cF hX;clear jH hn dT ve ub kJ r0 r1 r3 cF hX f1 mX k6 HL;by_cases h6:xk=6
   ·subst h6;have g6:(((6:Nat):Int)==6)=true:=by decide
    clear k4 k5;have HI:=af (H1.out.2.2.2.2.1 w1 (Fr.refl _ _));obtain⟨at_,eD⟩:=ah (rU (ms.map (·.1)) i xo);rw[<-eD]at HI;have HA:=af eD;clear eD;go_upto_region 9 with (go_at_call 77;refine HI.out.mono ?_;rintro e w2 ⟨rfl,f2⟩;have H2:=af f2;clear f2);clear b0 b2 k0 g6;obtain⟨jH,dT,ve,ub,kJ,r0,r1,r3,cF,hX⟩:=H1.out;have tI:=jH.dF H2.out;obtain⟨bV,yf⟩:=ah (Value.iface 123 (.int .i64 (JN at_)));have rQ:iO (ms.map (·.1)) i ⟨6,xa,xs,xc,xd,xb,xo⟩=bV:=by rw[yf,HA.out];rfl
    have y3:w2.cell? ⟨S,i*4+3,none⟩=some .nilIface:=by rw[cell_of tI.rb.sb];exact r3
    have z3:=aO tI.rb.sb (i*4+3);have f3:Fr [S] w2 (w2.setCell ⟨S,i*4+3,none⟩ bV):=(Fr.refl [S] w2).setCell (by simp) _;have jV:(w2.setCell ⟨S,i*4+3,none⟩ bV).heap[S]?=some (.cells (D1.setIfInBounds (i*4+3) bV) 100 (0,0)):=aX tI.rb.sb _;have ru:=tI.rb.rB f3 jV (by rw[qX]);rw[yf]at jV ru f3;have H3:=bJ tI rQ f3 jV ru yf;clear jH dT ve ub kJ r0 r1 r3 cF hX tI rQ f3 jV ru yf;cases at_ with
    | some q=>
     have gq:decide (((q:Nat):Int)<0)=false:=by simp
     simp only[JN]at H3;simp only[JN];go_upto_region 10 with fail;clear y3 z3;go_wp2;go_roundg k;case measure=>omega
     case rel=>
      obtain⟨tI,rQ,f3,jV,ru,yf⟩:=H3.out;obtain⟨jH,dT,ve,ub,kJ,r0,r1,r3,cF,hX⟩:=H1.out;refine⟨i+1,C1,_,rfl,by omega,tI.next HM.out ru (f3.mono (λx hx=>.inl (by simp at hx;simp[hx]))) (λ_ _=>rfl) (λj hj=>by rw[aZ (by omega)]) ?_ ?_⟩
      ·have:fK (ms.map (·.1)) i ⟨6,xa,xs,xc,xd,xb,xo⟩=none:=by unfold fK;simp only[if_pos];rw[<-HA.out]
       rw[this];exact⟨by rw[aZ (by omega)];exact r0,by rw[aZ (by omega)];exact r1⟩
      ·rw[rQ,yf];exact iu (by omega)
    | none=>
     simp only[JN]at H3;simp only[JN];go_upto_region 10 with fail;clear y3 z3;generalize gN:w2.setCell _ _=w3;have hb9:=H3.out;rw[gN]at hb9;clear gN H3;obtain⟨tI,rQ,f3,jV,ru,yf⟩:=hb9;obtain⟨jH,dT,ve,ub,kJ,r0,r1,r3,cF,hX⟩:=H1.out;obtain⟨D3,EE⟩:=ah (D1.setIfInBounds (i*4+3) (Value.iface 123 (.int .i64 (-1))));rw[<-EE]at jV ru;have y0:w3.cell? ⟨S,i*4,none⟩=some (.bool false):=by rw[cell_of jV,EE,aZ (by omega)];exact r0
     have z0:=aO jV (i*4);have zc:=aX (o:=i*4) jV (.bool true);have f4:Fr [S] w3 (w3.setCell ⟨S,i*4,none⟩ (.bool true)):=(Fr.refl [S] w3).setCell (by simp) _;have y1:(w3.setCell ⟨S,i*4,none⟩ (.bool true)).cell? ⟨S,i*4+1,none⟩=some (.int .i64 0):=by rw[cell_of zc,aZ (by omega),EE,aZ (by omega)];exact r1
     have z1:=aO zc (i*4+1);have C5:=ru.rB f4 zc (by rw[qX]);have Lb:=aX (o:=i*4+1) zc (.int .i64 3);have f5:Fr [S] (w3.setCell ⟨S,i*4,none⟩ (.bool true)) ((w3.setCell ⟨S,i*4,none⟩ (.bool true)).setCell ⟨S,i*4+1,none⟩ (.int .i64 3)):=(Fr.refl [S] _).setCell (by simp) _;have yh:=C5.rB f5 Lb (by rw[qX]);have fF:=(f3.trans f4).trans f5;have H4:=bJ tI rQ yf EE yh fF;clear tI rQ yf EE yh fF jH dT ve ub kJ r0 r1 r3 cF hX f3 f4 f5 jV zc Lb ru C5;go_wp2;clear y0 z0 y1 z1;go_roundg k;case measure=>omega
     case rel=>
      obtain⟨tI,rQ,yf,EE,yh,fF⟩:=H4.out;obtain⟨jH,dT,ve,ub,kJ,r0,r1,r3,cF,hX⟩:=H1.out;have zaQ:D3.size=D1.size:=by rw[EE,qX]
      refine⟨i+1,C1,_,rfl,by omega,tI.next HM.out yh (fF.mono (λx hx=>.inl (by simp at hx;simp[hx]))) (λ_ _=>rfl) (λj hj=>by rw[aZ (by omega),aZ (by omega),EE,aZ (by omega)]) ?_ ?_⟩
      ·have:fK (ms.map (·.1)) i ⟨6,xa,xs,xc,xd,xb,xo⟩=some (.error 3):=by unfold fK;simp only[if_pos];rw[<-HA.out]
       rw[this];exact⟨by rw[aZ (by omega)];exact iu (by omega),iu (by rw[qX];omega),by decide⟩
      ·rw[rQ,yf,aZ (by omega),aZ (by omega),EE];exact iu (by omega)
   ·have g6:((xk:Int)==6)=false:=by simp;omega
    by_cases h7:xk=7
    ·subst h7;have g7:(((7:Nat):Int)==7)=true:=by decide
     clear b0 k4;obtain⟨jH,dT,ve,ub,kJ,r0,r1,r3,cF,hX⟩:=H1.out;have y3:w1.cell? ⟨S,i*4+3,none⟩=some .nilIface:=by rw[cell_of jH.rb.sb];exact r3
     have z3:=aO jH.rb.sb (i*4+3);have f3:Fr [S] w1 (w1.setCell ⟨S,i*4+3,none⟩ (.iface 124 (.string (str xb)))):=(Fr.refl [S] w1).setCell (by simp) _;have jV:(w1.setCell ⟨S,i*4+3,none⟩ (.iface 124 (.string (str xb)))).heap[S]?=some (.cells (D1.setIfInBounds (i*4+3) (.iface 124 (.string (str xb)))) 100 (0,0)):=aX jH.rb.sb _;have ru:=jH.rb.rB f3 jV (by rw[qX]);have H3:=ak f3 ru;clear jH dT ve ub kJ r0 r1 r3 cF hX f3 jV ru;go_wp2;clear y3 z3 b2 k0 k5;go_roundg k;case measure=>omega
     case rel=>
      obtain⟨f3,ru⟩:=H3.out;obtain⟨jH,dT,ve,ub,kJ,r0,r1,r3,cF,hX⟩:=H1.out;refine⟨i+1,C1,_,rfl,by omega,jH.next HM.out ru (f3.mono (λx hx=>.inl (by simp at hx;simp[hx]))) (λ_ _=>rfl) (λj hj=>by rw[aZ (by omega)]) ?_ ?_⟩
      ·have:fK (ms.map (·.1)) i ⟨7,xa,xs,xc,xd,xb,xo⟩=none:=rfl;rw[this];exact⟨by rw[aZ (by omega)];exact r0,by rw[aZ (by omega)];exact r1⟩
      ·have:iO (ms.map (·.1)) i ⟨7,xa,xs,xc,xd,xb,xo⟩ = .iface 124 (.string (str xb)):=rfl;rw[this];exact iu (by omega)
    ·have g7:((xk:Int)==7)=false:=by simp;omega
     clear b0;obtain⟨jH,dT,ve,ub,kJ,r0,r1,r3,cF,hX⟩:=H1.out;have y0:w1.cell? ⟨S,i*4,none⟩=some (.bool false):=by rw[cell_of jH.rb.sb];exact r0
     have z0:=aO jH.rb.sb (i*4);clear jH dT ve ub kJ r0 r1 r3 cF hX k4 k5;go_upto_region 6 with fail;clear y0 z0 b2 k0 g6 g7;obtain⟨jH,dT,ve,ub,kJ,r0,r1,r3,cF,hX⟩:=H1.out;have cB:(w1.setCell ⟨S,i*4,none⟩ (.bool true)).heap[S]?=some (.cells (D1.setIfInBounds (i*4) (.bool true)) 100 (0,0)):=aX jH.rb.sb _;have f2:Fr [S] w1 (w1.setCell ⟨S,i*4,none⟩ (.bool true)):=(Fr.refl [S] w1).setCell (by simp) _;generalize w1.setCell ⟨S,i*4,none⟩ (.bool true)=w2 at *;have kM:=jH.rb.rB f2 cB (by rw[qX]);obtain⟨D2,pn⟩:=ah (D1.setIfInBounds (i*4) (.bool true));rw[<-pn]at kM cB;have k0:w2.cell? ⟨X,0,none⟩=some (.int .i64 xk):=f2.cell (by rw[cell_of dT];rfl) (by simp;exact ub);have k4:w2.cell? ⟨X,4,none⟩=some (.slice da dl dl):=f2.cell (by rw[cell_of dT];rfl) (by simp;exact ub);have Jr:X∉[O]:=by simp;exact ve
     have s0:∀x,(sup [O] w2.drew x).cell? ⟨X,0,none⟩=some (.int .i64 xk):=λx=>(dk [O] w2.drew x).cell (show w2.drew.cell? _=_ from k0) Jr
     have s4:∀x,(sup [O] w2.drew x).cell? ⟨X,4,none⟩=some (.slice da dl dl):=λx=>(dk [O] w2.drew x).cell (show w2.drew.cell? _=_ from k4) Jr
     have H2:=aF kM f2 pn cB;clear jH dT ve ub kJ r0 r1 r3 cF hX kM pn f2 k0 k4 Jr cB;refine jh 9 [(false,0),(false,1),(false,2),(false,3),(false,4),(false,5),(true,6),(true,7),(true,8)] [O] (by kernel_rfl) (by kernel_rfl) (λ_ _ d _ _ h=>by cases d<;>exact h) ?_;simp only[iw];refine cS 6 rfl ?_;simp only[aU];repeat (go_big_quiet_step (fail))
     refine wpQuiet_nil ?_;clear s0 s4;refine ep rfl ?_;intro X1 mX;have kM:=H2.out.1.fr (Fr.av [] w2);have qi:=H.out.2.2.2 _ (iC HM.out);have hc:=qy4 da xd.length xd w2.drew (kM.ents.dat _ (iC HM.out)) (by have:xd.length<=2147483647:=qi;omega);rw[<-HD.out]at hc;have HC:=ak hc qi;clear hc qi kM;go_wp2_with (go_at_call 37;refine HC.o0.mono ?_;rintro e w3 ⟨a3,cc,rfl,r3,l3,m3,b3,f3⟩);refine mX.out _ _ (f3.mono (by simp)) ?_;clear mX X1;have H3:=aP r3 l3 m3 b3 f3;clear r3 l3 m3 b3 f3;refine ep rfl ?_;intro X1 mX;go_wp2_with (go_at_call 29;refine (L6 a3 xd.length cc _ H3.out.2.1 H3.out.2.2.1).mono ?_;rintro e w4 ⟨rfl,rfl⟩);refine mX.out _ _ (Fr.refl _ _) ?_;clear mX X1;refine ep rfl ?_;intro X1 mX;have fw:Fr [O,S] w w4:=by have:=H1.out.1.fr.trans ((H2.out.2.1.mono (λx hx=>.inl (by simp at hx;simp[hx]))).trans (((Fr.av [] w2).trans H3.out.2.2.2.2).mono (by simp)));exact this
     have bX:=qwj g O S gv tv _ ms C1 D2 i _ (xk:Nat) a3 xd.length xd w4 (H2.out.1.fr ((Fr.av [] w2).trans H3.out.2.2.2.2)) HM.out ⟨H3.out.1.cs,aw _,bS H3.out.2.1 H3.out.2.2.1,λh=>by have:=H3.out.1.nil h;have:=H3.out.2.1;omega⟩ (by have:xd.length<=2147483647:=HC.l1;omega) (H.out.2.2.1 _ fw);have HS:=af bX;clear bX fw;go_wp2_with (go_at_call 79;refine HS.out.mono ?_;rintro e w5 ⟨rfl,f5,C2,yh,vo,ud⟩);refine mX.out _ _ f5 ?_;clear mX X1;have H5:=aF f5 yh vo ud;clear f5 yh vo ud;refine fE ?_;go_wp2;go_roundg k;case measure=>omega
     case rel=>
      obtain⟨f5,yh,vo,ud⟩:=H5.out;obtain⟨jH,dT,ve,ub,kJ,r0,r1,r3,cF,hX⟩:=H1.out;obtain⟨kM,f2,pn,cB⟩:=H2.out;obtain⟨q3,l3,m3,b3,f3⟩:=H3.out;have rd:=jH.deep i (aw _) (by rw[<-H.out.2.1];omega);have fF:Fr [O,S] w1 w5:=((f2.mono (λx hx=>.inl (by simp at hx;simp[hx]))).trans (((Fr.av [] w2).trans f3).mono (by simp))).trans (f5.mono (λx hx=>.inl (by simp at hx;simp[hx])));have S8:∀j,j≠i*4->D2[j]?=D1[j]?:=λj hj=>by rw[pn,aZ (jg hj)]
      refine⟨i+1,C2,D2,rfl,by omega,jH.next HM.out yh fF vo (λj hj=>S8 j (by omega)) ?_ ?_⟩
      ·have:fK (ms.map (·.1)) i ⟨xk,xa,xs,xc,xd,xb,xo⟩=some (.ok (whole ⟨xk,xa,xs,xc,xd,xb,xo⟩ xk xd,0)):=by unfold fK;rw[if_neg h6,if_neg h7]
       rw[this];refine⟨by rw[pn];exact iu (by omega),by rw[S8 _ (by omega)];exact r1,by rw[S8 _ (by omega)];exact rd,by decide,a3,xd.length,ud,?_,λy hy=>?_,HC.l1⟩
       ·show lib.Rd w5 a3 xd.length xd;exact Rd.gg ⟨q3.cs,aw _,bS l3 m3,λh=>by have:=q3.nil h;omega⟩ f5 (λx hx hm=>by have:=(b3 x hx).1;have:=lt_of_block kM.ob;simp at hm;simp at *;omega)
       ·have:=(b3 y hy).1;have h1:=lt_of_block kM.ob;have h2:=lt_of_block kM.sb;have:w2.drew.heap.size=w2.heap.size:=rfl;omega
      ·have:iO (ms.map (·.1)) i ⟨xk,xa,xs,xc,xd,xb,xo⟩ = .nilIface:=by unfold iO;rw[if_neg h6,if_neg h7]
       rw[this,S8 _ (by omega)];exact r3
  ·obtain rfl:i=n:=by omega
   go_wp2;go_end0;exact⟨rfl,C1,D1,HL.out⟩
end pk

end Go.Proofs.YtkmpfgpfbmeihaaGreatDoor