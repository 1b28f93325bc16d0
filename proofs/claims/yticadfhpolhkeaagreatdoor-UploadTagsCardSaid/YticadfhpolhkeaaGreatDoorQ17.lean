/-
  Texts of this proof, one behind the other: PktEnc, PktDec, PktSmall, PktTo, PktRef, PktRefD, TagsFa, TagsFb, TagsFd, TagsFe, TagsFc.
-/
import Derived.Test.YticadfhpolhkeaaGreatDoorQ16
import Derived.Laws.IdiomStrings
import Derived.Lib.SlBytesConst
import Derived.Test.YticadfhpolhkeaaGreatDoorCards
import Derived.Lay
import Derived.LaidOnce
import Derived.LaidLaws
import Derived.SevenTiedAt
import Derived.HandedShaped
set_option maxHeartbeats 16000000
set_option maxRecDepth 100000
set_option linter.unusedVariables false
set_option linter.unusedSimpArgs false
namespace Go.Proofs.YticadfhpolhkeaaGreatDoor
namespace pkt
open Go Go.RowKit lib bm
variable {w w' wr:World} {l:List Ln} {c i k:Nat} {a:OA} {bs out:LB} {ls:List Lv}
def lC:ByteArray:=⟨#[48,49,50,51,52,53,54,55,56,57,97,98,99,100,101,102]⟩
theorem S4:∀k:Fin 16,∀h,lC[k.1]'h=bL k.1:=by decide
theorem KI (k:Nat) (hk:k<16) (w:World):(Instr.index 9 (.string ⟨#[48,49,50,51,52,53,54,55,56,57,97,98,99,100,101,102]⟩) (.int .i64 k)).run Tryz.prog w = .ok (.int .u8 ((bL k).toNat:Nat)) w:=by
 have hs:lC.size=16:=by decide
 have e:=run_index_string (P:=Tryz.prog) w 9 lC .i64 k Tryz.underlying9;rw[dif_pos ⟨by omega,by rw[hs];omega⟩]at e;have h2:=S4 ⟨k,hk⟩ (by rw[hs];exact hk);simp only[xZ]at e;rw[h2]at e;exact e
theorem qww (k:Int) (h:k=2\/k=3\/k=4):(ph (k-2).toNat).map bv=[.int .u8 48,.int .u8 48,.int .u8 48,.int .u8 (48+k-2)]:=by
 have e0:bL 0=48:=by decide
 have e1:bL 1=49:=by decide
 have e2:bL 2=50:=by decide
 rcases h with rfl|rfl|rfl
 ·show [bv (bL 0),bv (bL 0),bv (bL 0),bv (bL 0)]=_;rw[e0];rfl
 ·show [bv (bL 0),bv (bL 0),bv (bL 0),bv (bL 1)]=_;rw[e0,e1];rfl
 ·show [bv (bL 0),bv (bL 0),bv (bL 0),bv (bL 2)]=_;rw[e0,e2];rfl
def Ai:List Ln->Nat
 | []=>0
 | x::r=>x.2.length+4+Ai r
theorem one_le (x:Ln):(one x).length<=x.2.length+4:=by
 unfold one;split
 ·rw[aG,KO];omega
 ·rw[KO];omega
def kF (w:World) (l:List Ln) (e:Ending) (w':World):Prop:=
 ∃(a:OA) (n:Nat),e = .returned (.tuple #[.slice a n n,.int .i64 (enc l).2])/\(enc l).1.length=n/\Cs w' a ((enc l).1.map bv)/\(a=none->n=0)/\Fr [] w w'
theorem Ud (h:gZ l=k) (h0:k≠0) (f:Fr [] w w'):kF w l (.returned (.tuple #[.slice none 0 0,.int .i64 k])) w':=by
 have e:enc l=([],k):=by unfold enc;rw[if_neg (by omega),h]
 unfold kF;rw[e];exact⟨none,0,rfl,rfl,.inl rfl,λ_=>rfl,f⟩
structure En (w wr:World) (l:List Ln) (i:Nat) (a:OA) (c:Nat) (out:LB):Prop where
 own:wr.ownsRow 0 5 1 (.slice a out.length c) out.length (out.map bv)
 fr:Fr [] w wr
 new:∀x∈ag a,w.heap.size<=x
 err:gZ (l.drop i)=gZ l
 all:out++lz (l.drop i)=lz l
 few:out.length+Ai (l.drop i)<=Ai l
theorem zfb (w:World) (l:List Ln):En w w l 0 none 0 []:=⟨oE _ _ _ _,Fr.refl _ _,by simp[ag],rfl,rfl,by simp⟩
theorem En.cG {wz:World} (h:En w wr l i a c out) (f:Fr [] wr wz):En w wz l i a c out:=⟨dp h.own f (by simp),h.fr.trans f,h.new,h.err,h.all,h.few⟩
theorem En.bad (h:En w wr l i a c out) {x:Ln} (hx:l[i]?=some x) (k:Nat) (hb:pkt.bad x=k) (h0:k≠0):gZ l=k:=by rw[<-h.err];have hi:=(nF.1 hx);obtain⟨hi,e⟩:=hi;rw[xg hi,e,gZ,if_neg (by omega),hb]
theorem En.more {w1 w2:World} {a':OA} {c' n:Nat} (h:En w w1 l i a c out) {x:Ln} (hx:l[i]?=some x) (hb:pkt.bad x=0) (hn:out.length+(one x).length=n)
  (own:w2.ownsRow 0 5 1 (.slice a' n c') n (out.map bv++(one x).map bv)) (fr:Fr (ag a) w1 w2) (dc:∀y∈ag a',y∈ag a\/w1.heap.size<=y):En w w2 l (i+1) a' c' (out++one x):=by
 obtain⟨hi,e⟩:=nF.1 hx;have hd:l.drop i=x::l.drop (i+1):=by rw[xg hi,e]
 have e1:=h.err;have e2:=h.all;have e3:=h.few;rw[hd]at e1 e2 e3;simp only[gZ,lz,Ai]at e1 e2 e3;rw[if_pos hb]at e1;have e4:=one_le x;refine⟨by rw[aG,hn,jd];exact own,h.fr.step fr λy hy=>.inr (h.new y hy),λy hy=>?_,e1,by rw[fU];exact e2,by rw[aG];omega⟩;rcases dc y hy with h1|h1
 ·exact h.new y h1
 ·have:=h.fr.size;omega
theorem En.done (h:En w wr l i a c out) (hi:l.length<=i):kF w l (.returned (.tuple #[.slice a out.length out.length,.int .i64 0])) wr:=by
 have e1:=h.err;have e2:=h.all;rw[Ax hi]at e1 e2;simp only[gZ,lz,nX]at e1 e2;have e:enc l=(out,0):=by unfold enc;rw[if_pos e1.symm,e2]
 unfold kF;rw[e];refine⟨a,out.length,rfl,rfl,qK h.own,λhn=>?_,h.fr⟩;rcases h.own.2 with⟨h1,h2⟩|⟨g,aM,cur,h1,hb,hg,xu,hm,hs,ht⟩
 ·exact h2
 ·rw[hn]at h1;simp at h1
theorem qxx (ao:OA) (cap:Nat) (ls:List Lv) (w:World) (L:jU w ao cap ls) (tJ:Ai (ls.map Lv.ln)<=2199023255552) :
  Calls Tryz.prog 88 #[.slice ao ls.length cap] w (kF w (ls.map Lv.ln)):=by
 have dI:=L.max;have hle:=L.le;have rJ:ls.length<=9223372036854775807:=by unfold maxLen at dI;omega
 obtain⟨N,hN⟩:=ah ls.length;have HN:=af hN;have HL:=af L;rw[<-hN]at rJ hle ⊢;clear L hN;go_enter Tryz.func88,Tryz.ntmps88;go_wp2;go_loopg [4,10] N (λk s4 s10 wr=>∃i a c out,i+k=N/\s10 = .int .i64 (i:Nat)/\s4 = .slice a out.length c/\En w wr (ls.map Lv.ln) i a c out);case atStart=>exact⟨0,none,0,[],by omega,rfl,rfl,zfb w _⟩
 case round=>
  obtain⟨i,a,c,out,hi,rfl,rfl,h⟩:=hrel;have H:=af h;obtain⟨_,_,he,Qt,kE⟩:=um h.own;simp only[kJ]at he;obtain⟨rfl,_,rfl⟩:=he;have mj:=h.few;clear h;by_cases fD:i<N
  ·have cN:i<ls.length:=by have:=HN.out;omega
   have hx:(ls.map Lv.ln)[i]?=some ls[i].ln:=by simp[cN]
   obtain⟨g,o,rfl,hc⟩:=HL.out.cs.at (by rw[Un];omega);obtain⟨x0,x1⟩:=S8 ls i cN;have c0:=H.out.fr.cell (hc _ _ x0) (by simp);have c1:=H.out.fr.cell (hc _ _ x1) (by simp);rw[<-pP]at c1;have FO:=HL.out.ok ls[i] (sk cN);have iq:=FO.fr H.out.fr;generalize ls[i]=x at *;have tj:x.bs.length+4<=Ai (ls.map Lv.ln):=by
    have e3:=H.out.few;have:(ls.map Lv.ln).drop i=x.ln::(ls.map Lv.ln).drop (i+1):=by obtain⟨h1,h2⟩:=nF.1 hx;rw[xg h1,h2]
    rw[this]at e3;simp only[Ai,Lv.ln]at e3 ⊢;omega
   obtain⟨k,xa,xc,d⟩:=x;simp only[Lv.ln]at *;obtain⟨D,hD⟩:∃D,d.length=D:=⟨_,rfl⟩;have og:=iq.le;have Na:=iq.nil;have hdm:=iq.max;simp only at og Na hdm;have hxa:∀y∈ag xa,d≠[]->y∉ag a:=λy hy bg hya=>by
    have h1:=FO.cs.lt (by simpa using bg);have h2:=H.out.new y hya;cases xa with
    | none=>simp[ag]at hy
    | some z=>have:=h1 z rfl;simp[ag]at hy;omega
   have Hxa:=af hxa;have HX:=aq hx iq.cs hD;clear FO hxa;rw[hD]at c1 tj og;clear hc x0 x1 hx iq hD;have hDm:D<=9223372036854775807:=by omega
   go_upto_region 4 with fail;go_cut [6] from 11 to 13 (λs6 wz=>∃b,s6 = .pointer (some ⟨b,0,none⟩)/\wz.heap[b]?=some (.cells #[.int .i64 k,.slice xa D xc] 46 (0,0))/\Fr [] wr wz/\b∉ag a)
   case first=>go_wp2;go_meet;exact⟨wr.heap.size,rfl,aV wr _,(Fr.refl _ wr).alloc _,λhy=>by have:=si H.out.own (rz hy);omega⟩
   case rest=>
   clear c0 c1;obtain⟨b,rfl,hb,f4,Nn⟩:=hcut;have c0:=cell_of hb 0;have c1:=cell_of hb 1;simp only[dJ,dk,dU]at c0 c1;have H4:=af (H.out.cG f4);have Aa:=aq HX.o0 (HX.o1.fr f4 (by simp)) HX.l2;clear H HX f4 hb;by_cases hk:k<1\/4<k
   ·have e:=H4.out.bad Aa.o0 3 (by unfold bad;exact if_pos (by rcases hk with hk|hk;exact .inl hk;exact .inr (.inl hk))) (by decide);have HE:=af (Ud e (by decide) H4.out.fr);clear e;by_cases oZ:k<1
    ·have b1:decide (k<1)=true:=by simpa using oZ
     go_wp2;go_ret2;exact HE.out
    ·have b1:decide (k<1)=false:=by simpa using oZ
     have b2:decide (4<k)=true:=by simp;omega
     go_wp2;go_ret2;exact HE.out
   ·have b1:decide (k<1)=false:=by simp;omega
    have b2:decide (4<k)=false:=by simp;omega
    by_cases oZ:k=1
    ·subst oZ;by_cases hD0:D=0
     ·have Gk:d=[]:=sr (by rw[Aa.l2,hD0]);have e:=H4.out.bad Aa.o0 3 (by unfold bad;exact if_pos (.inr (.inr ⟨rfl,Gk⟩))) (by decide);have HE:=af (Ud e (by decide) H4.out.fr);clear e Gk hk;subst hD0;go_wp2;go_ret2;exact HE.out
     ·have b3:((D:Int)==0)=false:=by simp;omega
      have Cz:d≠[]:=λh=>hD0 (by rw[<-Aa.l2,h];rfl)
      by_cases nQ:65516<D
      ·have e:=H4.out.bad Aa.o0 5 (by unfold bad;rw[if_neg (by simp[Cz]),if_pos ⟨rfl,by rw[Aa.l2];exact nQ⟩]) (by decide);have HE:=af (Ud e (by decide) H4.out.fr);have b4:decide ((65516:Int)<D)=true:=by simp;omega
       clear e Cz hk;go_wp2;go_ret2;exact HE.out
      ·have b4:decide ((65516:Int)<D)=false:=by simp;omega
       have gV:bad ((1:Int),d)=0:=by unfold bad;rw[if_neg (by simp[Cz]),if_neg (by rw[Aa.l2];simp;omega)]
       have HG:=af gV;clear Cz hk gV;obtain⟨n,hn⟩:=ah (D+4);have tI:(D:Int)+4=n:=by omega
       have oW:n<65536:=by omega
       have Hn:=af hn;clear hn;go_upto_region 11 with fail;go_cut [7] from 46 to 50 (λs7 wz=>s7 = .int .i64 n/\wc=wz)
       case first=>go_wp2;go_meet;exact⟨by first|rfl|exact int_eq tI,rfl⟩
       case rest=>
       clear tI;obtain⟨rfl,rfl⟩:=hcut;have iz:=KI (n/4096%16) (by omega);have j6:=KI (n/256%16) (by omega);have mJ:=KI (n/16%16) (by omega);have Fm:=KI (n%16) (by omega);have hm:∀x:Nat,bits .and .i64 (x:Int) 15=((x%16:Nat):Int):=λx=>(zeu x 4 (by decide)).trans (by omega)
       have e0:(n:Int)/4096=((n/4096%16:Nat):Int):=by omega
       have e1:bits .and .i64 ((n:Int)/256) 15=((n/256%16:Nat):Int):=hm (n/256);have e2:bits .and .i64 ((n:Int)/16) 15=((n/16%16:Nat):Int):=hm (n/16);have e3:bits .and .i64 (n:Int) 15=((n%16:Nat):Int):=hm n;have hh:(ph n).map bv=[.int .u8 ((bL (n/4096%16)).toNat:Nat),.int .u8 ((bL (n/256%16)).toNat:Nat),.int .u8 ((bL (n/16%16)).toNat:Nat),.int .u8 ((bL (n%16)).toNat:Nat)]:=rfl;generalize (bL (n/4096%16)).toNat=h0 at *;generalize (bL (n/256%16)).toNat=h1 at *;generalize (bL (n/16%16)).toNat=h2 at *;generalize (bL (n%16)).toNat=h3 at *;generalize n/4096%16=k0 at *;generalize n/256%16=k1 at *;generalize n/16%16=k2 at *;generalize n%16=k3 at *;have HH:=af hh;clear hh hm;go_upto_region 12 with fail;go_cut [4] from 55 to 71 (λs4 wz=>∃a2 c2,s4 = .slice a2 (out.length+4) c2/\wz.ownsRow 0 5 1 (.slice a2 (out.length+4) c2) (out.length+4) (out.map bv++(ph n).map bv)/\Fr (ag a) wc wz/\(∀y∈ag a2,y∈ag a\/wc.heap.size<=y))
       case first=>
        refine lK 17 [(false,0),(false,1),(false,2),(false,3),(false,4),(false,5),(false,6),(false,7),(false,8),(false,9),(false,10),(false,11),(false,12),(false,13),(false,14),(true,15),(true,16)] (ag a) (by kernel_rfl) (by kernel_rfl) (λ_ _ d _ _ h=>by cases d<;>exact h) ?_;simp only[kQ];refine eD 15 rfl ?_;simp only[cT];repeat (go_big_quiet_step (fail))
        refine wpQuiet_nil ?_;clear e0 e1 e2 e3 iz j6 mJ Fm;refine jb rfl ?_;intro X hX;go_wp2;refine hX.out _ _ ((Fr.refl _ wc.drew).alloc _) ?_;clear hX X;have cG:Fr [] wc (wc.drew.alloc (.cells #[.int .u8 h0,.int .u8 h1,.int .u8 h2,.int .u8 h3] 5)):=(Fr.aB [] wc).alloc _;have iu:=dp H4.out.own cG (by simp);have cA:Cs (wc.drew.alloc (.cells #[.int .u8 h0,.int .u8 h1,.int .u8 h2,.int .u8 h3] 5)) (some ⟨wc.drew.heap.size,0,none⟩) ((ph n).map bv):=by rw[HH.out];exact .inr ⟨wc.drew.heap.size,0,rfl,λj u hj=>by rw[cell_of (aV wc.drew _)];simpa using hj⟩
        refine jb rfl ?_;intro X hX;refine sj aEs _ _ rfl (.slice a out.length c) out.length (out.map bv) (ag a) rfl (by rw[cY]) iu (some ⟨wc.drew.heap.size,0,none⟩) 4 4 ((ph n).map bv) rfl (by decide) (by simp) cA (by rfl) (qI _) (by omega) (by unfold maxLen;omega) ?_;intro a2 c2 w2 A1;refine hX.out _ _ A1.fr ?_;clear hX X;refine j4 ?_;go_wp2;go_meet;exact⟨a2,c2,rfl,A1.own,(cG.mono (by simp)).trans A1.fr,λy hy=>(A1.at_ y hy).imp id λh=>bP cG.size (Ex h.symm)⟩
       case rest=>
       clear e0 e1 e2 e3 iz j6 mJ Fm;obtain⟨a2,c2,rfl,nH,f2,Nr⟩:=hcut;obtain⟨_,_,xB,zaN,VJ⟩:=um nH;simp only[kJ]at xB;obtain⟨rfl,_,rfl⟩:=xB;have c1:=f2.cell c1 Nn;have Nd:Cs wc xa (d.map bv):=by
        by_cases bg:d=[]
        ·left;rw[bg];rfl
        ·exact Aa.o1.fr f2 (λy hy=>Hxa.out y hy bg)
       have CA:=Aa.l2;have H2:=aA nH f2 Nr Nd;clear nH f2 Nr Nd c0;go_wp2_with (refine fq aEs rfl _ _ rfl (.slice a2 (out.length+4) c2) (out.length+4) (out.map bv++(ph n).map bv) (ag a2) rfl (by rw[cY]) H2.o0 xa D xc (d.map bv) rfl og Na H2.l3 (by simp[CA]) (qI _) (by omega) (by unfold maxLen;omega) ?_;intro a3 c3 w3 A3);go_roundg (N-(i+1));case measure=>omega
       case rel=>
        have e:one ((1:Int),d)=ph n++d:=by show ph (d.length+4)++d=_;rw[CA,Hn.out]
        have h2:=H2.out;have cZ:=h2.2.1.size;have h:=H4.out.more Aa.o0 HG.out (n:=out.length+4+D) (a':=a3) (c':=c3) (w2:=w3) (by rw[e,aG,KO,CA];omega) (by rw[e,jd,<-fU];exact A3.own)
         (h2.2.1.step A3.fr λy hy=>h2.2.2.1 y hy) (λy hy=>by
          rcases A3.at_ y hy with h3|h3
          ·exact h2.2.2.1 y h3
          ·right;omega)
        exact⟨i+1,a3,c3,out++one ((1:Int),d),by omega,by go_num,by rw[aG,e,aG,KO,CA,pP],h⟩
    ·have b3:(k==1)=false:=by simpa using oZ
     have gV:bad (k,d)=0:=by unfold bad;rw[if_neg (by simp only;omega),if_neg (by simp only;omega)]
     have Mm:(one (k,d)).map bv=[.int .u8 48,.int .u8 48,.int .u8 48,.int .u8 (48+k-2)]:=by unfold one;rw[if_neg oZ];exact qww k (by omega)
     have D0:(one (k,d)).length=4:=by unfold one;rw[if_neg oZ,KO]
     have iu:=dp H4.out.own ((Fr.refl [] wc).alloc (.cells #[.int .u8 48,.int .u8 48,.int .u8 48,.int .u8 (48+k-2)] 5)) (by simp);have cA:Cs (wc.alloc (.cells #[.int .u8 48,.int .u8 48,.int .u8 48,.int .u8 (48+k-2)] 5)) (some ⟨wc.heap.size,0,none⟩) [.int .u8 48,.int .u8 48,.int .u8 48,.int .u8 (48+k-2)]:=
      .inr ⟨wc.heap.size,0,rfl,λj u hj=>by rw[cell_of (aV wc _)];simpa using hj⟩
     have HG:=aQ gV Mm D0 iu cA;clear gV Mm D0 iu cA;go_wp2_with (refine fq aEs rfl _ _ rfl (.slice a out.length c) out.length (out.map bv) (ag a) rfl (by rw[cY]) HG.out.2.2.2.1 (some ⟨wc.heap.size,0,none⟩) 4 4 [.int .u8 48,.int .u8 48,.int .u8 48,.int .u8 (48+k-2)] rfl (by decide) (by simp) HG.out.2.2.2.2 (by rfl) (by simp[Value.oneCell']) (by omega) (by unfold maxLen;omega) ?_;intro a2 c2 w2 A1);go_roundg (N-(i+1));case measure=>omega
     case rel=>
      have hl:=HG.out.2.2.1;have A1:aN (wc.alloc (.cells #[.int .u8 48,.int .u8 48,.int .u8 48,.int .u8 (48+k-2)] 5)) w2 5 1 (ag a) a2 (out.length+4) c2 (out.map bv++(one (k,d)).map bv):=by rw[HG.out.2.1];exact A1
      have h:=(H4.out.cG ((Fr.refl [] wc).alloc (.cells #[.int .u8 48,.int .u8 48,.int .u8 48,.int .u8 (48+k-2)] 5))).more Aa.o0 HG.out.1 (by rw[hl]) A1.own A1.fr (λy hy=>(A1.at_ y hy).imp id λh=>Ex h.symm);exact⟨i+1,a2,c2,out++one (k,d),by omega,by go_num,by rw[aG,hl],h⟩
  ·have hk:gk=0:=by omega
   clear fD;go_wp2_with (go_at_call 79;refine (YU a out.length c _ Qt kE).mono ?_;rintro e w2 ⟨rfl,hw⟩;obtain rfl:=hw.symm);go_ret2;exact H.out.done (by rw[gx,<-HN.out];omega)
def rZ (w:World) (bs:LB) (e:Ending) (w':World):Prop:=
 ∃(a:OA) (ls:List Lv),e = .returned (.tuple #[.slice a ls.length ls.length,.int .i64 (decode bs).2.1,.int .i64 (decode bs).2.2])/\jU w' a ls.length ls/\ls.map Lv.ln=(decode bs).1/\Fr [] w w'
structure At (w wr:World) (bs:LB) (k:Nat) (a:OA) (cap:Nat) (ls:List Lv) (i:Nat):Prop where
 grow:jI w wr a cap ls
 le:i<=bs.length
 fuel:bs.length-i<=k
 few:ls.length<=i
 dec:dec k (bs.drop i) i (ls.map Lv.ln)=decode bs
theorem zh5 {cap:Nat} (h:At w wr bs k a cap ls i) (hd:pkt.dec k (bs.drop i) i (ls.map Lv.ln)=(ls.map Lv.ln,i,0)) :
  decode bs=(ls.map Lv.ln,i,0):=by rw[<-h.dec,hd]
theorem PE {u x:Nat} (hd:decode bs=(ls.map Lv.ln,u,x)) (h:jU w' a ls.length ls) (f:Fr [] w w') :
  rZ w bs (.returned (.tuple #[.slice a ls.length ls.length,.int .i64 u,.int .i64 x])) w':=by
 unfold rZ;rw[hd];exact⟨a,ls,rfl,h,rfl,f⟩
theorem qx0 (ao:OA) (cap:Nat) (bs:LB) (w:World) (hle:bs.length<=cap) (dI:cap<=9223372036854775807) (uT:ao=none->cap=0) (hcs:Cs w ao (bs.map bv)) (tJ:bs.length<=2199023255552) :
  Calls Tryz.prog 89 #[.slice ao bs.length cap] w (rZ w bs):=by
 go_enter Tryz.func89,Tryz.ntmps89;go_upto_block 0 with fail;go_cut [2,3] from 7 to 8 (λs2 s3 wz=>∃a c ls i,s2 = .slice a ls.length c/\s3 = .int .i64 (i:Nat)/\jI w wz a c ls/\decode bs=(ls.map Lv.ln,i,0))
 case first=>
  go_wp2;go_loopg [2,3] bs.length (λk s2 s3 wr=>∃a c ls i,s2 = .slice a ls.length c/\s3 = .int .i64 (i:Nat)/\At w wr bs k a c ls i);case atStart=>exact⟨none,0,[],0,rfl,rfl,BG w,eE _,by omega,eE _,rfl⟩
  case round=>
   obtain⟨a,c,ls,i,rfl,rfl,h⟩:=hrel;have hi:=h.le;have hw:=h.fuel;have mj:=h.few;have H:=af h;clear h;by_cases h4:bs.length-i<4
   ·have hd:=zh5 H.out (by cases gk with|zero=>rfl|succ k=>rw[dec,if_pos (by simp;omega)]);have HD:=af hd;clear hd;go_wp2;go_meet;exact⟨a,c,ls,i,rfl,rfl,H.out.grow,HD.out⟩
   ·obtain⟨k,rfl⟩:∃k,gk=k+1:=⟨gk-1,by omega⟩;have bO:=H.out.dec;rw[dec,if_neg (by simp;omega)]at bO;have hcut:=((hcs.fr H.out.grow.fr (by simp)).cut cap i bs.length hi (by simp) (by simpa using hle));rw[lL (by simp),<-TX]at hcut;have cZ:=zdg (bh ao cap i 1) (cap-i) (bs.drop i) wr (by simp;omega) (by simp;omega) (by omega) (by rw[CZ];exact hcut);rw[gN]at cZ;clear hcut;go_upto_region 2 with fail;go_cut [5,6] from 11 to 18 (λs5 s6 wz=>s5 = .int .i64 (sz (bs.drop i)).1/\s6 = .bool (sz (bs.drop i)).2/\wr=wz)
    case first=>clear bO;go_wp2_with (first|(refine Uv aEs i rfl _ _ rfl ao bs.length cap _ rfl rfl rfl (by omega) (by omega) ?_)|(go_at_call 146;refine cZ.mono ?_;rintro e w2 ⟨rfl,hw⟩;obtain rfl:=hw.symm));go_meet;exact⟨rfl,rfl,rfl⟩
    case rest=>
    clear cZ;obtain⟨rfl,rfl,rfl⟩:=hcut;generalize hr:bs.drop i=r at *;have Hr:=af hr;clear hr;cases hnum:num r with
    | none=>
     rw[O9 hnum];rw[hnum]at bO;have HD:=af bO;clear bO hnum;go_wp2;go_ret3;exact PE (ls:=[]) HD.out.symm (BG _).lines H.out.grow.fr
    | some n=>
     rw[hnum]at bO;simp only at bO;have Vf:=Ij hnum;by_cases h34:n=3\/n=4
     ·rw[R7 hnum h34];rw[if_pos h34]at bO;have HD:=af bO;clear bO hnum;go_wp2;go_ret3;exact PE (ls:=[]) HD.out.symm (BG _).lines H.out.grow.fr
     ·rw[YG hnum h34];rw[if_neg h34]at bO;by_cases nQ:65520<n
      ·rw[if_pos nQ]at bO;have HD:=af bO;clear bO hnum;go_wp2;go_ret3;exact PE (ls:=[]) HD.out.symm (BG _).lines H.out.grow.fr
      ·rw[if_neg nQ]at bO;by_cases mK:n<3
       ·rw[if_pos mK]at bO;have HD:=af bO;have kB:r.length=bs.length-i:=by rw[<-Hr.out,gN]
        clear bO hnum;obtain⟨S,hS⟩:=ah (ag a);have HS:=af hS;clear hS;have iu:=dp H.out.grow.own ((Fr.refl [] wr).alloc (.cells #[.int .i64 (2+(n:Int)),.slice none 0 0] 46)) (by simp);have cA:Cs (wr.alloc (.cells #[.int .i64 (2+(n:Int)),.slice none 0 0] 46)) (some ⟨wr.heap.size,0,none⟩) (bK [⟨2+(n:Int),none,0,[]⟩]):=
         .inr ⟨wr.heap.size,0,rfl,λj u hj=>by rw[cell_of (aV wr _)];simpa[bK] using hj⟩
        have HA:=ai iu cA;clear iu cA;go_wp2_with (refine fq fL rfl _ _ rfl (.slice a ls.length c) ls.length (bK ls) S rfl (by rw[cY,HS.out]) HA.out.1 (some ⟨wr.heap.size,0,none⟩) 1 1 _ rfl (by decide) (by simp) HA.out.2 (by rfl) (qoc _) (by omega) (by unfold maxLen;omega) ?_;intro a2 c2 w2 A1);go_roundg k;case measure=>omega
        case rel=>have h:=H.out;have f1:Fr [] wr (wr.alloc (.cells #[.int .i64 (2+(n:Int)),.slice none 0 0] 46)):=(Fr.refl [] wr).alloc _;rw[HS.out]at A1;have hg:=(h.grow.cG f1).more A1 (x:=⟨2+(n:Int),none,0,[]⟩) ⟨.inl rfl,ax _,λ_=>rfl,eE _⟩ (by simp[ag]) (by simp[ag]);refine⟨a2,c2,ls++[⟨2+(n:Int),none,0,[]⟩],i+4,by simp,by go_num,hg,by omega,by omega,by simp;omega,?_⟩;rw[<-HD.out,<-Hr.out,BF];simp[Lv.ln]
       ·rw[if_neg mK]at bO;by_cases qQ:r.length<n
        ·rw[if_pos qQ]at bO;have HD:=af bO;have kB:r.length=bs.length-i:=by rw[<-Hr.out,gN]
         clear bO hnum;go_wp2;go_meet;exact⟨a,c,ls,i,rfl,rfl,H.out.grow,HD.out.symm⟩
        ·rw[if_neg qQ]at bO;have HD:=af bO;have kB:r.length=bs.length-i:=by rw[<-Hr.out,gN]
         clear bO hnum;obtain⟨S,hS⟩:=ah (ag a);have HS:=af hS;clear hS;obtain⟨m,hm⟩:∃m,n=m+4:=⟨n-4,by omega⟩;obtain⟨ds,Ea⟩:=ah ((bs.drop (i+4)).take m);have og:ds.length=m:=by rw[Ea,fH,gN];omega
         have hcut:=((hcs.fr H.out.grow.fr (by simp)).cut cap (i+4) (i+n) (by omega) (by simp;omega) (by simpa using hle));rw[show i+n-(i+4)=m from by omega,<-CZ,<-EJ,<-Ea]at hcut;have fX:=zb2 (cutAt ao cap (i+4)) (cap-(i+4)) ds wr hcut (by omega) (λh=>by have:=uT (qom h);omega) (by omega);unfold r9 at fX;rw[og]at fX;have HDS:=ai Ea og;have HM:=af hm;clear hcut Ea og hm;have hmn:(i:Int)+n=((i+4:Nat):Int)+m:=by have:=HM.out;omega
         go_upto_region 11 with fail;go_cut [2] from 19 to 54 (λs2 wz=>∃a2 c2 y,s2 = .slice a2 (ls.length+1) c2/\Lv.ln y=(1,ds)/\jI w wz a2 c2 (ls++[y]))
         case first=>
          go_wp2_with (first|(refine qli aEs (i+4) m rfl _ _ _ rfl ao bs.length cap _ _ rfl rfl rfl (by omega) (by have:=HM.out;omega) (by have:=HM.out;omega) ?_)|(go_at_call 109;refine fX.mono ?_;rintro e w1 ⟨a1,c1,rfl,g1,l1,m1,n1,b1,f1⟩;have iu:=dp H.out.grow.own (f1.alloc (.cells #[.int .i64 1,.slice a1 m m] 46)) (by simp);have cA:Cs (w1.alloc (.cells #[.int .i64 1,.slice a1 m m] 46)) (some ⟨w1.heap.size,0,none⟩) [.int .i64 1,.slice a1 m m]:=(.inr ⟨w1.heap.size,0,rfl,λj u hj=>by rw[cell_of (aV w1 _)];simpa using hj⟩);have HA:=ai iu cA;clear iu cA)|(go_at_call 79;refine (YU a1 m c1 _ l1 m1).mono ?_;rintro e w2 ⟨rfl,hw⟩;obtain rfl:=hw.symm)|(refine fq fL rfl _ _ rfl (.slice a ls.length c) ls.length (bK ls) S rfl (by rw[cY,HS.out]) HA.out.1 (some ⟨w1.heap.size,0,none⟩) 1 1 [.int .i64 1,.slice a1 m m] rfl (by decide) (by simp) HA.out.2 (by rfl) (by simp[Value.oneCell']) (by omega) (by unfold maxLen;omega) ?_;intro a2 c2 w2 A1));go_meet;have f2:Fr [] wr (w1.alloc (.cells #[.int .i64 1,.slice a1 m m] 46)):=f1.alloc _;have zw:=g1.cs.fr ((Fr.refl [] w1).alloc (.cells #[.int .i64 1,.slice a1 m m] 46)) (by simp);rw[HS.out]at A1;have bF:∀y∈ag a,y<wr.heap.size:=λy hy=>si H.out.grow.own (rz hy)
          have hl:=HDS.l1;have hg:=(H.out.grow.cG f2).more (x:=⟨1,a1,m,ds⟩) (by simpa[bK,hl] using A1) ⟨zw,by simp only;omega,λh=>by have:=n1 h;simp only;omega,by simp only;omega⟩ (λy hy h=>by have:=(b1 y hy).1;have:=bF y h;omega) (λy hy=>fM (b1 y hy).2 ((Fr.refl [] w1).alloc (.cells #[.int .i64 1,.slice a1 m m] 46)).size);exact⟨a2,c2,⟨1,a1,m,ds⟩,rfl,rfl,hg⟩
         case rest=>
         clear fX;obtain⟨a2,c2,y,rfl,hy,hg⟩:=hcut;have HG:=ai hy hg;clear hy hg;go_wp2;go_roundg k;case measure=>omega
         case rel=>
          refine⟨a2,c2,ls++[y],i+n,by simp,by go_num,HG.l1,by omega,by omega,by simp;omega,?_⟩;rw[<-HD.out,<-Hr.out,BF];have e:((bs.drop i).take n).drop 4=ds:=by rw[C5,BF,HDS.o0];congr 1;have:=HM.out;omega
          rw[e,jd,jL,qg,HG.o0]
 case rest=>
 obtain⟨a,c,ls,i,rfl,rfl,h,hd⟩:=hcut;obtain⟨h1,h2,_⟩:=h.shape;have H:=af h;have HD:=af hd;clear h hd;go_wp2_with (go_at_call 37;refine (qoq a ls.length c _ h1 h2).mono ?_;rintro e w2 ⟨rfl,hw⟩;obtain rfl:=hw.symm);go_ret3;exact PE HD.out H.out.lines H.out.fr
end pkt
namespace lib
open Go Go.RowKit
end lib
namespace pkt
open Go Go.RowKit lib bm
variable {w wr wz:World} {l:List Ln} {a:OA} {G R c i k:Nat} {bs:LB}
theorem yU:(Tryz.prog.info? 46).map (·.size)=some 2:=by kernel_rfl
theorem qkp {fn:Func} {p:Tmp} (h:fn.results=#[.cell p 46]) (tmps:AV) (w:World) (g:Nat) (cs:AV) (fr:Nat×Nat)
  (hp:tmps.getD p undef = .pointer (some ⟨g,0,none⟩)) (hg:w.heap[g]?=some (.cells cs 46 fr)) (hs:cs.size=2):(results fn tmps).run Tryz.prog w = .ok (.agg cs) w:=
 results_cell_row h tmps w g 46 cs fr _ hp hg Tryz.underlying46 rfl (by rw[yU,hs])
theorem ZR (w:World):Calls Tryz.prog 42 #[] w λe w'=>e = .returned (.agg #[.int .i64 2,.slice none 0 0])/\Fr [] w w':=by go_enter Tryz.func42,Tryz.ntmps42;go_wp2;(try simp only[Exit.inBlock,Exit.then]);refine bodyPost_ret (qkp rfl _ _ w.heap.size _ (0,0) rfl (aV w _) rfl) rfl ?_;exact⟨rfl,(Fr.refl _ w).alloc _⟩
def dC:List Ln->List Value
 | []=>[]
 | x::r=>.int .i64 x.1::.string (str x.2)::dC r
theorem qja:∀a b:List Ln,dC (a++b)=dC a++dC b
 | [],b=>rfl
 | x::a,b=>by simp only[uo,dC,qja a b]
theorem TY:∀(a:List Ln),∀u∈dC a,u.oneCell'=true
 | [],u,h=>by cases h
 | x::a,u,h=>by
  simp only[dC,eX]at h;rcases h with rfl|rfl|h
  ·rfl
  ·rfl
  ·exact TY a u h
theorem ow:aw Tryz.prog 52 59 (.agg #[.int .i64 0,.string ⟨#[]⟩]) 2 24:=aw.of Tryz.underlying52 (by kernel_rfl) (by kernel_rfl) (by decide)
theorem En.ok {out:LB} (h:En w wr l i a c out) (hi:l.length<=i):enc l=(out,0):=by have e1:=h.err;have e2:=h.all;rw[Ax hi]at e1 e2;simp only[gZ,lz,nX]at e1 e2;unfold enc;rw[if_pos e1.symm,e2]
theorem BH (s:LB) (i:Nat) (c:UInt8) (h:s[i]?=some c) (w:World):(Instr.index 9 (.string (str s)) (.int .i64 i)).run Tryz.prog w = .ok (.int .u8 (c.toNat:Nat)) w:=by
 obtain⟨hi,e1⟩:=nF.1 h;have e:=run_index_string (P:=Tryz.prog) w 9 (str s) .i64 i Tryz.underlying9;rw[dif_pos ⟨by omega,by rw[aj];omega⟩]at e;simp only[xZ]at e;rw[e];have:(str s)[i]'(by rw[aj];exact hi)=c:=by rw[<-e1];rfl
 rw[this]
theorem qqo (bs:LB) (i j:Nat) (ij:Int) (hj:ij=j) (h1:i<=j) (h2:j<=bs.length) (w:World) :
  (Instr.slice 9 (.string (str bs)) (some (.int .i64 i)) (some (.int .i64 ij)) none).run Tryz.prog w = .ok (.string (str ((bs.take j).drop i))) w:=by
 subst hj;rw[run_slice_string w 9 (str bs) .i64 .i64 i j Tryz.underlying9 (by omega) (by omega) (by rw[aj];omega),<-IW];simp
def vK (c:UInt8) (k:Nat):Int:=match digit c with
 | some d=>if d<k then (d:Int) else -1
 | none=>-1
theorem zcz (c:UInt8):vK c 0 = -1:=by unfold vK;split<;>simp
theorem zbk {c:UInt8} (h:digit c=some k):c=bL k:=by
 unfold digit at h;apply C9.1;unfold bL;rw[xd];have:=mW c;split at h
 ·simp only[fI]at h;rw[if_pos (by omega)];omega
 ·split at h
  ·simp only[fI]at h;rw[if_neg (by omega)];omega
  ·cases h
theorem zgm {c:UInt8} (hk:k<16) (h:bL k=c):vK c (k+1)=k:=by unfold vK;rw[<-h,qxz k hk];simp
theorem zh6 {c:UInt8} (h:bL k≠c):vK c (k+1)=vK c k:=by
 unfold vK;cases hd:digit c with
 | none=>rfl
 | some d=>
  have:d≠k:=λe=>h (by rw[<-e];exact (zbk hd).symm)
  simp only;by_cases h1:d<k
  ·rw[if_pos (by omega),if_pos h1]
  ·rw[if_neg (by omega),if_neg h1]
theorem zgn (c:UInt8):(∃d,digit c=some d/\d<16/\vK c 16=d)\/(digit c=none/\vK c 16 = -1):=by
 unfold vK;cases hd:digit c with
 | none=>exact .inr ⟨rfl,rfl⟩
 | some d=>exact .inl ⟨d,rfl,SS hd,by simp[SS hd]⟩
def nJ (s:LB):Int:=match num s with
 | some n=>(n:Int)
 | none=>-1
theorem qxf (s:LB) (w:World) (hs:s.length=4):Calls Tryz.prog 40 #[.string (str s)] w λe w'=>e = .returned (.int .i64 (nJ s))/\Fr [] w w':=by
 obtain⟨z,hz⟩:=ah (str s);have HS:=ai hs hz;rw[<-hz];clear hs hz;go_enter Tryz.func40,Tryz.ntmps40;go_wp2;go_loopg [3,4] 4 (λk s3 s4 wr=>∃(i n:Nat),i+k=4/\s4 = .int .i64 i/\s3 = .int .i64 n/\n<16^i/\jn n (s.drop i)=num s/\Fr [] w wr);case atStart=>exact⟨0,0,rfl,rfl,rfl,by decide,by unfold num;rw[lL (by rw[HS.o0];decide)];rfl,Fr.refl _ _⟩
 case round=>
  obtain⟨i,n,hi,rfl,rfl,hn,hd,dM⟩:=hrel;by_cases hi4:i<4
  ·have AQ:n<4096:=by
    have:16^i<=16^3:=lJ (by decide) (by omega);have e:(16:Nat)^3=4096:=by decide
    omega
   have cN:i<s.length:=by rw[HS.o0];exact hi4
   obtain⟨c,hc⟩:∃c,s[i]?=some c:=⟨s[i],by simp[cN]⟩;have hdr:s.drop i=c::s.drop (i+1):=by obtain⟨h1,h2⟩:=nF.1 hc;rw[xg h1,h2]
   rw[hdr]at hd;have Vu:=λw=>BH s i c hc w
   rw[<-HS.l1]at Vu;have HD:=aq hd hn dM;have HIX:=af Vu;clear hd hn dM Vu hdr hc cN;go_upto_block 2 with fail;go_cut [5,6] from 11 to 22 (λs5 s6 wz=>s5 = .int .i64 (vK c 16)/\Fr [] wr wz)
   case first=>
    go_wp2;go_loopg [5,6] 16 (λk s5 s6 Ey=>∃(j:Nat),j+k=16/\s6 = .int .i64 j/\s5 = .int .i64 (vK c j)/\Fr [] wr Ey);case atStart=>exact⟨0,rfl,rfl,by rw[zcz],Fr.refl _ _⟩
    case round=>
     obtain⟨j,hj,rfl,rfl,dM⟩:=hrel;have F:=af dM;clear dM;by_cases hj16:j<16
     ·have i1:=KI j hj16;have i2:=HIX.out;by_cases he:bL j=c
      ·have hv:=zgm hj16 he;have HV:=af hv;have hb:((((bL j).toNat:Nat):Int)==((c.toNat:Nat):Int))=true:=by rw[he];simp
       generalize (bL j).toNat=hn at *;generalize c.toNat=cn at *;clear he hv;go_upto_region 9 with fail;go_quiet (fail);clear i1 i2;go_wp2;go_roundg (16-(j+1));case measure=>omega
       case rel=>exact⟨j+1,by omega,by go_num,by rw[HV.out],F.out.trans (Fr.drewN _ _ _)⟩
      ·have hv:=zh6 he;have HV:=af hv;have bg:(bL j).toNat≠c.toNat:=λe=>he (C9.1 e)
       have hb:((((bL j).toNat:Nat):Int)==((c.toNat:Nat):Int))=false:=by simp;omega
       generalize (bL j).toNat=hn at *;generalize c.toNat=cn at *;clear he hv bg;go_upto_region 9 with fail;go_quiet (fail);clear i1 i2;go_wp2;go_roundg (16-(j+1));case measure=>omega
       case rel=>exact⟨j+1,by omega,by go_num,by rw[HV.out],F.out.trans (Fr.drewN _ _ _)⟩
     ·obtain rfl:j=16:=by omega
      go_wp2;go_meet;exact⟨rfl,F.out⟩
   case rest=>
   obtain⟨rfl,f2⟩:=hcut;have HF:=af f2;clear f2;rcases zgn c with⟨d,hd,zbE,hv⟩|⟨hd,hv⟩
   ·rw[hv];have WR:=af hd;clear hd hv;go_wp2;go_roundg (4-(i+1));case measure=>omega
    case rel=>have h:=HD.out;rw[jn,WR.out]at h;refine⟨i+1,16*n+d,by omega,by go_num,int_eq (by first|omega|(simp only[wrap64];omega)),?_,h.1,h.2.2.trans HF.out⟩;have:=h.2.1;rw[qJ];omega
   ·rw[hv];have WR:=af hd;clear hd hv;go_wp2;go_ret;refine⟨?_,HD.l1.2.trans HF.out⟩;have h:=HD.o0;rw[jn,WR.out]at h;unfold nJ;rw[<-h];rfl
  ·obtain rfl:i=4:=by omega
   rw[Ax (by rw[HS.o0];decide),jn]at hd;have HD:=ai hd dM;clear hd hn dM;go_wp2;go_ret;exact⟨by unfold nJ;rw[<-HD.o0];rfl,HD.l1⟩
structure Dd (w wr:World) (R G:Nat) (bs:LB) (k:Nat) (a:OA) (c:Nat) (l:List Ln) (i:Nat):Prop where
 own:wr.ownsRow 0 59 2 (.slice a l.length c) l.length (dC l)
 blkR:wr.heap[R]?=some (.cells #[.slice none 0 0,.int .i64 0,.int .i64 0] 54 (0,0))
 blkG:wr.heap[G]?=some (.cells #[.slice a l.length c,.int .i64 0,.int .i64 0] 54 (0,0))
 fr:Fr [] w wr
 newR:w.heap.size<=R
 newG:w.heap.size<=G
 ne:R≠G
 new:∀x∈ag a,w.heap.size<=x/\x≠R/\x≠G
 le:i<=bs.length
 fuel:bs.length-i<=k
 few:l.length<=i
 dec:dec k (bs.drop i) i l=decode bs
theorem zff (w:World) (bs:LB):Dd w ((w.alloc (.cells #[.slice none 0 0,.int .i64 0,.int .i64 0] 54)).alloc (.cells #[.slice none 0 0,.int .i64 0,.int .i64 0] 54)) w.heap.size (w.heap.size+1) bs bs.length none 0 [] 0:=by refine⟨oE _ _ _ _,alloc_old _ (aV w _),?_,((Fr.refl [] w).alloc _).alloc _,ax _,Nat.le_succ _,by omega,by simp[ag],eE _,by omega,eE _,rfl⟩;have:=aV (w.alloc (.cells #[.slice none 0 0,.int .i64 0,.int .i64 0] 54)) (.cells #[.slice none 0 0,.int .i64 0,.int .i64 0] 54);rw[ik]at this;exact this
theorem Dd.cG (h:Dd w wr R G bs k a c l i) (f:Fr [] wr wz):Dd w wz R G bs k a c l i:=
 ⟨dp h.own f (by simp),f.ag h.blkR (by simp),f.ag h.blkG (by simp),h.fr.trans f,h.newR,h.newG,h.ne,h.new,h.le,h.fuel,h.few,h.dec⟩
theorem Dd.more {w1 w2:World} {k':Nat} {a2:OA} {c2:Nat} {i':Nat} {x:Ln} (h:Dd w w1 R G bs k a c l i)
  (A:aN w1 w2 59 2 (ag a) a2 (l.length+1) c2 (dC l++dC [x])) (hle:i'<=bs.length) (hf:bs.length-i'<=k') (mj:l.length+1<=i') (hd:pkt.dec k' (bs.drop i') i' (l++[x])=decode bs) :
  Dd w (w2.setCell ⟨G,0,none⟩ (.slice a2 (l.length+1) c2)) R G bs k' a2 c2 (l++[x]) i':=by
 have hR:R∉ag a:=λhx=>(h.new R hx).2.1 rfl
 have hG:G∉ag a:=λhx=>(h.new G hx).2.2 rfl
 have hGw:G<w1.heap.size:=lt_of_block h.blkG;have QS:R<w1.heap.size:=lt_of_block h.blkR;have lv:∀y∈ag a2,w.heap.size<=y/\y≠R/\y≠G:=λy hy=>by
  rcases A.at_ y hy with h1|h1
  ·exact h.new y h1
  ·have:=h.fr.size;exact⟨by omega,by omega,by omega⟩
 have fs:Fr [G] w2 (w2.setCell ⟨G,0,none⟩ (.slice a2 (l.length+1) c2)):=(Fr.refl [G] w2).setCell (by simp) _;refine⟨?_,?_,?_,(h.fr.step A.fr λy hy=>.inr (h.new y hy).1).step fs λy hy=>.inr (by simp at hy;rw[hy];exact h.newG),h.newR,h.newG,h.ne,lv,hle,hf,by simpa using mj,hd⟩
 ·rw[aG,qja];refine dp A.own fs λy hy hyG=>?_
  simp at hyG;exact (lv y (by rw[<-cY a2 (l.length+[x].length) c2,hy];simp)).2.2 hyG
 ·exact fs.ag (A.fr.ag h.blkR hR) (by simp[h.ne])
 ·rw[df (A.fr.ag h.blkG hG)];simp
theorem Dd.yR (h:Dd w wr R G bs k a c l i) (f:Fr [G] wr wz) (v0 v1 v2:Value) :
  (((wz.setCell ⟨R,0,none⟩ v0).setCell ⟨R,1,none⟩ v1).setCell ⟨R,2,none⟩ v2).heap[R]?=some (.cells #[v0,v1,v2] 54 (0,0))/\
   Fr [] w (((wz.setCell ⟨R,0,none⟩ v0).setCell ⟨R,1,none⟩ v1).setCell ⟨R,2,none⟩ v2)/\Cs (((wz.setCell ⟨R,0,none⟩ v0).setCell ⟨R,1,none⟩ v1).setCell ⟨R,2,none⟩ v2) a (dC l):=by
 have hb:=f.ag h.blkR (by simp[h.ne]);have f2:Fr [R] wz (((wz.setCell ⟨R,0,none⟩ v0).setCell ⟨R,1,none⟩ v1).setCell ⟨R,2,none⟩ v2):=(((Fr.refl [R] wz).setCell (by simp) _).setCell (by simp) _).setCell (by simp) _;refine⟨(df (df (df hb _) _) _).trans rfl,(h.fr.step f λy hy=>.inr (by simp at hy;rw[hy];exact h.newG)).step f2 λy hy=>.inr (by simp at hy;rw[hy];exact h.newR),?_⟩;refine ((ZM h.own).fr f λy hy=>?_).fr f2 λy hy=>?_
 ·simp;exact (h.new y hy).2.2
 ·simp;exact (h.new y hy).2.1
def Hg (w:World) (bs:LB) (e:Ending) (w':World):Prop:=
 ∃(a:OA) (n c:Nat),e = .returned (.agg #[.slice a n c,.int .i64 (decode bs).2.1,.int .i64 (decode bs).2.2])/\(decode bs).1.length=n/\Cs w' a (dC (decode bs).1)/\n<=c/\c<=maxLen/\Fr [] w w'
theorem Kg {w':World} {u x:Nat} (h:decode bs=(l,u,x)) (hc:Cs w' a (dC l)) (h1:l.length<=c) (h2:c<=maxLen) (f:Fr [] w w') :
  Hg w bs (.returned (.agg #[.slice a l.length c,.int .i64 u,.int .i64 x])) w':=by
 unfold Hg;rw[h];exact⟨a,_,c,rfl,rfl,hc,h1,h2,f⟩
theorem B6:(Tryz.prog.info? 54).map (·.size)=some 3:=by kernel_rfl
theorem KS {fn:Func} {p:Tmp} (h:fn.results=#[.cell p 54]) (tmps:AV) (w:World) (g:Nat) (cs:AV) (fr:Nat×Nat)
  (hp:tmps.getD p undef = .pointer (some ⟨g,0,none⟩)) (hg:w.heap[g]?=some (.cells cs 54 fr)) (hs:cs.size=3):(results fn tmps).run Tryz.prog w = .ok (.agg cs) w:=
 results_cell_row h tmps w g 54 cs fr _ hp hg Tryz.underlying54 rfl (by rw[B6,hs])
theorem zfe (bs:LB) (w:World) (tJ:bs.length<=2199023255552) :
  Calls Tryz.prog 13 #[.string (str bs)] w (Hg w bs):=by
 have cZ:=aj bs;obtain⟨z,hz⟩:=ah (str bs);rw[<-hz]at cZ ⊢;have HZ:=af hz;clear hz;go_enter Tryz.func13,Tryz.ntmps13;go_upto_block 0 with fail;go_wp2;go_loopg [4] bs.length (λk s4 wr=>∃a c l i,s4 = .int .i64 (i:Nat)/\Dd w wr w.heap.size (w.heap.size+1) bs k a c l i);case atStart=>exact⟨none,0,[],0,rfl,zff w bs⟩
 case round=>
  obtain⟨a,c,l,i,rfl,h⟩:=hrel;have hi:=h.le;have hw:=h.fuel;have mj:=h.few;have H:=af h;obtain⟨_,_,he,Qt,kE⟩:=um h.own;simp only[kJ]at he;obtain⟨rfl,_,rfl⟩:=he;have g0:=cell_of h.blkG 0;have g1:=cell_of h.blkG 1;have g2:=cell_of h.blkG 2;have y0:=aT h.blkG 0;have y1:=aT h.blkG 1;have r0:=cell_of h.blkR 0;have r1:=cell_of h.blkR 1;have r2:=cell_of h.blkR 2;have z0:=aT h.blkR 0;have z1:=aT h.blkR 1;have z2:=aT h.blkR 2;simp only[dJ,dk,dU]at g0 g1 g2 r0 r1 r2;clear h;by_cases h4:bs.length-i<4
  ·have hd:=H.out.dec;have hd:decode bs=(l,i,0):=by rw[<-hd];cases gk with|zero=>rfl|succ k=>rw[pkt.dec,if_pos (by simp;omega)]
   have HD:=af hd;clear hd;go_wp2;obtain⟨p1,p2,p3⟩:=H.out.yR (wz:=wr.setCell ⟨w.heap.size+1,1,none⟩ (.int .i64 i)) ((Fr.refl _ wr).setCell (by simp) _) (.slice a l.length c) (.int .i64 i) (.int .i64 0);refine bodyPost_ret (KS rfl _ _ w.heap.size _ (0,0) rfl p1 rfl) rfl ?_;exact Kg HD.out p3 Qt kE p2
  ·obtain⟨k,rfl⟩:∃k,gk=k+1:=⟨gk-1,by omega⟩;have bO:=H.out.dec;rw[pkt.dec,if_neg (by simp;omega)]at bO;generalize hr:bs.drop i=r at *;have kB:r.length=bs.length-i:=by rw[<-hr,gN]
   obtain⟨y,hy⟩:=ah (str (r.take 4));have hsl:∀w,(Instr.slice 9 (.string z) (some (.int .i64 i)) (some (.int .i64 ((i:Int)+4))) none).run Tryz.prog w = .ok (.string y) w:=λw=>by have:=qqo bs i (i+4) ((i:Int)+4) (by omega) (by omega) (by omega) w;rw[C5,hr,show i+4-i=4 from by omega,<-HZ.out,<-hy]at this;exact this
   have jP:∀w,Calls Tryz.prog 40 #[.string y] w λe w'=>e = .returned (.int .i64 (nJ r))/\Fr [] w w':=λw=>by have:=qxf (r.take 4) w (by rw[fH];omega);rw[hy,show nJ r=nJ (r.take 4) from by unfold nJ num;rw[EM,Nat.min_self]];exact this
   have HN:=af jP;have HR:=ai hr kB;have Rx:=af bO;clear hr kB jP bO hy;go_upto_region 4 with fail;go_cut [5] from 7 to 18 (λs5 wz=>s5 = .int .i64 (nJ r)/\Fr [] wr wz)
   case first=>go_wp2_with (go_at_call 40;refine (HN.out _).mono ?_;rintro e w1 ⟨rfl,f1⟩);go_meet;exact⟨rfl,f1⟩
   case rest=>
   clear hsl g0 g1 g2 y0 y1 r0 r1 r2 z0 z1 z2;obtain⟨rfl,f1⟩:=hcut;have H1:=af (H.out.cG f1);have h:=H.out.cG f1;have g0:=cell_of h.blkG 0;have g1:=cell_of h.blkG 1;have g2:=cell_of h.blkG 2;have y0:=aT h.blkG 0;have y1:=aT h.blkG 1;have r0:=cell_of h.blkR 0;have r1:=cell_of h.blkR 1;have r2:=cell_of h.blkR 2;have z0:=aT h.blkR 0;have z1:=aT h.blkR 1;have z2:=aT h.blkR 2;simp only[dJ,dk,dU]at g0 g1 g2 r0 r1 r2;clear h f1 H HN;cases hnum:num r with
   | none=>
    have Mp:nJ r = -1:=by unfold nJ;rw[hnum]
    have bO:=Rx.out;rw[hnum]at bO;have HD:=af bO;rw[Mp];clear bO Mp hnum Rx;go_wp2;obtain⟨p1,p2,p3⟩:=H1.out.yR (Fr.refl _ wc) (.slice none 0 0) (.int .i64 0) (.int .i64 3);refine bodyPost_ret (KS rfl _ _ w.heap.size _ (0,0) rfl p1 rfl) rfl ?_;exact Kg (l:=[]) (a:=none) (c:=0) HD.out.symm (.inl rfl) (by decide) (by decide) p2
   | some n=>
    have Mp:nJ r=n:=by unfold nJ;rw[hnum]
    have bO:=Rx.out;rw[hnum]at bO;simp only at bO;have Vf:=Ij hnum;rw[Mp];clear Mp hnum Rx;by_cases h34:n=3\/n=4
    ·rw[if_pos h34]at bO;have HD:=af bO;clear bO;rcases h34 with rfl|rfl
     all_goals
      go_wp2
      obtain⟨p1,p2,p3⟩:=H1.out.yR (Fr.refl _ wc) (.slice none 0 0) (.int .i64 0) (.int .i64 3)
      refine bodyPost_ret (KS rfl _ _ w.heap.size _ (0,0) rfl p1 rfl) rfl ?_
      exact Kg (l:=[]) (a:=none) (c:=0) HD.out.symm (.inl rfl) (by decide) (by decide) p2
    ·rw[if_neg h34]at bO;have b0:decide ((n:Int)<0)=false:=by simp
     have b3:((n:Int)==3)=false:=by simp;omega
     have b4:((n:Int)==4)=false:=by simp;omega
     by_cases nQ:65520<n
     ·rw[if_pos nQ]at bO;have HD:=af bO;have b5:decide ((65520:Int)<n)=true:=by simp;omega
      clear bO h34;go_wp2;obtain⟨p1,p2,p3⟩:=H1.out.yR (Fr.refl _ wc) (.slice none 0 0) (.int .i64 0) (.int .i64 5);refine bodyPost_ret (KS rfl _ _ w.heap.size _ (0,0) rfl p1 rfl) rfl ?_;exact Kg (l:=[]) (a:=none) (c:=0) HD.out.symm (.inl rfl) (by decide) (by decide) p2
     ·rw[if_neg nQ]at bO;have b5:decide ((65520:Int)<n)=false:=by simp;omega
      obtain⟨S,hS⟩:=ah (ag a);have HS:=af hS;clear hS;by_cases mK:n<3
      ·rw[if_pos mK]at bO;have HD:=af bO;have b6:decide ((n:Int)<3)=true:=by simp;omega
       have f0:Fr [] wc (wc.alloc (.cells #[.int .i64 (2+(n:Int)),.string ⟨#[]⟩] 59)):=(Fr.refl [] wc).alloc _;have iu:=dp H1.out.own f0 (by simp);have cA:Cs (wc.alloc (.cells #[.int .i64 (2+(n:Int)),.string ⟨#[]⟩] 59)) (some ⟨wc.heap.size,0,none⟩) (dC [(2+(n:Int),[])]):=
        .inr ⟨wc.heap.size,0,rfl,λj u hj=>by rw[cell_of (aV wc _)];simpa[dC,str] using hj⟩
       have HA:=aq iu cA f0;have GB:w.heap.size+1∉S:=λhx=>(H1.out.new _ (by rw[<-HS.out];exact hx)).2.2 rfl
       have HB:=af H1.out.blkG;clear bO h34 iu cA f0;go_wp2_with (refine fq ow rfl _ _ rfl (.slice a l.length c) l.length (dC l) S rfl (by rw[cY,HS.out]) HA.o0 (some ⟨wc.heap.size,0,none⟩) 1 1 _ rfl (by decide) (by simp) HA.l1.1 (by rfl) (TY _) (by omega) (by unfold maxLen;omega) ?_;intro a2 c2 w2 A1;have lN:=aT (A1.fr.ag (HA.l1.2.ag HB.out (by simp)) GB) 0;have tQ:=cell_of (A1.fr.ag (HA.l1.2.ag HB.out (by simp)) GB) 0;simp only[dJ,dk]at tQ;have WU:=af A1;clear A1);go_roundg k;case measure=>omega
       case rel=>have A1:=WU.out;rw[HS.out]at A1;have kB:=HR.l1;have h:=(H1.out.cG HA.l1.2).more A1 (i':=i+4) (k':=k) (by omega) (by omega) (by omega) (by rw[<-HD.out,<-HR.o0,BF]);exact⟨a2,c2,l++[(2+(n:Int),[])],i+4,by go_num,h⟩
      ·rw[if_neg mK]at bO;have b6:decide ((n:Int)<3)=false:=by simp;omega
       by_cases qQ:r.length<n
       ·rw[if_pos qQ]at bO;have HD:=af bO;have kB:=HR.l1;have b7:decide ((bs.length:Int)-i<n)=true:=by simp;omega
        clear bO h34;go_wp2;obtain⟨p1,p2,p3⟩:=H1.out.yR (wz:=wc.setCell ⟨w.heap.size+1,1,none⟩ (.int .i64 i)) ((Fr.refl _ wc).setCell (by simp) _) (.slice a l.length c) (.int .i64 i) (.int .i64 0);refine bodyPost_ret (KS rfl _ _ w.heap.size _ (0,0) rfl p1 rfl) rfl ?_;exact Kg HD.out.symm p3 Qt kE p2
       ·rw[if_neg qQ]at bO;have HD:=af bO;have kB:=HR.l1;have b7:decide ((bs.length:Int)-i<n)=false:=by simp;omega
        obtain⟨ds,Ea⟩:=ah ((r.take n).drop 4);obtain⟨y,hy⟩:=ah (str ds);have hsl:∀w,(Instr.slice 9 (.string z) (some (.int .i64 ((i:Int)+4))) (some (.int .i64 ((i:Int)+n))) none).run Tryz.prog w = .ok (.string y) w:=λw=>by
         have:=qqo bs (i+4) (i+n) ((i:Int)+n) (by omega) (by omega) (by omega) w;have e:(bs.take (i+n)).drop (i+4)=ds:=by rw[Ea,<-HR.o0,C5,C5,BF];congr 1;omega
         rw[e,<-HZ.out,<-hy]at this;exact this
        have GB:w.heap.size+1∉S:=λhx=>(H1.out.new _ (by rw[<-HS.out];exact hx)).2.2 rfl
        have q0:∀x,(sup S wc.drew x).cell? ⟨w.heap.size+1,0,none⟩=some (.slice a l.length c):=λx=>(gB S wc.drew x).cell ((Fr.aB [] wc).cell g0 (by simp)) GB
        have HY:=ai Ea hy;have HB:=af H1.out.blkG;clear bO h34 Ea hy kB;go_upto_region 5 with fail;refine lK 13 [(false,0),(false,1),(false,2),(false,3),(false,4),(false,5),(false,6),(false,7),(false,8),(true,9),(true,10),(true,11),(false,12)] S (by kernel_rfl) (by kernel_rfl) (λ_ _ d _ _ h=>by cases d<;>exact h) ?_;simp only[kQ];refine eD 9 rfl ?_;simp only[cT];repeat (go_big_quiet_step (fail))
        refine wpQuiet_nil ?_;clear q0 hsl;refine jb rfl ?_;intro X hX;go_wp2;refine hX.out _ _ (Fr.refl _ _) ?_;clear hX X;refine jb rfl ?_;intro X hX;go_wp2;refine hX.out _ _ ((Fr.refl S wc.drew).alloc _) ?_;clear hX X;have f0:Fr [] wc (wc.drew.alloc (.cells #[.int .i64 1,.string y] 59)):=(Fr.aB [] wc).alloc _;have iu:=dp H1.out.own f0 (by simp);have cA:Cs (wc.drew.alloc (.cells #[.int .i64 1,.string y] 59)) (some ⟨wc.drew.heap.size,0,none⟩) (dC [(1,ds)]):=
         .inr ⟨wc.drew.heap.size,0,rfl,λj u hj=>by rw[cell_of (aV wc.drew _),HY.l1];simpa[dC] using hj⟩
        refine jb rfl ?_;intro X hX;refine sj ow _ _ rfl (.slice a l.length c) l.length (dC l) S rfl (by rw[cY,HS.out]) iu (some ⟨wc.drew.heap.size,0,none⟩) 1 1 _ rfl (by decide) (by simp) cA (by rfl) (TY _) (by omega) (by unfold maxLen;omega) ?_;intro a2 c2 w2 A1;refine hX.out _ _ A1.fr ?_;clear hX X;simp only[Act.put,pS,nV,pQ];have lN:=aT (A1.fr.ag (f0.ag HB.out (by simp)) GB) 0;have tQ:=cell_of (A1.fr.ag (f0.ag HB.out (by simp)) GB) 0;simp only[dJ,dk]at tQ;have HA:=ai A1 f0;have q1:∀x,(sup S w2 x).cell? ⟨w.heap.size+1,0,none⟩=some (.slice a l.length c):=λx=>(gB S w2 x).cell tQ GB
        clear A1 iu cA f0;refine eD 1 rfl ?_;simp only[cT];repeat (go_big_quiet_step (fail))
        refine wpQuiet_nil ?_;clear q1;refine j4 ?_;go_wp2;go_roundg k;case measure=>omega
        case rel=>have A1:=HA.o0;rw[HS.out]at A1;have kB:=HR.l1;have h:=(H1.out.cG HA.l1).more A1 (i':=i+n) (k':=k) (by omega) (by omega) (by omega) (by rw[<-HD.out,<-HR.o0,BF,HY.o0,<-HR.o0]);exact⟨a2,c2,l++[(1,ds)],i+n,by go_num,h⟩
end pkt
namespace sf
open Go Go.RowKit
set_option maxRecDepth 100000
def nB (P:Program):Nat->List FuncId->List FuncId->Nat->List FuncId
 | 0,_,seen,_=>seen.reverse
 | _,[],seen,_=>seen.reverse
 | n+1,f::todo,seen,m=>if m.testBit f then nB P n todo seen m else nB P n ((P.funcs[f]?).elim [] P.leadsTo++todo) (f::seen) (m ||| 1 <<< f)
theorem zfr (m:Nat) (f:FuncId) (seen:List FuncId) (h:∀g:Nat,m.testBit g=seen.contains g) (g:Nat):(m ||| 1 <<< f).testBit g=(f::seen).contains g:=by
 rw[Nat.testBit_or,h g,Nat.one_shiftLeft,List.contains_cons,Bool.or_comm,Nat.testBit_two_pow];by_cases e:f=g
 ·subst e;rw[decide_eq_true rfl,beq_self_eq_true]
 ·have e2:(g==f)=false:=beq_eq_false_iff_ne.2 (λk=>e k.symm);rw[decide_eq_false e,e2]
theorem zfn (P:Program) (n:Nat):∀(todo seen:List FuncId) (m:Nat),(∀f:Nat,m.testBit f=seen.contains f)->nB P n todo seen m=P.closureVia n todo seen:=by
 induction n with
 | zero=>intro todo seen m _;rw[nB,Program.closureVia]
 | succ n ih=>
  intro todo seen m h;cases todo with
  | nil=>
   rw[nB,Program.closureVia]
   ·exact λe=>by cases e
   ·exact λe=>by cases e
  | cons f todo=>
   rw[nB,Program.closureVia,h f];split
   ·exact ih _ _ _ h
   ·exact ih _ _ _ (zfr m f seen h)
theorem qx7 (P:Program) (f:FuncId) (n:Nat) (hn:1+(P.funcs.toList.map λg=>(P.leadsTo g).length+1).sum=n) (L:List FuncId) (h:nB P n [f] [] 0=L):P.closure f=L:=by rw[<-h,zfn P n [f] [] 0 (by simp),<-hn];rfl
def JB:List FuncId:=[3,4,11,12,38,85,99,157,209,262,208,261,315,105,164,225,226,163,216,222,275,217,270,218,271,272,219,273,274,319,220,221,223,224,17,51,158,120,119,136,150,203,258,137,125,69,126,187,39,65,109,79,75,138,196,96,48,95,154,204,205,259,155,206,97,156,153,152,207,260,139,197,140,74,73,49,86,77,141,116,179,235,16,46,93,47,94,151,50,80,87,145,67,121,122,184,123,5,14,33,42,41,88,13,40,15,43,89,146,37,90,44,45,91,9,29,31,30,76,32,78,142,20,53,19,100,101,102,132,159,210,263,264,316,349,160,161,211,265,34,82,81,143,36,84,64,66,52,98,117,180,236,118,181,237,285,286,62,238,246,113,176,60,114,177,178,232,233,234,63,115,182,183,144,198,251,300,301,327,328,329,354,366,367,378,368,379,385,393,386,380,387,394,398,388,395,399,396,400,401,381,389,390,397,391,369,186,245,330,302,252,303,332,331,333,24,59,61,23,58,55,103,162,212,213,266,267,214,215,268,269,317,318,304,334,355,370,382,371,305,335,35,83,57,110,167,229,168,169,230,278,277,279,281,321,280,283,322,350,282,108,166,170,111,171,172,173,231,284,323,112,174,175,92,147,148,149,199,253,188,247,200,201,254,127,189,248,190,256,309,307,308,336,306,255,257,311,342,312,344,343,310,337,339,340,357,338,356,372,373,383,392,341,313,314,345,346,358,359,374,375,376,384,360,363,361,362,347,124,185,239,242,290,240,287,288,289,241,243,292,293,294,291,244,295,296,324,351,352,365,377,298,326,353,297,325,348,364,202,6,18,21,54,56,104,106,165,227,228,276,320,107,22,7,25,26,68,8,27,70,28,71,128,192,191,249,129,193,130,131,72,133,135,194,250,299,195,134,10]
theorem fu:1+(Tryz.pinned.checked.prog.funcs.toList.map λg=>(Tryz.pinned.checked.prog.leadsTo g).length+1).sum=1327:=by kernel_rfl
theorem cm:nB Tryz.pinned.checked.prog 1327 [3] [] 0=JB:=by kernel_rfl
theorem cl:Tryz.pinned.checked.prog.closure 3=JB:=qx7 _ _ _ fu _ cm
theorem b10:(Rows.uploadTagsRow.inPlace==JB.filterMap λg=>(Tryz.pinned.checked.prog.funcs[g]?).bind λfn=>if fn.ours||fn.body.isNone||fn.name == "runtime.NumGoroutine" then some fn.name else none)=true:=by kernel_rfl
theorem zW:(Rows.uploadTagsRow.inPlace==Tryz.pinned.checked.prog.inPlace 3)=true:=by unfold Program.inPlace;rw[cl];exact b10
theorem b11:(JB.any λg=>(Tryz.pinned.checked.prog.funcs[g]?).any λfn=>match fn.body with|some c=>c.unfollowed|none=>entryCalls fn)=true:=by kernel_rfl
theorem Ya:Tryz.pinned.checked.prog.unfollowed 3=true:=by unfold Program.unfollowed;rw[cl];exact b11
theorem a11:(Rows.uploadTagsRow.unfollowed==Tryz.pinned.checked.prog.unfollowed 3)=true:=by rw[Ya];rfl
theorem a12:(Rows.uploadTagsRow.recurses==Tryz.pinned.checked.prog.recurses 3)=true:=by unfold Program.recurses;rw[Ya];rfl
theorem b13:(Rows.uploadTagsRow.named==((((JB.flatMap λg=>((Tryz.pinned.checked.prog.funcs[g]?).bind (·.body)).elim [] Code.globalsNamed).eraseDups).filterMap (λg=>(Tryz.pinned.checked.prog.globals[g]?).map (·.name))++JB.filterMap λg=>(Tryz.pinned.checked.prog.funcs[g]?).bind λfn=>if fn.body.isNone then entryReads.lookup fn.name else none).eraseDups))=true:=by kernel_rfl
theorem a13:(Rows.uploadTagsRow.named==Tryz.pinned.checked.prog.varsNamed 3)=true:=by unfold Program.varsNamed;rw[cl];exact b13
open Go.ChangeShapes Go.WideShapes
set_option maxRecDepth 100000
theorem w2 (os:Os):World.variablesZipB Tryz.checked.prog ((World.laidAll Tryz.prog os Rows.uploadTagsRow.laid).forCall (λ_ _=>0) { blocks:=#[],args:=#[.bool false,.bool false,.string ⟨#[]⟩] })=true:=by kernel_rfl
theorem w3 (os:Os):List.take ((begin Tryz.checked.prog (λ_ _=>0) default).world.heap.size-Tryz.checked.prog.globals.size) (List.drop Tryz.checked.prog.globals.size ((World.laidAll Tryz.prog os Rows.uploadTagsRow.laid).forCall (λ_ _=>0) { blocks:=#[],args:=#[.bool false,.bool false,.string ⟨#[]⟩] }).heap.toList)=List.drop Tryz.checked.prog.globals.size (begin Tryz.checked.prog (λ_ _=>0) default).world.heap.toList:=by kernel_rfl
theorem w4 (os:Os):Input.okWideB Tryz.checked.prog ((World.laidAll Tryz.prog os Rows.uploadTagsRow.laid).forCall (λ_ _=>0) { blocks:=#[],args:=#[.bool false,.bool false,.string ⟨#[]⟩] }) 3 { blocks:=#[],args:=#[.bool false,.bool false,.string ⟨#[]⟩] }=true:=by kernel_rfl
theorem w5 (os:Os) {H:Type} (enc:TypeId×Value->H):ChangeSpec.preB enc Tryz.checked.prog Tryz.f3 Rows.uploadTagsSpec [] false ((World.laidAll Tryz.prog os Rows.uploadTagsRow.laid).forCall (λ_ _=>0) { blocks:=#[],args:=#[.bool false,.bool false,.string ⟨#[]⟩] }).memory #[.bool false,.bool false,.string ⟨#[]⟩] 8=true:=by kernel_rfl
theorem w6 (os:Os) {H:Type} (enc:TypeId×Value->H):ChangeSpec.sizedB enc Tryz.checked.prog Tryz.f3 Rows.uploadTagsSpec false ((World.laidAll Tryz.prog os Rows.uploadTagsRow.laid).forCall (λ_ _=>0) { blocks:=#[],args:=#[.bool false,.bool false,.string ⟨#[]⟩] }).memory #[.bool false,.bool false,.string ⟨#[]⟩] 8=true:=by kernel_rfl
theorem w8 (os:Os):World.layFits Tryz.prog (World.holding Tryz.prog os { blocks:=#[],args:=#[] }) Rows.uploadTagsRow.laid []=true:=by kernel_rfl
theorem w9 (os:Os):World.layIfaces Tryz.prog (World.holding Tryz.prog os { blocks:=#[],args:=#[] }) Rows.uploadTagsRow.laid (World.laidAll Tryz.prog os Rows.uploadTagsRow.laid)=true:=by kernel_rfl
set_option maxRecDepth 100000
theorem r0:(List.range' 0 80).all (rowFine Tryz.pinned.checked.prog)=true:=by kernel_rfl
theorem r1:(List.range' 80 80).all (rowFine Tryz.pinned.checked.prog)=true:=by kernel_rfl
theorem r2:(List.range' 160 80).all (rowFine Tryz.pinned.checked.prog)=true:=by kernel_rfl
theorem r3:(List.range' 240 80).all (rowFine Tryz.pinned.checked.prog)=true:=by kernel_rfl
theorem r4:(List.range' 320 80).all (rowFine Tryz.pinned.checked.prog)=true:=by kernel_rfl
theorem r5:(List.range' 400 80).all (rowFine Tryz.pinned.checked.prog)=true:=by kernel_rfl
theorem r6:(List.range' 480 80).all (rowFine Tryz.pinned.checked.prog)=true:=by kernel_rfl
theorem r7:(List.range' 560 21).all (rowFine Tryz.pinned.checked.prog)=true:=by kernel_rfl
theorem ts:Tryz.pinned.checked.prog.types.size=581:=by kernel_rfl
theorem l2:Tryz.pinned.checked.prog.globals.all (λg=>decide (g.type<Tryz.pinned.checked.prog.types.size))=true:=by kernel_rfl
theorem l3:Tryz.pinned.checked.prog.funcs.all (λf=>f.params.all λt=>decide (t<Tryz.pinned.checked.prog.types.size))=true:=by kernel_rfl
theorem chunk {p:Nat->Bool} {a m i:Nat} (h:(List.range' a m).all p=true) (h1:a<=i) (h2:i<a+m):p i=true:=
 ER.1 h i (List.mem_range'_1.2 ⟨h1,h2⟩)
theorem a2:laidOutB Tryz.pinned.checked.prog=true:=by
 unfold laidOutB;rw[l2,l3,Bool.and_true,Bool.and_true,ts];refine ER.2 λi hi=>?_
 have hi:=uH.1 hi;by_cases h0:i<80
 ·exact chunk r0 (by omega) (by omega)
 by_cases h1:i<160
 ·exact chunk r1 (by omega) (by omega)
 by_cases h2:i<240
 ·exact chunk r2 (by omega) (by omega)
 by_cases h3:i<320
 ·exact chunk r3 (by omega) (by omega)
 by_cases h4:i<400
 ·exact chunk r4 (by omega) (by omega)
 by_cases h5:i<480
 ·exact chunk r5 (by omega) (by omega)
 by_cases h6:i<560
 ·exact chunk r6 (by omega) (by omega)
 by_cases h7:i<581
 ·exact chunk r7 (by omega) (by omega)
 omega
theorem a3:mapsRowed Tryz.pinned.checked.prog=true:=by kernel_rfl
set_option maxRecDepth 100000
theorem s1:(Rows.uploadTagsRow.plainKeys==Tryz.pinned.checked.prog.plainKeys)=true:=by kernel_rfl
theorem s2:Tryz.pinned.checked.prog.stopsHeard=true:=by kernel_rfl
theorem s3:Tryz.pinned.checked.prog.mayEnter=true:=by kernel_rfl
theorem p1:(Tryz.f3.params.toList.all λt=>Tryz.checked.prog.readableRec t&&decide (t<Tryz.checked.prog.types.size))=true:=by kernel_rfl
theorem g1:Tryz.pinned.checked.prog.funcs.any Func.goes=false:=by kernel_rfl
set_option maxRecDepth 100000
theorem CN {a b:Bool} (h1:a=true) (h2:b=true):(a&&b)=true:=by rw[h1,h2];rfl
theorem zhf {P:Program} (h:P.funcs.any Func.goes=false) (f:FuncId):P.goes f=false:=by
 unfold Program.goes;rw[h,Bool.and_false,Bool.or_false,Bool.eq_false_iff];intro e;obtain⟨g,_,hg⟩:=Hz.1 e;cases hf:P.funcs[g]? with
 | none=>rw[hf]at hg;cases hg
 | some fn=>rw[hf]at hg;have hm:fn∈P.funcs:=Array.mem_of_getElem? hf;have h2:P.funcs.any Func.goes=true:=Array.any_eq_true'.2 ⟨fn,hm,hg⟩;rw[h]at h2;cases h2
theorem goes:false=Rows.uploadTagsRow.goesBy Tryz.pinned.checked.prog:=by
 unfold OpenClaim.goesBy Program.goesAt Program.goesFrom;cases hf:Tryz.pinned.checked.prog.funcNamed Rows.uploadTagsRow.func with
 | none=>rfl
 | some f=>rw[Option.any_some,zhf g1 f];rfl
theorem joined:joinedFacts Tryz.pinned.checked.prog 3 Tryz.f3 Rows.uploadTagsSpec Rows.uploadTagsRow=true:=by
 unfold joinedFacts;repeat' (with_reducible refine CN ?_ ?_)
 all_goals first
  | with_reducible exact zW
  | with_reducible exact a11
  | with_reducible exact a12
  | with_reducible exact a13
  | with_reducible exact a2
  | with_reducible exact a3
  | with_reducible exact s1
  | with_reducible exact s2
  | with_reducible exact s3
  | (as_aux_lemma=>kernel_rfl)
end sf

end Go.Proofs.YticadfhpolhkeaaGreatDoor