/-
  Texts of this proof, one behind the other: TurnIn, OArg.
-/
import Derived.Test.YtkmpfgpfbmeihaaGreatDoorU27
set_option maxHeartbeats 16000000
set_option maxRecDepth 100000
set_option linter.unusedVariables false
set_option linter.unusedSimpArgs false
namespace Go.Proofs.YtkmpfgpfbmeihaaGreatDoor
namespace os
open Go Go.RowKit lib bm pk huf
theorem zap (a:Option Addr) (c:Nat) (aJ:List OM) (mm:Int) (w:World) (h:jM w a c aJ) (hl:aJ.length<=30) (hf:qF (aJ.map (·.1))<=30000) (hp:obj.Pw w) (hm:w.cell? ⟨0,0,none⟩=some (.int .i64 mm)) :
  Calls Tryz.prog 15 #[.slice a aJ.length c,.slice none 0 0] w (yx w ((aJ.filter λm=>okB m.1).map (·.1))):=by
 have WU:∀o∈(aJ.filter λm=>okB m.1).map (·.1),o∈aJ.map (·.1):=λo ho=>by obtain⟨m,jA,e⟩:=jR.1 ho;rw[<-e];exact yQ (G5.1 jA).1
 have jz:∀o∈(aJ.filter λm=>okB m.1).map (·.1),Da o:=λo ho=>by obtain⟨m,jA,e⟩:=jR.1 ho;rw[<-e];exact ze5 (G5.1 jA).2
 have hlen:((aJ.filter λm=>okB m.1).map (·.1)).length<=30:=by rw[cN];exact bS (DF _ _) hl
 refine qv1 100 (by decide) (λg A0 L cap f w R h1 h2=>zes g A0 L cap f w R h1 (by omega)) a c aJ.length _ mm w (qws a c aJ w h (by omega) hp) (by omega) (λr h1 h2=>?_) jz hm;have h3:∀o∈r,o∈aJ.map (·.1):=λo ho=>WU o (h2 o ho)
 have h4:=Uv (λo:pk.Obj=>1) r (aJ.map (·.1)) h1 h3;have h5:=Uv (λo:pk.Obj=>min o.body.length 100000) r (aJ.map (·.1)) h1 h3;have e1:∀l:List pk.Obj,(l.map λ_=>1).sum=l.length:=λl=>by induction l with|nil=>rfl|cons x t ih=>simp only[gW,Dr,cQ,ih];omega
 rw[e1,e1,cN]at h4;unfold qF at hf;refine⟨by omega,?_⟩;have h6:∀o∈r,o.body.length<=65536:=λo ho=>(jz o (h2 o ho)).2.1
 have h7:(r.map λo=>6*o.body.length+130).sum<=6*(r.map λo=>min o.body.length 100000).sum+130*r.length:=by
  clear h4 h5 h1 h2 h3;induction r with
  | nil=>simp
  | cons x t ih=>have h8:=h6 x (by simp);have h9:=ih (λo ho=>h6 o (DH _ ho));simp only[gW,Dr,cQ];omega
 omega
def GH (w:World) (e:Ending) (w':World):Prop:=∃(L:Nat) (bs:List UInt8) (g:Nat) (A:Array Value),L=bs.length/\20<=L/\L<=1000020/\e = .returned (.slice (some ⟨g,0,none⟩) L L)/\lib.Rd w' (some ⟨g,0,none⟩) L bs/\w'.heap[g]?=some (.cells A 5 (0,0))/\w.heap.size<=g/\Fr [] w w'
theorem yx.turn {w w':World} {l:List pk.Obj} {e:Ending} (h:yx w l e w'):GH w e w':=by
 obtain⟨os,out,di,dO,h1,h2,h3,h4,h5,h6,h7,⟨a,rfl,r8,n8,f8⟩,a',n',c',vs,he,ho⟩:=h;have hlen:(out++sha.dY out).length=out.length+20:=by rw[aK,sha.sf]
 simp only[Ending.returned.injEq,lN]at he;obtain⟨rfl,rfl,_⟩:=he;rcases ho.2 with⟨h1,_⟩|⟨g,c2,cur,h1,_,h2,_⟩
 ·omega
 ·simp only[lN]at h1;obtain⟨rfl,_⟩:=h1;exact⟨_,out++sha.dY out,g,cur,rfl,by omega,by omega,rfl,r8,h2,(n8 g (by simp[ae])).1,f8⟩
set_option maxRecDepth 100000
theorem qv7 (la:Option Addr) (lc:Nat) (aJ:List OM) (at_:Int) (Zi:UInt8) (mm:Int) (w:World) (hl:jM w la lc aJ) (hp:obj.Pw w) (hm:w.cell? ⟨0,0,none⟩=some (.int .i64 mm)) :
  Calls Tryz.prog 5 #[.slice la aJ.length lc,.int .i64 at_,bv Zi] w λe w'=>e = .returned (.bool true)/\Fr [] w w':=by
 have lW:=zec la lc aJ w hl;obtain⟨n,hn⟩:=ah aJ.length;obtain⟨fb,X4⟩:∃fb:Bool,fb=decide (aJ.length<=30/\qF ((aJ.take 40).map (·.1))<=30000):=⟨_,rfl⟩;rw[<-X4]at lW;have rI:fb=true->∀w',Fr [] w w'->Calls Tryz.prog 15 #[.slice la n lc,.slice none 0 0] w' (GH w'):=λe w' f=>by have h1:=of_decide_eq_true (X4.symm.trans e);have h2:aJ.take 40=aJ:=oI (by omega);rw[h2]at h1;rw[hn];exact (zap la lc aJ mm w' (hl.fr f) h1.1 h1.2 (hp.fr f) (f.cell hm (by simp))).mono λe w2 h=>h.turn
 rw[<-hn]at lW ⊢;have H:=au lW rI hp;clear lW hl hp hm hn X4 rI;obtain⟨y,hy⟩:∃y:Nat,y=Zi.toNat:=⟨_,rfl⟩;have WG:y<256:=by rw[hy];exact Zi.toNat_lt
 unfold bv;rw[<-hy];have HY:=af hy;clear hy;go_enter Tryz.func5,Tryz.ntmps5;cases fb with
 | false=>
  go_wp2_with (first
   | (go_at_call 12;refine H.o0.mono ?_;rintro e w1 ⟨rfl,f1⟩;have H1:=af f1;clear f1)
   | (go_at_call 8;refine (KD _).mono ?_;rintro e w2 ⟨rfl,f2⟩;have H2:=af f2;clear f2))
  go_ret;exact⟨rfl,H1.out.trans H2.out⟩
 | true=>
 go_upto_region 4 with (first
  | (go_at_call 12;refine H.o0.mono ?_;rintro e w1 ⟨rfl,f1⟩;have H1:=af f1;clear f1)
  | (go_at_call 15;refine (H.o1 (by trivial) _ H1.out).mono ?_;rintro e w2 ⟨L,bs,g,A,hL,zbZ,sM,rfl,r8,hA,hg,f8⟩;have H2:=aP hL r8 hA hg f8;clear hL r8 hA hg f8))
 have Ps:0<L:=by omega
 have g0:((L:Int)==0)=false:=by simp only[beq_eq_false_iff_ne];omega
 have gp:decide ((0:Int)<(L:Int))=true:=by simp;omega
 by_cases KV:y=0
 ·subst KV;go_wp2_with (go_at_call 8;refine (KD _).mono ?_;rintro e w3 ⟨rfl,f3⟩;have H3:=af f3;clear f3);go_ret;exact⟨rfl,(H1.out.trans H2.out.2.2.2.2).trans H3.out⟩
 have gy:((y:Int)==0)=false:=by simp only[beq_eq_false_iff_ne];omega
 obtain⟨K,hK⟩:∃K:Nat,K=((at_.tmod (L:Int)+L)%L).toNat:=⟨_,rfl⟩;have hKL:(at_.tmod (L:Int)+L)%L=(K:Int)/\K<L/\ -(L:Int)<at_.tmod (L:Int)/\at_.tmod (L:Int)<L:=by have k1:=Int.lt_tmod_of_pos at_ (show (0:Int)<L by omega);have k2:=Int.tmod_lt_of_pos at_ (show (0:Int)<L by omega);have k3:=Int.emod_nonneg (at_.tmod (L:Int)+L) (show (L:Int)≠0 by omega);have k4:=Int.emod_lt_of_pos (at_.tmod (L:Int)+L) (show (0:Int)<L by omega);omega
 obtain⟨e1,YH,e2,e3⟩:=hKL;clear hK;obtain⟨b,hb⟩:∃b,bs[K]?=some b:=⟨_,bO (by rw[<-H2.out.1];exact YH)⟩;have b0:w2.cell? ⟨g,K,none⟩=some (.int .u8 (b.toNat:Nat)):=by
  rcases H2.out.2.1.cs with h1|⟨g',o',he,hc⟩
  ·rw[List.map_eq_nil_iff]at h1;rw[h1]at hb;simp at hb
  ·simp only[eS,qU,and_true]at he;obtain⟨rfl,rfl⟩:=he;have:=hc K (bv b) (by rw[j5,hb];rfl);rw[fM]at this;exact this
 have z0:=aO H2.out.2.2.1 K;have qC:=b.toNat_lt;obtain⟨bn,tF⟩:∃bn:Nat,bn=b.toNat:=⟨_,rfl⟩;rw[<-tF]at b0 qC;have HB:=ak hb tF;clear hb tF;have hx:bn ^^^ y<256:=Nat.xor_lt_two_pow (n:=8) qC WG;have ex:=crc.u8_xor bn y qC WG;obtain⟨X,hX⟩:=ah (bn ^^^ y);rw[<-hX]at ex hx;clear hX;go_upto_region 7 with fail;clear b0 z0 ex e1 e2 e3 g0 gp gy;obtain⟨w3,gN⟩:∃w3,w3=w2.setCell ⟨g,K,none⟩ (.int .u8 (X:Nat)):=⟨_,rfl⟩;rw[<-gN];obtain⟨LD,Jk⟩:=ah (bs.set K (UInt8.ofNat X));have r3:lib.Rd w3 (some ⟨g,0,none⟩) L LD:=by
  have h1:=zet (K:=K) (UInt8.ofNat X) H2.out.2.1 H2.out.2.2.1 (by rw[<-H2.out.1];exact YH);have e:bv (UInt8.ofNat X) = .int .u8 X:=by unfold bv;rw[KJ (by omega)]
  rw[e,fM,<-Jk,<-gN]at h1;exact h1
 have ym:LD.length=L:=by rw[Jk,Kf,<-H2.out.1]
 have f3:Fr [] w1 w3:=by rw[gN];exact H2.out.2.2.2.2.step ((Fr.refl [g] w2).setCell (by simp) _) (λy hy=>.inr (by simp at hy;rw[hy];exact H2.out.2.2.2.1))
 have bP:=Rk (some ⟨g,0,none⟩) L LD w3 r3;rw[ym]at bP;obtain⟨P,hP⟩:=ah (pread LD);rw[<-hP]at bP;have HR:=au bP (H1.out.trans f3) hP;clear bP f3 hP r3 ym Jk gN H2 HB HY hx qC WG KV YH H1;cases P with
 | error x=>
  have bP:=HR.o0.mono (λe w2 h=>h.err);have HE:=af bP;clear bP;go_upto_region 8 with (go_at_call 18;refine HE.out.mono ?_;rintro e w4 ⟨f4,gM,rfl⟩;have H4:=ak f4 gM;clear f4 gM);have gx:((x:Int)!=0)=true:=by have:=H4.l1;simp;omega
  go_wp2_with (go_at_call 8;refine (KD _).mono ?_;rintro e w5 ⟨rfl,f5⟩;have H5:=af f5;clear f5);go_ret;exact⟨rfl,(HR.o1.trans H4.o0).trans H5.out⟩
 | ok pr=>
 obtain⟨l,id⟩:=pr;have bP:=HR.o0.mono (λe w2 h=>h.good);have NH:=qr6 HR.l2.symm;have hlen:=qwz HR.l2.symm;obtain⟨n,hn⟩:=ah l.length;obtain⟨sid,NI⟩:=ah (str id);simp only[<-hn,<-NI]at bP;rw[<-hn]at hlen;obtain⟨RR,Ls⟩:=ah (pk.resolve l []);have HE:=aF bP NH hn Ls;clear bP NH hn Ls NI;go_upto_region 8 with (go_at_call 18;refine HE.out.1.mono ?_;rintro e w4 ⟨f4,pa,ms,rfl,xY,hE,sD,jq⟩;have H4:=aP f4 xY hE sD jq;clear f4 xY hE sD jq);have qi:ms.length=n:=by rw[HE.out.2.2.1,<-H4.l1.1,cN]
 have cU:Calls Tryz.prog 19 #[.slice pa n n,.nilFunc] w4 (Qe w4 n RR):=by have:=qr1 .nilFunc pa ms [] w4 H4.l1.2.1 (by omega) (.inl ⟨rfl,rfl⟩) (by simp) (H.l2.fr (HR.o1.trans H4.o0)) (λm hm=>by have:=(HE.out.2.1 m.1 (by rw[<-H4.l1.1];exact yQ hm)).1;omega) (λm hm=>(HE.out.2.1 m.1 (by rw[<-H4.l1.1];exact yQ hm)).2) H4.l1.2.2.1 H4.l1.2.2.2;rw[qi,H4.l1.1,<-HE.out.2.2.2]at this;exact this
 have HS:=ak cU qi;clear cU qi;cases RR with
 | error x=>
  go_upto_region 11 with (go_at_call 19;refine HS.o0.mono ?_;rintro e w5 ⟨f5,rfl⟩;have H5:=af f5;clear f5);by_cases hz:x=0
  ·subst hz;go_upto_region 14 with fail;go_loopg [13] 0 (λk s13 wr=>s13 = .int .i64 0/\Fr [] w5 wr);case atStart=>exact⟨rfl,Fr.refl _ _⟩
   case round=>obtain⟨rfl,pb⟩:=hrel;have HW:=af pb;clear pb;go_wp2_with (go_at_call 8;refine (KD _).mono ?_;rintro e w6 ⟨rfl,f6⟩;have H6:=af f6;clear f6);go_ret;exact⟨rfl,(((HR.o1.trans H4.o0).trans H5.out).trans HW.out).trans H6.out⟩
  ·have gx:((x:Int)!=0)=true:=by simp;omega
   go_wp2_with (go_at_call 8;refine (KD _).mono ?_;rintro e w6 ⟨rfl,f6⟩;have H6:=af f6;clear f6);go_ret;exact⟨rfl,((HR.o1.trans H4.o0).trans H5.out).trans H6.out⟩
 | ok os=>
 have aA:=zar HE.out.2.1 HE.out.2.2.2.symm;go_upto_region 11 with (go_at_call 19;refine HS.o0.mono ?_;rintro e w5 ⟨f5,oa,oc,rfl,gD,vO⟩;have H5:=au f5 gD vO;clear f5 gD vO);have HO:=af aA;clear aA;go_upto_region 14 with fail;go_loopg [13] n (λk s13 wr=>∃i:Nat,s13 = .int .i64 (i:Nat)/\i+k=n/\Fr [] w5 wr);case atStart=>exact⟨0,rfl,by omega,Fr.refl _ _⟩
 case round=>
  obtain⟨i,rfl,bU,hf⟩:=hrel;have HF:=af hf;clear hf;by_cases hi:i<n
  ·obtain⟨k,rfl⟩:∃k,gk=k+1:=⟨gk-1,by omega⟩;obtain⟨o,ho⟩:∃o,os[i]?=some o:=⟨os[i]'(by rw[H5.out.2.1];exact hi),bO _⟩;obtain⟨g,q,ba,bc,rfl,hc,bP⟩:=H5.out.2.2 i o ho;have aA:=HO.out o (iC ho);obtain⟨kd,bs,id,at_,crc⟩:=o;unfold vD at aA;simp only at aA bP;have c0:=HF.out.cell (hc 0 (.int .i64 kd) rfl) (by simp);have c1:=HF.out.cell (hc 1 (.slice ba bs.length bc) rfl) (by simp);have c2:=HF.out.cell (hc 2 (.string (str id)) rfl) (by simp);rw[jS]at c0;have hid:=λw'=>obj.qwt kd bs w' (by have:=aA.2;omega)
   rw[<-aA.1]at hid;obtain⟨D,hD⟩:=ah bs.length;rw[<-hD]at c1;obtain⟨si,kQ⟩:=ah (str id);rw[<-kQ]at c2 hid;obtain⟨sb,kR⟩:=ah (str bs);rw[<-kR]at hid;have cv:=qk7 (P:=Tryz.prog) [] wr.drew Tryz.underlying23 Tryz.underlying5 Tryz.underlying9 hD.symm ((bP.fr HF.out).fr (Fr.av [] wr)).cs (by simp);rw[<-kR]at cv;have q0:=λx=>(dk [] wr.drew x).cell (show wr.drew.cell? _=_ from c0) (by simp)
   have q1:=λx=>(dk [] wr.drew x).cell (show wr.drew.cell? _=_ from c1) (by simp)
   have q2:=λx=>(dk [] wr.drew x).cell (show wr.drew.cell? _=_ from c2) (by simp)
   have hD8:D<=2147483647:=by have:=aA.2;omega
   have HI:=af hid;clear c0 c1 c2 hid aA bP hc ho hD kQ kR;go_upto_region 16 with fail;refine jh 18 [(false,0),(false,1),(false,2),(false,3),(false,4),(false,5),(false,6),(false,7),(false,8),(false,9),(false,10),(false,11),(false,12),(false,13),(false,14),(false,15),(true,16),(false,17)] [] (by kernel_rfl) (by kernel_rfl) (λ_ _ d _ _ h=>by cases d<;>exact h) ?_;simp only[iw];refine cS 16 rfl ?_;simp only[aU];repeat (go_big_quiet_step (fail))
   refine wpQuiet_nil ?_;clear q0 q1 q2 cv;refine ep rfl ?_;intro XX vd;go_wp2_with (go_at_call 20;refine (HI.out _).mono ?_;rintro e w6 ⟨rfl,f6⟩);refine vd.out _ _ f6 ?_;clear vd XX;have H6:=af f6;clear f6;refine cS 1 rfl ?_;simp only[aU];repeat (go_big_quiet_step (fail))
   refine wpQuiet_nil ?_;refine fE ?_;go_wp2;go_roundg k;case measure=>omega
   case rel=>exact⟨i+1,by go_num,by omega,(HF.out.trans (Fr.av [] wr)).trans H6.out⟩
  ·obtain rfl:i=n:=by omega
   go_wp2_with (go_at_call 8;refine (KD _).mono ?_;rintro e w6 ⟨rfl,f6⟩;have H6:=af f6;clear f6);go_ret;exact⟨rfl,(((HR.o1.trans H4.o0).trans H5.out.1).trans HF.out).trans H6.out⟩
end os
namespace os
open Go Go.RowKit Go.ChangeShapes Go.WideShapes lib pk
theorem B9:Tryz.prog.cellsOf 34=5:=by kernel_rfl
theorem zx:Tryz.prog.cellsOf 3=1:=by kernel_rfl
theorem zw:Tryz.prog.cellsOf 9=1:=by kernel_rfl
theorem zv:Tryz.prog.cellsOf 32=1:=by kernel_rfl
theorem zu:Tryz.prog.cellsOf 23=1:=by kernel_rfl
theorem B8:Tryz.prog.cellsOf 5=1:=by kernel_rfl
theorem Cb:Tryz.prog.bytesOf 5=1:=by kernel_rfl
theorem zdc (s:ByteArray):str s.data.toList=s:=by cases s;rfl
theorem qpw {H:Type} {enc:TypeId×Value->H} {P:Program} {w:World} {base:Nat} {spare:TypeId->Bool} {held:Bool} {t:TypeId} {f0 f1 f2 f3 f4:Field} {fuel:Nat} {cs:List Value} {x:DataW H×List MemPlace} (ht:P.underlying t=some (.struct #[f0,f1,f2,f3,f4])) (h:DataW.trod enc P w base spare held fuel t cs=some x) :
  ∃y0 y1 y2 y3 y4 n,x=(.agg [y0.1,y1.1,y2.1,y3.1,y4.1],y0.2++(y1.2++(y2.2++(y3.2++y4.2))))/\cs.length=P.cellsOf t/\DataW.trod enc P w base spare held n f0.type ((cs.drop f0.offset).take (P.cellsOf f0.type))=some y0/\
   DataW.trod enc P w base spare held n f1.type ((cs.drop f1.offset).take (P.cellsOf f1.type))=some y1/\DataW.trod enc P w base spare held n f2.type ((cs.drop f2.offset).take (P.cellsOf f2.type))=some y2/\
   DataW.trod enc P w base spare held n f3.type ((cs.drop f3.offset).take (P.cellsOf f3.type))=some y3/\DataW.trod enc P w base spare held n f4.type ((cs.drop f4.offset).take (P.cellsOf f4.type))=some y4:=by
 obtain⟨xs,n,_,rfl,hl,hlen,hf⟩:=DataW.trod_struct ht h;match xs,hlen with
 | [y0,y1,y2,y3,y4],_=>exact⟨y0,y1,y2,y3,y4,n,by simp,hl,by simpa using hf 0 f0 rfl,by simpa using hf 1 f1 rfl,by simpa using hf 2 f2 rfl,by simpa using hf 3 f3 rfl,by simpa using hf 4 f4 rfl⟩
theorem zav {H:Type} {enc:TypeId×Value->H} {w:World} {a:Option Addr} {len cap:Nat} {d:DataW H} {p:List MemPlace}
  (h:DataW.Trod enc Tryz.prog w 0 (λ_=>true) true 27 (.slice a len cap) d p) (hL:gG Tryz.prog 27 d) :
  ∃aJ:List OM,aJ.length=len/\jM w a cap aJ:=by
 obtain⟨h1,h2,h4,_,h5,h3⟩:=qp4 Tryz.underlying27 B9 (by decide) h hL;rcases h3 with rfl|⟨g,o,rfl,h3⟩
 ·exact⟨[],rfl,.inl rfl,dZ _,h2,h4,by simp⟩
 ·obtain⟨aJ,hl,hks⟩:=qm8 (P:=λi (m:OM)=>(∀j v,(oL m)[j]?=some v->w.cell? ⟨g,o+i*5+j,none⟩=some v)/\lib.Rd w m.2.1 m.2.2 m.1.body) len λi hi=>by
   obtain⟨cs,y,n,hl,hc,ht,hLy,hBy⟩:=h3 i hi;match cs,hl with
   | [x0,x1,x2,x3,x4],_=>
    obtain⟨y0,y1,y2,y3,y4,m,rfl,_,t0,t1,t2,t3,t4⟩:=qpw Tryz.underlying34 ht;simp only[zx,zw,zv,zu,yU,xH,qY,DK]at t0 t1 t2 t3 t4;obtain⟨k,e0,_,_⟩:=DataW.trod_int Tryz.underlying3 t0;obtain⟨s2,e2,z2,m2⟩:=DataW.trod_string Tryz.underlying9 t2;obtain⟨k3,e3,_,_⟩:=DataW.trod_int Tryz.underlying3 t3;obtain⟨k4,e4,_,w4⟩:=DataW.trod_int Tryz.underlying32 t4;have sM:gG Tryz.prog 23 y1.1:=qqp Tryz.underlying34 hLy (j:=1) rfl rfl;obtain⟨ad,dl,dc,bs,e1,hB,ye⟩:=qvj Tryz.underlying23 Tryz.underlying5 B8 Cb t1 sM;have h40:0<=k4:=by simp[Lit.wf]at w4;exact w4.1
    obtain⟨n4,rfl⟩:∃n4:Nat,k4=(n4:Int):=⟨k4.toNat,by omega⟩;obtain rfl:=hB.length;simp only[List.cons.injEq,and_true]at e0 e1 e2 e3 e4;subst e0 e1 e2 e3 e4;refine⟨(⟨k,bs,s2.data.toList,k3,n4⟩,ad,dc),λj v hv=>hc j v ?_,.Ij hB⟩;simp only[oL,dG,zdc]at hv;exact hv
  refine⟨aJ,hl,.inr ⟨g,o,rfl,λj v hv=>?_⟩,by omega,h2,h4,λm hm=>?_⟩
  ·have hj:j<aJ.length*5:=by rw[<-MO];exact (lA.1 hv).1
   have hi:j/5<aJ.length:=by omega
   have e:j=j/5*5+j%5:=by omega
   have hg:=Hj oL 5 (λ_=>rfl) aJ (j/5) aJ[j/5] (j%5) (bO hi) (by omega);rw[<-e]at hg;rw[hg]at hv;have:=(hks (j/5) hi).1 (j%5) v hv;rw[uy,<-e]at this;exact this
  ·obtain⟨i,hi,rfl⟩:=List.getElem_of_mem hm;exact (hks i hi).2
end os

end Go.Proofs.YtkmpfgpfbmeihaaGreatDoor