/-
  Texts of this proof, one behind the other: RHex, RObjId, OGood, OClash, RsRes, Objs11, OSame, OEq, OBack, PkLaw6, OHelp, Awake11.
-/
import Derived.Test.YtkmpfgpfbmeihaaGreatDoorQ26
import Derived.Lib.MinMax
import Derived.Laws.StructEq
import Derived.ScopeJumps
import Derived.RegionTactic
import Derived.BigRegion
set_option maxHeartbeats 16000000
set_option maxRecDepth 100000
set_option linter.unusedVariables false
set_option linter.unusedSimpArgs false
namespace Go.Proofs.YtkmpfgpfbmeihaaGreatDoor
namespace pk
open Go Go.RowKit lib bm
theorem zcn (ao:OA) (cap:Nat) (bs:LB) (w:World) (h:lib.Rd w ao cap bs) (hlen:bs.length<=10000000) :
  Calls Tryz.prog 50 #[.slice ao bs.length cap] w λe w'=>e = .returned (.string (str (gH bs)))/\Fr [] w w':=by
 obtain⟨L,hL⟩:=ai bs.length;have ZO:L<=10000000:=by omega
 have HI:=ak h hL;rw[<-hL];clear h hL hlen;go_enter Tryz.func50,Tryz.ntmps50;go_wp2;go_loopg [3,4] L (λk s3 s4 wr=>∃i a c out,s4 = .int .i64 (i:Nat)/\s3 = .slice a out.length c/\i+k=L/\Wr w wr a c out/\out=gH (bs.take i));case atStart=>exact⟨0,none,0,[],rfl,rfl,by omega,V3 w w (Fr.refl _ _),rfl⟩
 case round=>
  obtain⟨i,a,c,out,rfl,rfl,bX,h,cC⟩:=hrel;have iw:out.length=2*i:=by rw[cC,eC,dU,<-HI.l1];omega
  have H:=aw h cC iw;have zB:out.length<=20000000:=by omega
  clear h cC iw;by_cases hi:i<L
  ·obtain⟨k,rfl⟩:∃k,gk=k+1:=⟨gk-1,by omega⟩;have eO:i<bs.length:=by rw[<-HI.l1];exact hi
   have hcs:=HI.o0.cs;have tJ:=λx hx=>hcs.lt (show bs.map bv≠[] by intro e;have:=congrArg List.length e;rw[bW]at this;simp at this;rw[this]at eO;simp at eO) x hx
   obtain⟨g,o,rfl,hc⟩:=(hcs.fr H.out.1.fr (by simp)).at (by rw[bW];omega);have EO:g<w.heap.size:=tJ ⟨g,o,none⟩ rfl;have rW:=hc i (bv bs[i]) (by rw[iM,br eO];rfl);unfold bv at rW;have iD:=SB (bs[i].toNat/16) (by have:=iL bs[i];omega);have eQ:=SB (bs[i].toNat%16) (by omega);have e1:=CM bs[i];have sM:=iL bs[i];have fU:=qo6 bs[i];have HT:=ah (show bs.take (i+1)=bs.take i++[bs[i]] from Ef eO);obtain⟨b,hb⟩:=ai (bs[i]);rw[<-hb]at rW iD eQ e1 sM fU HT;have DL:=ah fU;clear hc eO hb fU hcs tJ;obtain⟨S,hS⟩:=ai (af a);have q0:∀x,(sup S wr.drew x).cell? ⟨g,o+i,none⟩=some (.int .u8 ((b.toNat:Nat):Int)):=λx=>(dY S wr.drew x).cell ((Fr.av [] wr).cell rW (by simp)) (λhm=>by rw[hS]at hm;have:=H.out.1.new g hm;omega)
   have HS:=ah hS;clear hS EO;have e0:((b.toNat:Nat):Int)/16=((b.toNat/16:Nat):Int):=by omega
   go_upto_region 5 with fail;generalize (rU (b.toNat/16)).toNat=h0 at *;generalize (rU (b.toNat%16)).toNat=h1 at *;generalize b.toNat%16=b1 at *;generalize b.toNat/16=b0 at *;clear rW;refine j4 15 [(false,0),(false,1),(false,2),(false,3),(false,4),(false,5),(false,6),(false,7),(false,8),(false,9),(false,10),(false,11),(false,12),(true,13),(true,14)] S (by kernel_rfl) (by kernel_rfl) (λ_ _ d _ _ h=>by cases d<;>exact h) ?_;simp only[jm];refine dT 13 rfl ?_;simp only[bD];repeat (go_big_quiet_step (fail))
   refine wpQuiet_nil ?_;clear e0 e1 iD eQ q0;refine eT rfl ?_;intro X hX;go_wp2;refine hX.out _ _ ((Fr.refl _ wr.drew).alloc _) ?_;clear hX X;have dQ:Fr [] wr (wr.drew.alloc (.cells #[.int .u8 h0,.int .u8 h1] 5)):=(Fr.av [] wr).alloc _;have cT:=dr H.out.1.own dQ (by simp);have cA:Cs (wr.drew.alloc (.cells #[.int .u8 h0,.int .u8 h1] 5)) (some ⟨wr.drew.heap.size,0,none⟩) ((rV b).map bv):=by rw[DL.out];exact .inr ⟨wr.drew.heap.size,0,rfl,λj u hj=>by rw[cell_of (bC wr.drew _)];simpa using hj⟩
   refine eT rfl ?_;intro X hX;refine uj aq _ _ rfl (.slice a out.length c) out.length (out.map bv) S rfl (by rw[dD,HS.out]) cT (some ⟨wr.drew.heap.size,0,none⟩) 2 2 ((rV b).map bv) rfl (by decide) (by simp) cA (by rfl) (j3 _) (by omega) (by unfold maxLen;omega) ?_;intro a2 c2 w2 A1;refine hX.out _ _ A1.fr ?_;clear hX X;refine ic ?_;have HA:=ak dQ A1;clear dQ A1 cT cA;go_wp2;go_roundg k;case measure=>omega
   case rel=>have A1:=HA.l1;rw[HS.out]at A1;exact⟨i+1,a2,c2,out++rV b,by go_num,by rw[aA];rfl,by omega,H.out.1.step2 HA.o0 A1,by rw[HT.out,qr1,<-H.out.2.1]⟩
  ·obtain rfl:i=L:=by omega
   obtain⟨r1,_⟩:=wK H.out.1.own;have cv:=vU wr Tryz.underlying23 Tryz.underlying5 Tryz.underlying9 (rfl:out.length=out.length) r1.cs;have HO:=ah (show out=gH bs by rw[H.out.2.1,HI.l1,Ie]);clear r1;go_wp2;go_ret;exact⟨by rw[<-HO.out];rfl,H.out.1.fr⟩
end pk
namespace obj
open Go Go.RowKit lib
theorem qyl (k:Int) (bs:LB) (w:World) (hl:bs.length<=140737488354900) :
  Calls Tryz.prog 20 #[.int .i64 k,.string (str bs)] w λe w'=>e = .returned (.string (str (pk.mg k bs)))/\Fr [] w w':=by
 obtain⟨L,hL⟩:=ai bs.length;have cV:(str bs).size=L:=by rw[hL];simp[str,ByteArray.size]
 obtain⟨hd,qO⟩:=ai (header k L);have hU:hd.length<=24:=by rw[qO];exact Xh k L (by omega)
 have dh:pk.mg k bs=pk.gH (sha.dX (hd++bs)):=by rw[qO,hL];rfl
 rw[dh];have hh:=λw'=>qs7 k L w' (by omega)
 rw[<-qO]at hh;have vy:str hd++str bs=str (hd++bs):=(D7 hd bs);have mA:=λw'=>sha.zcm (hd++bs) w' (by rw[aA];omega)
 rw[<-vy]at mA;have PN:(str hd).size<=24:=by simpa[str,ByteArray.size] using hU
 obtain⟨A,hA⟩:=ai (str hd);obtain⟨B,hB⟩:=ai (str bs);rw[<-hA,<-hB]at mA;rw[<-hA]at hh PN;rw[<-hB]at cV ⊢;rw[<-hL]at hl;have H:=ak hh mA;clear hh mA vy hA hB qO dh hL;go_enter Tryz.func20,Tryz.ntmps20;go_wp2_with (first
  | (go_at_call 52;refine (H.o0 _).mono ?_;rintro e w1 ⟨rfl,f1⟩;have H1:=ah f1;clear f1)
  | (go_at_call 51;refine (H.l1 _).mono ?_;rintro e w2 ⟨⟨a2,c2,rfl,r2,n2⟩,f2⟩;have H2:=ak r2 (H1.out.trans f2);clear r2 n2 f2)
  | (go_at_call 50;refine (pk.zcn a2 c2 _ w2 H2.o0 (by rw[sha.rN];decide)).mono ?_;rintro e w3 ⟨rfl,f3⟩;have H3:=ah f3;clear f3))
 go_ret;exact⟨rfl,H2.l1.trans H3.out⟩
end obj
namespace os
open Go Go.RowKit lib bm pk huf
set_option maxRecDepth 100000
def oS (o:pk.Obj):Bool:=decide (1<=o.kind/\o.kind<=4/\o.body.length<=65536/\o.id=mg o.kind o.body)
theorem qvt {o:pk.Obj} (h:oS o=true):xO o:=by
 simp only[oS,decide_eq_true_eq]at h;refine⟨?_,h.2.2.1,h.2.2.2.symm⟩;unfold obj.fg;by_cases a1:o.kind=1
 ·rw[if_pos a1];decide
 ·by_cases a2:o.kind=2
  ·rw[if_neg a1,if_pos a2];decide
  ·by_cases a3:o.kind=3
   ·rw[if_neg a1,if_neg a2,if_pos a3];decide
   ·rw[if_neg a1,if_neg a2,if_neg a3,if_pos (by omega)];decide
theorem qta (m:OM) (w:World) (hr:lib.Rd w m.2.1 m.2.2 m.1.body) :
  Calls Tryz.prog 30 #[.agg (eK m.1 m.2.1 m.2.2)] w λe w'=>e = .returned (.bool (oS m.1))/\Fr [] w w':=by
 obtain⟨⟨kd,bs,id,at_,crc⟩,ba,bc⟩:=m;simp only at hr;simp only[eK];obtain⟨gb,Jx⟩:=ai (oS ⟨kd,bs,id,at_,crc⟩);rw[<-Jx];have ER:=Jx;simp only[oS]at ER;have hid:=λ(h:bs.length<=65536) w'=>obj.qyl kd bs w' (by omega)
 obtain⟨bl,bQ⟩:=ai bs.length;rw[<-bQ]at hid ER ⊢;obtain⟨si,mM⟩:=ai (str id);rw[<-mM];obtain⟨sb,lh⟩:=ai (str bs);rw[<-lh]at hid;obtain⟨sn,BJ⟩:=ai (str (mg kd bs));rw[<-BJ]at hid;have cv:=λw' (f:Fr [] w w')=>qlq (P:=Tryz.prog) [] w' Tryz.underlying23 Tryz.underlying5 Tryz.underlying9 bQ.symm (hr.fr f).cs (by simp)
 rw[<-lh]at cv;have H:=aQ hid ER mM BJ cv;clear hid Jx ER mM BJ lh bQ hr cv;go_enter Tryz.func30,Tryz.ntmps30;go_upto_region 1 with fail;generalize cP:World.alloc _ _=w1;obtain⟨X,hX⟩:=ai w.heap.size;rw[<-hX];have eQ:w1.heap[X]?=some (.cells #[.int .i64 kd,.slice ba bl bc,.string si,.int .i64 at_,.int .u32 crc] 34 (0,0)):=by rw[<-cP,hX];exact bC w _
 have f1:Fr [] w w1:=by rw[<-cP];exact (Fr.refl [] w).alloc _
 have x0:=cell_of eQ 0;have x1:=cell_of eQ 1;have x2:=cell_of eQ 2;simp only[bF,aT,bP]at x0 x1 x2;have H1:=ah f1;clear cP hX eQ f1;have y0:=λx=>(dY [] w1.drew x).cell (show w1.drew.cell? _=_ from x0) (by simp)
 have y1:=λx=>(dY [] w1.drew x).cell (show w1.drew.cell? _=_ from x1) (by simp)
 have y2:=λx=>(dY [] w1.drew x).cell (show w1.drew.cell? _=_ from x2) (by simp)
 have cv:=H.l4 w1.drew (H1.out.trans (Fr.av [] w1));clear x0 x1 x2;refine j4 26 [(false,0),(false,1),(false,2),(false,3),(false,4),(false,5),(false,6),(false,7),(false,8),(false,9),(false,10),(false,11),(false,12),(false,13),(false,14),(false,15),(false,16),(false,17),(false,18),(false,19),(false,20),(false,21),(true,22),(false,23),(false,24),(false,25)] [] (by kernel_rfl) (by kernel_rfl) (λ_ _ d _ _ h=>by cases d<;>exact h) ?_;simp only[jm];refine dT 22 rfl ?_;simp only[bD];by_cases h1:1<=kd
 ·have g1:decide ((1:Int)<=kd)=true:=by simpa using h1
  by_cases h2:kd<=4
  ·have g2:decide (kd<=(4:Int))=true:=by simpa using h2
   by_cases h3:bl<=65536
   ·have g3:decide ((bl:Int)<=(65536:Int))=true:=by simp;omega
    repeat (go_big_quiet_step (fail))
    refine wpQuiet_nil ?_;clear y0 y1 y2 cv g1 g2 g3;have HH:=aw h1 h2 h3;clear h1 h2 h3;refine eT rfl ?_;intro XX Ck;go_wp2_with (go_at_call 20;refine (H.o0 (by have h3:=HH.out.2.2;omega) _).mono ?_;rintro e w3 ⟨rfl,f3⟩);refine Ck.out _ _ f3 ?_;clear Ck XX;have H3:=ah f3;clear f3;refine dT 3 rfl ?_;simp only[bD];repeat (go_big_quiet_step (fail))
    refine wpQuiet_nil ?_;refine ic ?_;go_wp2;go_ret;refine⟨?_,(H1.out.trans (Fr.av [] w1)).trans H3.out⟩;rw[H.o1,H.o2,H.o3,bh,bh];obtain⟨h1,h2,h3⟩:=HH.out;have e:decide (1<=kd/\kd<=4/\bl<=65536/\id=mg kd bs)=(id==mg kd bs):=by rw[Bool.eq_iff_iff];simp[h1,h2,h3]
    rw[e];rfl
   ·have g3:decide ((bl:Int)<=(65536:Int))=false:=by simp;omega
    repeat (go_big_quiet_step (fail))
    refine wpQuiet_nil ?_;refine Nf rfl ?_;simp only[Act.put,nR,oD,nP];refine dT 3 rfl ?_;simp only[bD];repeat (go_big_quiet_step (fail))
    refine wpQuiet_nil ?_;refine ic ?_;go_wp2;go_ret;exact⟨by rw[H.o1];simp;omega,H1.out.trans (Fr.av [] w1)⟩
  ·have g2:decide (kd<=(4:Int))=false:=by simp;omega
   repeat (go_big_quiet_step (fail))
   refine wpQuiet_nil ?_;refine Nf rfl ?_;simp only[Act.put,nR,oD,nP];refine dT 3 rfl ?_;simp only[bD];repeat (go_big_quiet_step (fail))
   refine wpQuiet_nil ?_;refine ic ?_;go_wp2;go_ret;exact⟨by rw[H.o1];simp;omega,H1.out.trans (Fr.av [] w1)⟩
 ·have g1:decide ((1:Int)<=kd)=false:=by simp;omega
  repeat (go_big_quiet_step (fail))
  refine wpQuiet_nil ?_;refine Nf rfl ?_;simp only[Act.put,nR,oD,nP];refine dT 3 rfl ?_;simp only[bD];repeat (go_big_quiet_step (fail))
  refine wpQuiet_nil ?_;refine ic ?_;go_wp2;go_ret;exact⟨by rw[H.o1];simp;omega,H1.out.trans (Fr.av [] w1)⟩
def oq (l:List pk.Obj):Nat:=(l.map λo=>min o.body.length 100000).sum
theorem zam:∀l:List pk.Obj,oq l<=l.length*100000
 | []=>ay _
 | o::t=>by have:=zam t;unfold oq at this ⊢;rw[gX,Be,bU];omega
theorem zal {l:List OM} {i:Nat} {m:OM} (h:l[i]?=some m):oq ((l.take (i+1)).map (·.1))=oq ((l.take i).map (·.1))+min m.1.body.length 100000:=by rw[zj,h];simp[oq]
theorem zg6 (a:OA) (c:Nat) (aK:List OM) (w:World) (h:gU w a c aK) :
  Calls Tryz.prog 12 #[.slice a aK.length c] w λe w'=>e = .returned (.bool (decide (aK.length<=30/\oq ((aK.take 40).map (·.1))<=30000)))/\Fr [] w w':=by
 obtain⟨n,hn⟩:=ai aK.length;have zD:n<=9223372036854775807:=by have h1:=h.le;have h2:=h.max;unfold maxLen at h2;omega
 rw[<-hn];have H:=ak h hn;clear h hn;go_enter Tryz.func12,Tryz.ntmps12;go_wp2;go_loopg [3,4] (min n 40) (λk s3 s4 wr=>∃i:Nat,s4 = .int .i64 (i:Nat)/\s3 = .int .i64 (oq ((aK.take i).map (·.1)):Nat)/\i+k=min n 40/\Fr [] w wr);case atStart=>exact⟨0,rfl,rfl,by omega,Fr.refl _ _⟩
 case round=>
  obtain⟨i,rfl,rfl,bX,hf⟩:=hrel;have HF:=ah hf;clear hf;have hS:=zam ((aK.take i).map (·.1));rw[bW,dU]at hS;obtain⟨S,Qm⟩:∃S,S=oq ((aK.take i).map (·.1)):=⟨_,rfl⟩;rw[<-Qm]at hS ⊢;have hS:S<=4000000:=by omega
  by_cases hi:i<n
  ·by_cases hj:i<40
   ·obtain⟨k,rfl⟩:∃k,gk=k+1:=⟨gk-1,by omega⟩;obtain⟨m,hm⟩:∃m,aK[i]?=some m:=⟨aK[i]'(by rw[<-H.out.2];omega),br _⟩;obtain⟨g,o,rfl,hc⟩:=(H.out.1.fr HF.out).cell hm;have c1:=hc 1 (.slice m.2.1 m.1.body.length m.2.2) rfl;have he:=zal hm;rw[<-Qm]at he;obtain⟨bl,bQ⟩:=ai m.1.body.length;rw[<-bQ]at c1 he;have HX:=ah he;clear hc hm he bQ Qm;go_wp2;go_roundg k;case measure=>omega
    case rel=>exact⟨i+1,by go_num,by rw[HX.out];simp;omega,by omega,HF.out⟩
   ·have Pm:¬n<=30:=by omega
    go_wp2;go_ret;exact⟨rfl,HF.out⟩
  ·obtain rfl:i=n:=by omega
   by_cases Pm:i<=30
   ·have HS:=ah Qm;clear Qm;go_wp2;go_ret;refine⟨?_,HF.out⟩;have e1:aK.take 40=aK.take i:=by rw[mL (by have:=H.out.2;omega),mL (by have:=H.out.2;omega)]
    rw[e1,<-HS.out];simp[Pm];try omega
   ·go_wp2;go_ret;exact⟨rfl,HF.out⟩
def gf (m:OM):Bool:=oS m.1
theorem zdv (a:OA) (c:Nat) (aK:List OM) (w:World) (h:gU w a c aK) (hl:aK.length<=1000000) :
  Calls Tryz.prog 13 #[.slice a aK.length c] w λe w'=>∃a2 c2,e = .returned (.slice a2 (aK.filter gf).length c2)/\Made w w' 34 5 a2 (aK.filter gf).length c2 ((aK.filter gf).flatMap oL):=by
 obtain⟨n,hn⟩:=ai aK.length;rw[<-hn]at hl ⊢;have H:=ak h hn;clear h hn;go_enter Tryz.func13,Tryz.ntmps13;go_wp2;go_loopg [3,4] n (λk s3 s4 wr=>∃(i n2:Nat) (a2:OA) (c2:Nat),s4 = .int .i64 (i:Nat)/\s3 = .slice a2 n2 c2/\i+k=n/\n2=((aK.take i).filter gf).length/\n2<=i/\Made w wr 34 5 a2 n2 c2 (((aK.take i).filter gf).flatMap oL));case atStart=>exact⟨0,0,none,0,rfl,rfl,by omega,rfl,ay _,Made.none _ _ _⟩
 case round=>
  obtain⟨i,n2,a2,c2,rfl,rfl,bX,jM,zbT,hM⟩:=hrel;have HM:=ak hM jM;clear hM jM;by_cases hi:i<n
  ·obtain⟨k,rfl⟩:∃k,gk=k+1:=⟨gk-1,by omega⟩;obtain⟨m,hm⟩:∃m,aK[i]?=some m:=⟨aK[i]'(by rw[<-H.out.2];omega),br _⟩;obtain⟨g,o,rfl,hc⟩:=(H.out.1.fr HM.out.1.fr).cell hm;have bw:=qta m wr ((H.out.1.rd m (gB hm)).fr HM.out.1.fr);have cH:aK.take (i+1)=aK.take i++[m]:=by rw[zj,hm];rfl
   obtain⟨gb,Jx⟩:=ai (oS m.1);rw[<-Jx]at bw;have hgf:gf m=gb:=Jx.symm;have HT:=ak cH hgf;clear cH hgf Jx hm;obtain⟨⟨kd,bs,id,at_,crc⟩,ba,bc⟩:=m;simp only[eK]at bw;have c0:=hc 0 (.int .i64 kd) rfl;have c1:=hc 1 (.slice ba bs.length bc) rfl;have Ke:=hc 2 (.string (str id)) rfl;have c3:=hc 3 (.int .i64 at_) rfl;have c4:=hc 4 (.int .u32 crc) rfl;rw[ie]at c0;have HC:=ah bw;clear bw hc;cases gb with
   | false=>
    go_wp2_with (go_at_call 30;refine HC.out.mono ?_;rintro e w2 ⟨rfl,f2⟩;have H2:=ah f2;clear f2 c0 c1 Ke c3 c4);go_roundg k;case measure=>omega
    case rel=>
     have e1:(aK.take (i+1)).filter gf=(aK.take i).filter gf:=by rw[HT.o0,D8];simp[HT.l1]
     exact⟨i+1,n2,a2,c2,by go_num,rfl,by omega,by rw[e1];exact HM.out.2,by omega,by rw[e1];exact HM.out.1.eG H2.out⟩
   | true=>
    go_wp2_with (first
     | (go_at_call 30;refine HC.out.mono ?_;rintro e w2 ⟨rfl,f2⟩;have c0:=f2.cell c0 (by simp);have c1:=f2.cell c1 (by simp);have Ke:=f2.cell Ke (by simp);have c3:=f2.cell c3 (by simp);have c4:=f2.cell c4 (by simp);have yL:=HM.out.1.eG f2;have H2:=ak yL ((Fr.refl [] w2).alloc (.cells #[.int .i64 kd,.slice ba bs.length bc,.string (str id),.int .i64 at_,.int .u32 crc] 34));clear f2 yL)
     | (guard_target =~ wpList _ _ _ (⟨_,Op.call _,_,_,_,_⟩::_) _ _;refine gM Nk rfl _ _ rfl (.slice a2 n2 c2) n2 (((aK.take i).filter gf).flatMap oL) (af a2) rfl (dD a2 n2 c2) (dr H2.out.1.own H2.out.2 (by simp)) (some ⟨w2.heap.size,0,none⟩) 1 1 (oL (⟨kd,bs,id,at_,crc⟩,ba,bc)) rfl (by decide) (by simp) (.inr ⟨w2.heap.size,0,rfl,λj u hj=>by rw[cell_of (bC w2 _),ft,<-oY];exact hj⟩) rfl (RN _) (by omega) (by unfold maxLen;omega) ?_;intro a6 c6 w6 A1;have HA:=ah A1;clear A1))
    go_roundg k;case measure=>omega
    case rel=>
     have e1:(aK.take (i+1)).filter gf=(aK.take i).filter gf++[(⟨kd,bs,id,at_,crc⟩,ba,bc)]:=by rw[HT.o0,D8];simp[HT.l1]
     refine⟨i+1,n2+1,a6,c6,by go_num,rfl,by omega,by rw[e1,aA,<-HM.out.2];rfl,by omega,?_⟩;rw[e1,Bm];have h3:=(H2.out.1.eG H2.out.2).app HA.out;simpa using h3
  ·obtain rfl:i=n:=by omega
   go_wp2;go_ret;have e1:aK.take i=aK:=by rw[H.out.2,Ie]
   have h1:=HM.out.1;have h2:=HM.out.2;rw[e1]at h1 h2;subst h2;exact⟨a2,c2,rfl,h1⟩
set_option maxRecDepth 100000
def tL (x:Int×List UInt8):List Value:=[.int .i64 x.1,.string (str x.2)]
theorem zf3:az Tryz.prog 31 36 (.agg #[.int .i64 0,.string ⟨#[]⟩]) 2 24:=az.of Tryz.underlying31 (by kernel_rfl) rfl (by decide)
theorem zce:az Tryz.prog 71 9 (.string ⟨#[]⟩) 1 16:=az.of Tryz.underlying71 (by kernel_rfl) rfl (by decide)
theorem qur (k k':Int) (a b:ByteArray) (w:World):(Go.binOp .neq 36 (.agg #[.int .i64 k,.string a]) (.agg #[.int .i64 k',.string b])).run Tryz.prog w = .ok (.bool (!(decide (k=k')&&(a.toList==b.toList)))) w:=by
 have hu:=Tryz.underlying36;have hp:Tryz.prog.stoodInHeld 36=false:=by kernel_rfl
 have hf:Tryz.prog.underlying 36=some (.struct (Tryz.prog.fieldsOf 36)):=by kernel_rfl
 rw[run_neq_struct,run_equalIn_struct _ _ _ _ _ hf hp];unfold Program.fieldsOf;rw[hu];by_cases h1:k=k'
 ·by_cases h2:a.toList=b.toList
  ·simp[Op.eqFields,go_sem,run_equalIn_int,run_equalIn_string,h1,h2]
  ·simp[Op.eqFields,go_sem,run_equalIn_int,run_equalIn_string,h1,h2]
 ·simp[Op.eqFields,go_sem,run_equalIn_int,run_equalIn_string,h1]
theorem Ft {w:World} {a:OA} {l:List (Int×List UInt8)} (h:Cs w a (l.flatMap tL)) {i:Nat} {x:Int×List UInt8} (hi:l[i]?=some x):∃g o,a=some ⟨g,o,none⟩/\w.cell? ⟨g,o+i*2,none⟩=some (.int .i64 x.1)/\w.cell? ⟨g,o+i*2+1,none⟩=some (.string (str x.2)):=by
 have hl:=(jq.1 hi).1;obtain⟨g,o,ha,hc⟩:=h.at (by rw[Se tL 2 (λ_=>rfl) l];omega);have key:∀j v,j<2->(tL x)[j]?=some v->w.cell? ⟨g,o+i*2+j,none⟩=some v:=λj v hj hv=>by rw[oW];exact hc _ v ((Iu tL 2 (λ_=>rfl) l i x j hi hj).trans hv)
 exact⟨g,o,ha,key 0 _ (by decide) rfl,key 1 _ (by decide) rfl⟩
def pU (l:List (Int×List UInt8)) (i:Nat):Prop:=∀(t u:Nat) (x y:Int×List UInt8),u<t->t<i->l[t]?=some x->l[u]?=some y->mg y.1 y.2=mg x.1 x.2->y=x
def LG (x:Int×List UInt8):Value:=.string (str (mg x.1 x.2))
theorem za6 (a:OA) (c:Nat) (l:List (Int×List UInt8)) (w:World) (h:Cs w a (l.flatMap tL)) (hl:l.length<=1000) (hb:∀x∈l,x.2.length<=65536) :
  Calls Tryz.prog 14 #[.slice a l.length c] w λe w'=>Fr [] w w'/\∃r,e = .returned (.bool r)/\(r=false->pU l l.length):=by
 obtain⟨n,hn⟩:=ai l.length;rw[<-hn]at hl ⊢;have H:=aw h hn hb;clear h hn hb;go_enter Tryz.func14,Tryz.ntmps14;go_wp2;go_loopg [3,4] n (λk s3 s4 wr=>∃(i:Nat) (a2:OA) (c2:Nat),s4 = .int .i64 (i:Nat)/\s3 = .slice a2 i c2/\i+k=n/\Made w wr 9 1 a2 i c2 ((l.take i).map LG)/\pU l i);case atStart=>exact⟨0,none,0,rfl,rfl,by omega,Made.none _ _ _,λt u x y _ ht=>by omega⟩
 case round=>
  obtain⟨i,a2,c2,rfl,rfl,bX,hM,oK⟩:=hrel;have HL:=ak hM oK;clear hM oK;generalize wr=w1 at *;by_cases hi:i<n
  ·obtain⟨k,rfl⟩:∃k,gk=k+1:=⟨gk-1,by omega⟩;obtain⟨x,hx⟩:∃x,l[i]?=some x:=⟨l[i]'(by rw[<-H.out.2.1];omega),br _⟩;obtain⟨g,o,rfl,c0,c1⟩:=Ft (H.out.1.fr HL.out.1.fr (by simp)) hx;have hid:=λw'=>obj.qyl x.1 x.2 w' (by have:=H.out.2.2 x (gB hx);omega)
   have zF:l.take (i+1)=l.take i++[x]:=by rw[zj,hx];rfl
   obtain⟨kx,bx⟩:=x;simp only at c0 c1 hid;obtain⟨sx,Ay⟩:=ai (str bx);obtain⟨sn,BJ⟩:=ai (str (mg kx bx));rw[<-Ay]at c1 hid;rw[<-BJ]at hid;have HX:=aQ hx hid Ay BJ zF;clear hx hid Ay BJ zF;go_upto_region 5 with fail;have y0:=λx=>(dY [] w1.drew x).cell (show w1.drew.cell? _=_ from c0) (by simp)
   have y1:=λx=>(dY [] w1.drew x).cell (show w1.drew.cell? _=_ from c1) (by simp)
   refine j4 12 [(false,0),(false,1),(false,2),(false,3),(false,4),(false,5),(false,6),(false,7),(false,8),(false,9),(true,10),(false,11)] [] (by kernel_rfl) (by kernel_rfl) (λ_ _ d _ _ h=>by cases d<;>exact h) ?_;simp only[jm];refine dT 10 rfl ?_;simp only[bD];repeat (go_big_quiet_step (fail))
   refine wpQuiet_nil ?_;clear y0 y1;refine eT rfl ?_;intro XX Ck;go_wp2_with (go_at_call 20;refine (HX.o1 _).mono ?_;rintro e w3 ⟨rfl,f3⟩);refine Ck.out _ _ f3 ?_;clear Ck XX;have f13:Fr [] w1 w3:=(Fr.av [] w1).trans f3;have H3:=ak (HL.out.1.eG f13) f13;clear f3 f13;refine dT 1 rfl ?_;simp only[bD];repeat (go_big_quiet_step (fail))
   refine wpQuiet_nil ?_;refine ic ?_;have c0:=H3.out.2.cell c0 (by simp);have c1:=H3.out.2.cell c1 (by simp);go_wp2;go_loopg [6] i (λk s6 wq=>∃j:Nat,s6 = .int .i64 (j:Nat)/\j+k=i/\Fr [] w3 wq/\∀(u:Nat) (y:Int×List UInt8),u<j->l[u]?=some y->mg y.1 y.2=mg kx bx->y=(kx,bx));case atStart=>exact⟨0,rfl,by omega,Fr.refl _ _,λu y hu=>by omega⟩
   case round=>
    obtain⟨j,rfl,fx,hf,oK⟩:=hrel;generalize wr=wq at *;have c0:=hf.cell c0 (by simp);have c1:=hf.cell c1 (by simp);have HM:=ak hf oK;clear hf oK;by_cases hj:j<i
    ·obtain⟨m,rfl⟩:∃m,gk=m+1:=⟨gk-1,by omega⟩;obtain⟨y,hy⟩:∃y,l[j]?=some y:=⟨l[j]'(by rw[<-H.out.2.1];omega),br _⟩;obtain⟨g',o',hg,d0,d1⟩:=Ft (H.out.1.fr (HL.out.1.fr.trans (H3.out.2.trans HM.out.1)) (by simp)) hy;simp only[eJ,ru,and_true]at hg;obtain⟨rfl,rfl⟩:=hg;have hcs:Cs wq a2 ((l.take i).map LG):=(y9 H3.out.1.own).fr HM.out.1 (by simp);obtain⟨g2,o2,rfl,jD⟩:=hcs.at (by rw[bW,dU];have:=H.out.2.1;omega);have e0:=jD j (LG y) (by rw[iM,oX,if_pos hj,hy];rfl);unfold LG at e0;obtain⟨ky,UC⟩:=y;simp only at d0 d1 e0;obtain⟨sy,lf⟩:=ai (str UC);obtain⟨sm,vd⟩:=ai (str (mg ky UC));rw[<-lf]at d1;rw[<-vd]at e0;have HY:=ah hy;clear hy jD hcs;by_cases he:mg ky UC=mg kx bx
     ·have gs:(sm.toList==sn.toList)=true:=by rw[vd,HX.o3,he];exact beq_self_eq_true _
      by_cases hq:ky=kx/\UC=bx
      ·have gt:(!(decide (ky=kx)&&(sy.toList==sx.toList)))=false:=by rw[lf,HX.o2,hq.1,hq.2];simp
       have tn:=λw'=>qur ky kx sy sx w'
       rw[gt]at tn;have HQ:=ah hq;clear gt lf vd he hq;go_upto_region 9 with fail;go_quiet (fail);go_wp2;go_roundg m;case measure=>omega
       case rel=>
        refine⟨j+1,rfl,by omega,HM.out.1.jg _,λu z hu hz T9=>?_⟩;by_cases huj:u=j
        ·subst huj;rw[HY.out]at hz;obtain rfl:=lA hz;rw[HQ.out.1,HQ.out.2]
        ·exact HM.out.2 u z (by omega) hz T9
      ·have gt:(!(decide (ky=kx)&&(sy.toList==sx.toList)))=true:=by
        rw[lf,HX.o2,bh,bh];by_cases h1:ky=kx
        ·simp[h1];exact λh2=>hq ⟨h1,h2⟩
        ·simp[h1]
       have tn:=λw'=>qur ky kx sy sx w'
       rw[gt]at tn;clear gt lf vd he hq;go_upto_region 9 with fail;go_quiet (fail);go_wp2;go_ret;exact⟨(HL.out.1.fr.trans (H3.out.2.trans HM.out.1)).jg _,true,rfl,λh=>by cases h⟩
     ·have gs:(sm.toList==sn.toList)=false:=by rw[vd,HX.o3,bh,bh];simpa using he
      have HE:=ah he;clear lf vd he;go_upto_region 9 with fail;go_quiet (fail);go_wp2;go_roundg m;case measure=>omega
      case rel=>
       refine⟨j+1,rfl,by omega,HM.out.1.jg _,λu z hu hz T9=>?_⟩;by_cases huj:u=j
       ·subst huj;rw[HY.out]at hz;obtain rfl:=lA hz;exact absurd T9 HE.out
       ·exact HM.out.2 u z (by omega) hz T9
    ·obtain rfl:j=i:=by omega
     have Co:=H3.out.1.eG HM.out.1;have H4:=ak Co ((Fr.refl [] wq).alloc (.cells #[.string sn] 9));clear Co;go_wp2_with (guard_target =~ wpList _ _ _ (⟨_,Op.call _,_,_,_,_⟩::_) _ _;refine gM zce rfl _ _ rfl (.slice a2 j c2) j ((l.take j).map LG) (af a2) rfl (dD a2 j c2) (dr H4.o0.own H4.l1 (by simp)) (some ⟨wq.heap.size,0,none⟩) 1 1 [.string sn] rfl (by decide) (by simp) (.inr ⟨wq.heap.size,0,rfl,λt u ht=>by rw[cell_of (bC wq _),ft,<-oY];exact ht⟩) rfl (by simp[Value.oneCell']) (by omega) (by unfold maxLen;omega) ?_;intro a6 c6 w6 A1;have HA:=ah A1;clear A1);go_roundg k;case measure=>omega
     case rel=>
      refine⟨j+1,a6,c6,by go_num,rfl,by omega,?_,λt u x y hut ht hx hy he=>?_⟩
      ·have h3:=(H4.o0.eG H4.l1).app HA.out;rw[HX.l4,gF];have e1:[(kx,bx)].map LG=[.string sn]:=by rw[HX.o3];rfl
       rw[e1];exact h3
      ·by_cases htj:t=j
       ·subst htj;rw[HX.o0]at hx;obtain rfl:=lA hx;exact HM.out.2 u y hut hy he
       ·exact HL.out.2 t u x y hut (by omega) hx hy he
  ·obtain rfl:i=n:=by omega
   go_wp2;go_ret;exact⟨HL.out.1.fr,false,rfl,λ_=>HL.out.2⟩
end os
namespace pk
open Go Go.RowKit lib bm
theorem qnz:∀(W:List St) (i:Nat),(∀t,t<i->∃o d,W[t]?=some (some (.ok (o,d))))->W[i]?=some none->gI W = .error 61
 | [],i,_,h=>by simp at h
 | s::t,0,_,h=>by
  simp only[aT,eJ]at h;subst h;rfl
 | s::t,i+1,hb,h=>by obtain⟨o,d,h0⟩:=hb 0 (by omega);simp only[aT,eJ]at h0;subst h0;rw[gI,qnz t i (λk hk=>by simpa using hb (k+1) (by omega)) (by simpa using h)]
theorem qlt:∀(W:List St) (i x:Nat),(∀t,t<i->∃o d,W[t]?=some (some (.ok (o,d))))->W[i]?=some (some (.error x))->gI W = .error x
 | [],i,_,_,h=>by simp at h
 | s::t,0,x,_,h=>by
  simp only[aT,eJ]at h;subst h;rfl
 | s::t,i+1,x,hb,h=>by obtain⟨o,d,h0⟩:=hb 0 (by omega);simp only[aT,eJ]at h0;subst h0;rw[gI,qlt t i x (λk hk=>by simpa using hb (k+1) (by omega)) (by simpa using h)]
theorem qo7:∀(W:List St),(∀t,t<W.length->∃o d,W[t]?=some (some (.ok (o,d))))->∃os:List Obj,gI W = .ok os/\os.length=W.length/\∀(i:Nat) (o:Obj),os[i]?=some o->∃d,W[i]?=some (some (.ok (o,d)))
 | [],_=>⟨[],rfl,rfl,λi o h=>by simp at h⟩
 | s::t,hb=>by
  obtain⟨o,d,h0⟩:=hb 0 (by simp);simp only[aT,eJ]at h0;subst h0;obtain⟨os,h1,h2,h3⟩:=qo7 t (λk hk=>by simpa using hb (k+1) (by simpa using hk));refine⟨o::os,by rw[gI,h1],by simp[h2],λi p hp=>?_⟩;cases i with
  | zero=>
   simp only[aT,eJ]at hp;exact⟨d,by simp[hp]⟩
  | succ i=>simpa using h3 i p (by simpa using hp)
def vP (w:World) (a:OA) (os:List Obj):Prop:=∀i o,os[i]?=some o->∃g k ba bc,a=some ⟨g,k,none⟩/\(∀j v,(eK o ba bc)[j]?=some v->w.cell? ⟨g,k+i*5+j,none⟩=some v)/\lib.Rd w ba bc o.body
def zaF (w:World) (n:Nat) (R:Except Nat (List Obj)) (e:Ending) (w':World):Prop:=Fr [] w w'/\match R with
 | .error x=>e = .returned (.tuple #[.slice none 0 0,.int .i64 x])
 | .ok os=>∃a c,e = .returned (.tuple #[.slice a n c,.int .i64 0])/\os.length=n/\vP w' a os
structure RI (w wr:World) (g O S bt N:Nat) (gv:Value) (la:OA) (ms:List EM) (kn:List Kn) (C D:AV) (W:List St):Prop where
 rb:Rb wr g O S gv (.map (some bt)) la ms C D
 xX:tY wr O S C D (ms.map (·.1)) W
 told:Told wr O S bt N kn
 fr:Fr [] w wr
 new:w.heap.size<=O/\w.heap.size<=S/\w.heap.size<=bt
 und:sU (ms.map (·.1)) W
theorem tY.dQ {w w':World} {O S:Nat} {C D:AV} {l:List ek} {W:List St} (h:tY w O S C D l W) (f:Fr [] w w'):tY w' O S C D l W:=
 ⟨h.len,λi s hs=>(h.st i s hs).keep (λ_ _=>rfl) (λ_ _=>rfl) (f.mono (by simp)),h.base⟩
theorem RI.off {w wr:World} {g O S bt N:Nat} {gv:Value} {la:OA} {ms:List EM} {kn:List Kn} {C D:AV} {W:List St} (h:RI w wr g O S bt N gv la ms kn C D W):bt≠O/\bt≠S:=
 ⟨kC (h.told.at_.ne h.rb.ob),kC (h.told.at_.ne h.rb.sb)⟩
theorem RI.dQ {w wr w2:World} {g O S bt N:Nat} {gv:Value} {la:OA} {ms:List EM} {kn:List Kn} {C D:AV} {W:List St} (h:RI w wr g O S bt N gv la ms kn C D W) (f:Fr [] wr w2):RI w w2 g O S bt N gv la ms kn C D W:=
 ⟨h.rb.fr f,h.xX.dQ f,h.told.fr (f.mono (by simp)) h.off.1 h.off.2,h.fr.trans f,h.new,h.und⟩
theorem RI.turn {w wr w2:World} {g O S bt N:Nat} {gv:Value} {la:OA} {ms:List EM} {kn:List Kn} {C D C' D':AV} {W W':List St} (h:RI w wr g O S bt N gv la ms kn C D W) (f:Fr [O,S] wr w2) (rb:Rb w2 g O S gv (.map (some bt)) la ms C' D') (st:tY w2 O S C' D' (ms.map (·.1)) W') (und:sU (ms.map (·.1)) W'):RI w w2 g O S bt N gv la ms kn C' D' W':=
 ⟨rb,st,h.told.fr f h.off.1 h.off.2,h.fr.step f (λy hy=>by have:=h.new;simp at hy;right;rcases hy with rfl|rfl<;>omega),h.new,und⟩
theorem RI.old {w wr w2:World} {g O S bt N N':Nat} {gv:Value} {la:OA} {ms:List EM} {kn:List Kn} {C D:AV} {W:List St} (h:RI w wr g O S bt N gv la ms kn C D W) (f:Fr [bt] wr w2) (t:Told w2 O S bt N' kn):RI w w2 g O S bt N' gv la ms kn C D W:=
 ⟨h.rb.rK h.told.at_ f,h.xX.rK h.told.at_ f,t,h.fr.step f (λy hy=>by have:=h.new;simp at hy;right;omega),h.new,h.und⟩
theorem RI.asked {w wr w2:World} {g O S bt N N':Nat} {gv:Value} {la:OA} {ms:List EM} {kn:List Kn} {C D C' D':AV} {W W':List St} (h:RI w wr g O S bt N gv la ms kn C D W) (f:Fr [O,S,bt] wr w2) (rb:Rb w2 g O S gv (.map (some bt)) la ms C' D') (st:tY w2 O S C' D' (ms.map (·.1)) W') (t:Told w2 O S bt N' kn) (und:sU (ms.map (·.1)) W'):RI w w2 g O S bt N' gv la ms kn C' D' W':=
 ⟨rb,st,t,h.fr.step f (λy hy=>by have:=h.new;simp at hy;right;rcases hy with rfl|rfl|rfl<;>omega),h.new,und⟩
theorem jZ.up {w w1:World} {gv:Value} {kn:List Kn} {T:LN} (h:jZ w [] gv kn) (f:Fr [] w w1) (hT:∀x∈T,w.heap.size<=x):jZ w1 T gv kn:=by
 rcases h with h|⟨lq,cv,h1,h2,h3⟩
 ·exact .inl h
 ·exact .inr ⟨lq,cv,h1,h2,λid w2 hl f2=>h3 id w2 hl (f.step f2 (λx hx=>.inr (hT x hx)))⟩
structure RJ (w wr:World) (g O S bt N:Nat) (gv:Value) (la:OA) (ms:List EM) (kn:List Kn) (C D:AV) (W:List St) (f:Nat) (R:Except Nat (List Obj)):Prop where
 ri:RI w wr g O S bt N gv la ms kn C D W
 fuel:bO W<f
 num:N+f*ms.length<=16785408
 res:R=gI (rM (ms.map (·.1)) kn f W)
def yj (a:Act) (w:World):Nat:=match a.tmps.getD 6 undef with
 | .pointer (some p)=>(match w.cell? ⟨p.block,2,none⟩ with
  | some (.slice (some s) n _)=>yZ w s.block 4 n
  | _=>0)
 | _=>0
theorem V5 {a:Act} {w wr:World} {g O S bt N:Nat} {gv:Value} {la:OA} {ms:List EM} {kn:List Kn} {C D:AV} {W:List St} (h6:a.tmps.getD 6 undef = .pointer (some ⟨g,0,none⟩)) (h:RI w wr g O S bt N gv la ms kn C D W):yj a wr=bO W:=by unfold yj;rw[h6];simp only;rw[cell_of h.rb.box];have:=h.xX.yZ h.rb.sb;rw[bW]at this;exact this
theorem Fg (a:Act) (h:a.tmps.size=86) (hd:a.defers=[]):∃u:Nat->Value,a=⟨#[u 0,u 1,u 2,u 3,u 4,u 5,u 6,u 7,u 8,u 9,u 10,u 11,u 12,u 13,u 14,u 15,u 16,u 17,u 18,u 19,u 20,u 21,u 22,u 23,u 24,u 25,u 26,u 27,u 28,u 29,u 30,u 31,u 32,u 33,u 34,u 35,u 36,u 37,u 38,u 39,u 40,u 41,u 42,u 43,u 44,u 45,u 46,u 47,u 48,u 49,u 50,u 51,u 52,u 53,u 54,u 55,u 56,u 57,u 58,u 59,u 60,u 61,u 62,u 63,u 64,u 65,u 66,u 67,u 68,u 69,u 70,u 71,u 72,u 73,u 74,u 75,u 76,u 77,u 78,u 79,u 80,u 81,u 82,u 83,u 84,u 85],[]⟩/\∀i,i<86->a.tmps[i]?=some (u i):=by
 obtain⟨t,d⟩:=a;simp only at h hd;subst hd;have key:t=((List.range 86).map λi=>t.getD i undef).toArray:=by
  apply Array.ext_getElem?;intro i;by_cases hi:i<86
  ·simp[hi,h]
  ·rw[Array.getElem?_eq_none (by omega),Array.getElem?_eq_none (by simp;omega)]
 refine⟨λi=>t.getD i undef,?_,λi hi=>?_⟩
 ·rw[Act.mk.injEq];exact⟨key,rfl⟩
 ·simp[h,hi]
theorem qpp {P:Program} {Q:Exit->Act->World->Prop} {a:Act} {w:World} {c c2:Code} (l:Nat) (J:Act->World->Prop) (μ:Act->World->Nat) (hf:findLabel c l=some (Code.seq Code.skip c2))
  (first:(∀a w,J a w->c2.wp P (Exit.jump l J Q) a w)->c.wp P (Exit.jump l J Q) a w) (main:∀a w,J a w->c2.wp P (Exit.jump l (λa' w'=>J a' w'/\μ a' w'<μ a w) Q) a w):(Code.scope c).wp P Q a w:=
 wp_scope_jumps l J μ hf (first λa w h=>Code.wp_mono (λe a w q=>by cases e<;>first|exact q|exact⟨q.1,q.2.1⟩) (main a w h)) (λa w h=>wp_seq (wp_skip (main a w h)))
def JR (w:World) (n:Nat) (gv:Value) (la:OA) (ms:List EM) (kn:List Kn) (R:Except Nat (List Obj)) (a:Act) (w':World):Prop:=∃g O S bt C D W N f,a.tmps.size=86/\a.defers=[]/\a.tmps[0]?=some (.slice la n n)/\a.tmps[1]?=some gv/\a.tmps[4]?=some (.slice none 0 0)/\a.tmps[5]?=some (.int .i64 0)/\a.tmps[6]?=some (.pointer (some ⟨g,0,none⟩))/\
 RJ w w' g O S bt N gv la ms kn C D W f R
theorem qs9 (gv:Value) (la:OA) (ms:List EM) (kn:List Kn) (w:World) (h:lO w la ms) (mC:ms.length<=4096) (hg:jZ w [] gv kn) (hd:kn.Pairwise λa b=>a.id≠b.id) (hp:obj.Pw w)
  (hl:∀m∈ms,m.1.data.length<=2147483647) (hb:∀m∈ms,m.1.base.length<=40) (TG:∀x∈af la,x<w.heap.size) (EC:∀m∈ms,∀x∈af m.2,x<w.heap.size) :
  Calls Tryz.prog 19 #[.slice la ms.length ms.length,gv] w (zaF w ms.length (resolve (ms.map (·.1)) kn)):=by
 obtain⟨n,hn⟩:=ai ms.length;obtain⟨R,hR⟩:=ai (resolve (ms.map (·.1)) kn);have TW:gv = .nilFunc\/∃lq cv,gv = .func (.func lq) #[] cv:=by
  rcases hg with⟨rfl,_⟩|⟨lq,cv,rfl,_⟩
  ·exact .inl rfl
  ·exact .inr ⟨lq,cv,rfl⟩
 rw[<-hn]at mC;rw[<-hn,<-hR];have H:=pY h hn hg hd hp hl hb TG EC hR;clear h hn hg hd hp hl hb TG EC hR;obtain⟨Z1,jr,Tf⟩:=qzg n (by omega);obtain⟨Z2,mv,uY,XY,Te⟩:=qtt n (by omega);have HZ:=aG jr mv uY XY;clear jr mv uY XY;go_enter Tryz.func19,Tryz.ntmps19;go_wp2;refine qpp 0 (JR w n gv la ms kn R) yj rfl ?first ?main
 case first=>
  intro main;have HP:=ah main;clear main;have lF:=@run_makeMap Tryz.prog;go_upto_region 1 with fail;go_cut [6] from 6 to 20 (λs6 wz=>∃g O S bt,s6 = .pointer (some ⟨g,0,none⟩)/\wz.heap[g]?=some (.cells #[.slice la n n,.slice (some ⟨O,0,none⟩) n n,.slice (some ⟨S,0,none⟩) n n,gv,.map (some bt)] 96 (0,0))/\
   wz.heap[O]?=some (.cells Z1 34 (0,0))/\wz.heap[S]?=some (.cells Z2 100 (0,0))/\wz.heap[bt]?=some (.map #[] 0)/\O≠S/\w.heap.size<=g/\w.heap.size<=O/\w.heap.size<=S/\w.heap.size<=bt/\g≠O/\g≠S/\Fr [] w wz)
  case first=>
   rcases TW with rfl|⟨lq,cv,rfl⟩
   ·go_region;all_goals go_wp2
    all_goals go_meet
    all_goals refine⟨_,_,_,_,rfl,Bu w _ _ _ _,?_,?_,?_,?_,?_,?_,?_,?_,?_,?_,?_⟩
    all_goals first|exact Bx w _ _ _ _|exact Bw w _ _ _ _|exact Bv w _ _ _ _|omega|exact (((((Fr.refl [] w).alloc _).alloc _).alloc _).alloc _).drew
   ·go_region;all_goals go_wp2
    all_goals go_meet
    all_goals refine⟨_,_,_,_,rfl,Bu w _ _ _ _,?_,?_,?_,?_,?_,?_,?_,?_,?_,?_,?_⟩
    all_goals first|exact Bx w _ _ _ _|exact Bw w _ _ _ _|exact Bv w _ _ _ _|omega|exact (((((Fr.refl [] w).alloc _).alloc _).alloc _).alloc _).drew
  case rest=>
   obtain⟨g,O,S,bt,rfl,iI,zB,lh,oM,hOS,hg0,hO0,Dz,wu,PR,uu,hf⟩:=hcut;clear Tf Te lF TW;have Dr:Rb wc g O S gv (.map (some bt)) la ms Z1 Z2:=by
    obtain⟨h,hn,hg,hd,hp,hl,hb,TG,EC,hR⟩:=H.out;refine⟨by rw[<-hn];exact iI,h.fr hf,zB,by rw[HZ.o0,hn],lh,by rw[HZ.o1,hn],PR,uu,hOS,λx hx=>?_,λm hm x hx=>?_,by omega⟩
    ·have:=TG x hx;exact⟨by omega,by omega⟩
    ·have:=EC m hm x hx;exact⟨by omega,by omega⟩
   have u7:Told wc O S bt 0 kn:=⟨_,0,ay _,⟨#[],0,oM,⟨by simp,MapKept.stamped_empty 0,by simp⟩,ay _,rfl⟩,λid hi=>by cases hi⟩;have aH:=qya g O S gv (.map (some bt)) la ms Z1 Z2 wc Dr (λw' f=>H.out.2.2.2.2.1.fr (hf.step f (λy hy=>by simp at hy;right;rcases hy with rfl|rfl<;>omega))) H.out.2.2.2.2.2.1 (λt ht=>HZ.o2 t (by rw[H.out.2.1];exact ht)) (λt ht=>HZ.l3 t (by rw[H.out.2.1];exact ht));have uH:=ak Dr.ob Dr.sb;have HS:=cJ aH u7 hf hO0 Dz wu;clear aH u7 Dr iI zB lh oM hOS hg0 hO0 Dz wu PR uu hf;go_upto_region 2 with fail;go_wp2_with (go_at_call 47;refine HS.o0.mono ?_;rintro e w2 ⟨rfl,C2,D2,hB⟩;have H2:=ah hB;clear hB);go_step3;rename_i _ hK;have dh:R=gI (rM (ms.map (·.1)) kn (n+1) (gK (ms.map (·.1)))):=by rw[H.out.2.2.2.2.2.2.2.2.2,resolve,bW,H.out.2.1]
   refine hK _ _ (HP.out _ w2 ⟨g,O,S,bt,C2,D2,gK (ms.map (·.1)),0,n+1,rfl,rfl,rfl,rfl,rfl,rfl,rfl,⟨⟨H2.out.rb,H2.out.xX,?_,?_,HS.l3,qwc _⟩,?_,?_,dh⟩⟩)
   ·exact HS.o1.fr H2.out.fr (kC (HS.o1.at_.ne (uH.o0))) (kC (HS.o1.at_.ne (uH.l1)))
   ·exact HS.o2.step H2.out.fr (λy hy=>by have:=HS.l3;simp at hy;right;rcases hy with rfl|rfl<;>omega)
   ·have:=WI (gK (ms.map (·.1)));rw[S3,bW,<-H.out.2.1]at this;omega
   ·rw[<-H.out.2.1,ft];exact ck (KF (show n+1<=4097 by omega) mC) (by decide)
 case main=>
  rintro a1 w1 ⟨g,O,S,bt,C,D,W,N,f,cV,hdf,t0,t1,t4,t5,t6,hJ⟩;have hM:yj a1 w1=bO W:=V5 (by rw[Array.getD_eq_getD_getElem?,t6];rfl) hJ.ri;simp only[hM];obtain⟨u,rfl,hu⟩:=Fg a1 cV hdf;have e0:=lA ((hu 0 (by decide)).symm.trans t0);have e1:=lA ((hu 1 (by decide)).symm.trans t1);have e4:=lA ((hu 4 (by decide)).symm.trans t4);have e5:=lA ((hu 5 (by decide)).symm.trans t5);have e6:=lA ((hu 6 (by decide)).symm.trans t6);rw[e0,e1,e4,e5,e6];clear e0 e1 e4 e5 e6 hu t0 t1 t4 t5 t6 cV hdf hM TW Tf Te;obtain⟨P,hP⟩:=ai (pass (ms.map (·.1)) n 0 W false);have HJ:=ak hJ hP;clear hJ hP;go_wp2;go_loopg [7,25] n (λk s7 s25 wr=>∃i W' C' D' more,s7 = .bool more/\s25 = .int .i64 (i:Nat)/\i+k=n/\RI w wr g O S bt N gv la ms kn C' D' W'/\pass (ms.map (·.1)) k i W' more=P);case atStart=>exact⟨0,W,C,D,false,rfl,rfl,by omega,HJ.out.1.ri,HJ.out.2.symm⟩
  case round=>
   obtain⟨i,W',C',D',more,rfl,rfl,bX,fu,gN⟩:=hrel;by_cases hi:i<n
   ·obtain⟨k,rfl⟩:∃k,gk=k+1:=⟨gk-1,by omega⟩;obtain⟨m,hm⟩:∃m,ms[i]?=some m:=⟨ms[i]'(by rw[<-H.out.2.1];omega),br _⟩;have zF:(ms.map (·.1))[i]?=some m.1:=by rw[iM,hm];rfl
    obtain⟨s,hW⟩:∃s,W'[i]?=some s:=⟨W'[i]'(by rw[fu.xX.len,bW,<-H.out.2.1];omega),br _⟩;rw[Ws (ms.map (·.1)) k i W' more m.1 zF s hW]at gN;have b2:=cell_of fu.rb.box 2;simp only[bF,aT,bP]at b2;rw[<-H.out.2.1]at b2;have y0:wr.cell? ⟨S,i*4,none⟩=some (.bool s.isSome):=by rw[cell_of fu.rb.sb];exact (fu.xX.st i s hW).done
    cases s with
    | some z=>
     rw[if_neg (by simp)]at gN;simp only[Option.isSome_some]at y0;have HR:=ak fu gN;clear fu gN hm zF hW;go_wp2;clear y0 b2;go_roundg k;case measure=>omega
     case rel=>exact⟨i+1,W',C',D',more,rfl,rfl,by omega,HR.o0,HR.l1⟩
    | none=>
     rw[if_pos rfl]at gN;simp only[Option.isSome_none]at y0;have tG:=zft g O S gv (.map (some bt)) la ms C' D' W' i m wr fu.rb fu.xX hm hW (λw' f'=>H.out.2.2.2.2.1.fr (fu.fr.step f' (λy hy=>by have:=fu.new;simp at hy;right;rcases hy with rfl|rfl<;>omega))) (fu.und i m.1 zF hW);generalize sW (ms.map (·.1)) W' i m.1=T at gN tG;cases T with
     | none=>
      have HR:=aw fu gN tG;clear fu gN tG hm zF hW;go_wp2_with (go_at_call 48;refine HR.l1.2.mono ?_;rintro e w2 ⟨rfl,f2⟩;have H2:=ah f2;clear f2);clear y0 b2;go_roundg k;case measure=>omega
      case rel=>exact⟨i+1,W',C',D',more,rfl,rfl,by omega,HR.o0.dQ H2.out,HR.l1.1⟩
     | some z=>
      have HR:=aw fu gN tG;clear fu gN tG hm zF hW;go_wp2_with (go_at_call 48;refine HR.l1.2.mono ?_;rintro e w2 ⟨rfl,f2,C2,D2,lJ,GY⟩;have H2:=aw f2 lJ GY;clear f2 lJ GY);clear y0 b2;go_roundg k;case measure=>omega
      case rel=>exact⟨i+1,W'.set i (some z),C2,D2,true,rfl,rfl,by omega,HR.o0.turn H2.out.1 H2.out.2.1 H2.out.2.2 (HR.o0.und.set i z),HR.l1.1⟩
   ·obtain rfl:i=n:=by omega
    obtain rfl:gk=0:=by omega
    rw[pass]at gN;obtain⟨f',rfl⟩:∃f',f=f'+1:=⟨f-1,by have:=HJ.out.1.fuel;omega⟩;have zN:=HJ.out.1.res;have Dt:=HJ.out.1.fuel;have BU:=HJ.out.1.num;rw[rM,bW,<-H.out.2.1,<-HJ.out.2,<-gN]at zN;simp only at zN;obtain⟨OP,Gk,LS⟩:=SU (ms.map (·.1)) i 0 W false;rw[<-HJ.out.2,<-gN]at OP Gk LS;simp only at OP Gk LS;rw[<-H.out.2.1,Nat.succ_mul]at BU;cases more with
    | true=>
     rw[if_pos rfl]at zN;have bg:bO W'<bO W:=by
      rcases LS rfl with q|q;· cases q
      exact q
     have cR:RJ w wr g O S bt N gv la ms kn C' D' W' f' R:=⟨fu,by omega,by rw[<-H.out.2.1];omega,zN⟩;have HE:=ak cR bg;clear fu gN zN Dt BU OP Gk LS bg cR;go_wp2;go_step3;refine⟨rfl,⟨g,O,S,bt,C',D',W',N,f',rfl,rfl,rfl,rfl,rfl,rfl,rfl,HE.o0⟩,?_⟩;rw[V5 rfl HE.o0.ri];exact HE.l1
    | false=>
     rw[if_neg (by simp)]at zN;have zM:=zhi g O S bt N gv la ms C' D' kn W' wr fu.rb fu.xX fu.told (H.out.2.2.1.up fu.fr (λy hy=>by have:=fu.new;simp at hy;rcases hy with rfl|rfl|rfl<;>omega)) H.out.2.2.2.1 (by omega) H.out.2.2.2.2.2.2.1 (λw' f'=>H.out.2.2.2.2.1.fr (fu.fr.step f' (λy hy=>by have:=fu.new;simp at hy;right;rcases hy with rfl|rfl|rfl<;>omega)));rw[<-H.out.2.1]at zM;obtain⟨K,hK⟩:=ai (ask (ms.map (·.1)) kn i 0 W');rw[<-hK]at zM zN;cases K with
     | some W2=>
      obtain⟨EZ,uz⟩:=SK (ms.map (·.1)) kn i 0 W' hK.symm;have OO:=sU.ask i 0 W' fu.und hK.symm;simp only at zN;have bg:bO W2<bO W:=by omega
      have HR:=dk fu zM zN bg OO (show bO W2<f' by omega) BU;clear fu zM zN bg OO BU gN Dt OP Gk LS EZ uz hK;go_wp2_with (go_at_call 49;refine HR.l1.1.mono ?_;rintro e w2 ⟨t2,rfl,f2,C2,D2,lJ,GY⟩;have H2:=aG f2 lJ GY t2;clear f2 lJ GY t2);go_step3;have cR:RJ w w2 g O S bt (N+ms.length) gv la ms kn C2 D2 W2 f' R:=⟨HR.o0.asked H2.out.1 H2.out.2.1 H2.out.2.2.1 H2.out.2.2.2 HR.l1.2.2.2.1,HR.l1.2.2.2.2.1,by have:=HR.l1.2.2.2.2.2;rw[<-H.out.2.1];omega,HR.l1.2.1⟩;refine⟨rfl,⟨g,O,S,bt,C2,D2,W2,N+ms.length,f',rfl,rfl,rfl,rfl,rfl,rfl,rfl,cR⟩,?_⟩;rw[V5 rfl cR.ri];exact HR.l1.2.2.1
     | none=>
      simp only at zN;have HR:=aw fu zM zN;clear fu zM zN BU gN Dt OP Gk LS hK;go_wp2_with (go_at_call 49;refine HR.l1.1.mono ?_;rintro e w2 ⟨t2,rfl,f2⟩;have H2:=ah (HR.o0.old f2 t2);clear f2 t2);go_loopg [50] i (λk s50 wr=>∃q:Nat,s50 = .int .i64 (q:Nat)/\q+k=i/\Fr [] w2 wr/\∀t,t<q->∃o d,W'[t]?=some (some (.ok (o,d))));case atStart=>exact⟨0,rfl,by omega,Fr.refl _ _,λt ht=>by omega⟩
      case round=>
       obtain⟨q,rfl,hqk,Du,hq⟩:=hrel;have fu:=H2.out.dQ Du;by_cases BO:q<i
       ·obtain⟨k,rfl⟩:∃k,gk=k+1:=⟨gk-1,by omega⟩;obtain⟨s,hW⟩:∃s,W'[q]?=some s:=⟨W'[q]'(by rw[fu.xX.len,bW,<-H.out.2.1];omega),br _⟩;have b2:=cell_of fu.rb.box 2;simp only[bF,aT,bP]at b2;rw[<-H.out.2.1]at b2;have aH:=fu.xX.st q s hW;match s,aH,hW with
        | none,aH,hW=>
         have y0:wr.cell? ⟨S,q*4,none⟩=some (.bool false):=by rw[cell_of fu.rb.sb];exact aH.1
         have B7:=qnz W' q hq hW;have HX:=ak fu B7;clear fu aH hW B7 hq Du;go_wp2;simp only[Exit.jump];go_ret2;refine⟨HX.out.1.fr,?_⟩;rw[HR.l1.2,HX.out.2];rfl
        | some (.error x),aH,hW=>
         have y0:wr.cell? ⟨S,q*4,none⟩=some (.bool true):=by rw[cell_of fu.rb.sb];exact aH.1
         have y1:wr.cell? ⟨S,q*4+1,none⟩=some (.int .i64 x):=by rw[cell_of fu.rb.sb];exact aH.2.1
         have hx:=aH.2.2;have gx:((x:Int)!=0)=true:=by simp;omega
         have B7:=qlt W' q x hq hW;have HX:=ak fu B7;clear fu aH hW B7 hq Du hx;go_upto_region 17 with fail;go_quiet (fail);go_wp2;simp only[Exit.jump];go_ret2;refine⟨HX.out.1.fr.jg _,?_⟩;rw[HR.l1.2,HX.out.2];rfl
        | some (.ok (o,d)),aH,hW=>
         have y0:wr.cell? ⟨S,q*4,none⟩=some (.bool true):=by rw[cell_of fu.rb.sb];exact aH.1
         have y1:wr.cell? ⟨S,q*4+1,none⟩=some (.int .i64 0):=by rw[cell_of fu.rb.sb];exact aH.2.1
         have gx:((0:Int)!=0)=false:=by decide
         have HX:=aw Du hq hW;clear fu aH hW hq Du;go_wp2;go_roundg k;case measure=>omega
         case rel=>
          refine⟨q+1,rfl,by omega,HX.out.1,λt ht=>?_⟩;by_cases htq:t=q
          ·subst htq;exact⟨o,d,HX.out.2.2⟩
          ·exact HX.out.2.1 t (by omega)
       ·obtain rfl:q=i:=by omega
        have b1:=cell_of fu.rb.box 1;simp only[bF,aT,bP]at b1;rw[<-H.out.2.1]at b1;have HX:=ak fu hq;clear fu hq Du;go_wp2;simp only[Exit.jump];go_ret2;have fu:=HX.out.1;obtain⟨os,g1,g2,g3⟩:=qo7 W' (λt ht=>HX.out.2 t (by rw[fu.xX.len,bW,<-H.out.2.1]at ht;exact ht));refine⟨fu.fr,?_⟩;rw[HR.l1.2,g1];refine⟨_,_,rfl,by rw[g2,fu.xX.len,bW,<-H.out.2.1],λj o ho=>?_⟩;obtain⟨d,hd⟩:=g3 j o ho;obtain⟨h0,h1,h2,h3,ba,bc,h4,h5,h6,h7⟩:=fu.xX.st j _ hd;refine⟨O,0,ba,bc,rfl,λi v hv=>?_,h5⟩;rw[ft,cell_of fu.rb.ob];exact h4 i v hv
theorem vP.fr {w w':World} {a:OA} {os:List Obj} (h:vP w a os) (f:Fr [] w w'):vP w' a os:=λi o ho=>by obtain⟨g,k,ba,bc,h1,h2,h3⟩:=h i o ho;exact⟨g,k,ba,bc,h1,λj v hv=>f.cell (h2 j v hv) (by simp),h3.fr f⟩
end pk
namespace os
open Go Go.RowKit lib bm pk
def bare (o:pk.Obj):Int×List UInt8×List UInt8:=(o.kind,o.id,o.body)
theorem qu9 {w:World} {a:OA} {c:Nat} {aK:List OM} (h:gU w a c aK):vP w a (aK.map (·.1)):=λi o ho=>by rw[iM]at ho;obtain⟨m,hm,e⟩:=Option.map_eq_some_iff.1 ho;obtain⟨g,k,ha,hc⟩:=h.cell hm;subst e;exact⟨g,k,m.2.1,m.2.2,ha,hc,h.rd m (gB hm)⟩
theorem qoz (a b:OA) (ca cb:Nat) (os LA:List pk.Obj) (w:World) (ha:vP w a os) (hb:vP w b LA) (he:os.map bare=LA.map bare) (hl:os.length<=1000000) :
  Calls Tryz.prog 16 #[.slice a os.length ca,.slice b LA.length cb] w λe w'=>e = .returned (.bool true)/\Fr [] w w':=by
 have jC:LA.length=os.length:=by have h1:=congrArg List.length he;rw[bW,bW]at h1;exact h1.symm
 rw[jC];obtain⟨n,hn⟩:=ai os.length;rw[<-hn]at hl jC ⊢;have H:=aQ ha hb hn jC he;clear ha hb hn jC he;go_enter Tryz.func16,Tryz.ntmps16;go_wp2;go_loopg [5] n (λk s5 wr=>∃i:Nat,s5 = .int .i64 (i:Nat)/\i+k=n/\Fr [] w wr);case atStart=>exact⟨0,rfl,by omega,Fr.refl _ _⟩
 case round=>
  obtain⟨i,rfl,bX,hf⟩:=hrel;have HF:=ah hf;clear hf;by_cases hi:i<n
  ·obtain⟨k,rfl⟩:∃k,gk=k+1:=⟨gk-1,by omega⟩;obtain⟨x,hx⟩:∃x,os[i]?=some x:=⟨os[i]'(by rw[<-H.out.2.2.1];omega),br _⟩;obtain⟨y,hy⟩:∃y,LA[i]?=some y:=⟨LA[i]'(by rw[H.out.2.2.2.1];omega),br _⟩;have pJ:bare x=bare y:=by have h1:=congrArg (λl=>l[i]?) H.out.2.2.2.2;simpa only[iM,hx,hy,Aj,eJ] using h1
   simp only[bare,fj]at pJ;obtain⟨g,o,ba,bc,rfl,hc,hr⟩:=(H.out.1.fr HF.out) i x hx;obtain⟨g',o',UF,bc',rfl,yG,eS⟩:=(H.out.2.1.fr HF.out) i y hy;have c0:=hc 0 (.int .i64 x.kind) rfl;have c1:=hc 1 (.slice ba x.body.length bc) rfl;have c2:=hc 2 (.string (str x.id)) rfl;have d0:=yG 0 (.int .i64 y.kind) rfl;have d1:=yG 1 (.slice UF y.body.length bc') rfl;have d2:=yG 2 (.string (str y.id)) rfl;rw[<-pJ.1]at d0;rw[<-pJ.2.2]at d1 eS;rw[<-pJ.2.1]at d2;rw[ie]at c0 d0;obtain⟨kd,lG⟩:=ai x.kind;obtain⟨si,mM⟩:=ai (str x.id);obtain⟨bl,bQ⟩:=ai x.body.length;rw[<-lG]at c0 d0;rw[<-bQ]at c1 d1;rw[<-mM]at c2 d2;have cva:∀x1 cap,(convert 23 9 (.slice ba bl cap)).run Tryz.prog (wr.drewN x1) = .ok (.string (str x.body)) (wr.drewN x1):=λx1=>vU _ Tryz.underlying23 Tryz.underlying5 Tryz.underlying9 bQ.symm (hr.fr (Fr.drewN [] wr x1)).cs
   have cvb:∀x1 cap,(convert 23 9 (.slice UF bl cap)).run Tryz.prog (wr.drewN x1) = .ok (.string (str x.body)) (wr.drewN x1):=λx1=>vU _ Tryz.underlying23 Tryz.underlying5 Tryz.underlying9 bQ.symm (eS.fr (Fr.drewN [] wr x1)).cs
   obtain⟨sb,lh⟩:=ai (str x.body);rw[<-lh]at cva cvb;clear hc yG hr eS hx hy lG mM bQ lh pJ;go_upto_region 6 with fail;go_quiet (fail);go_wp2;go_roundg k;case measure=>omega
   case rel=>exact⟨i+1,rfl,by omega,HF.out.jg _⟩
  ·obtain rfl:i=n:=by omega
   go_wp2;go_ret;exact⟨rfl,HF.out⟩
open huf
theorem qq4 {α:Type} (f:α->Nat):∀l l':List α,(l.Pairwise λa b=>f a<f b)->(l'.Pairwise λa b=>f a<f b)->(∀a,a∈l↔a∈l')->l=l'
 | [],[],_,_,_=>rfl
 | [],b::t,_,_,h=>absurd ((h b).2 (by simp)) (by simp)
 | a::t,[],_,_,h=>absurd ((h a).1 (by simp)) (by simp)
 | a::t,b::t',h1,h2,h=>by
  rw[tq]at h1 h2;have e:a=b:=by
   rcases fP.1 ((h a).1 (by simp)) with k|k
   ·exact k
   ·rcases fP.1 ((h b).2 (by simp)) with k'|k'
    ·exact k'.symm
    ·have:=h2.1 a k;have:=h1.1 b k';omega
  subst e;rw[qq4 f t t' h1.2 h2.2 λx=>?_];constructor
  ·intro hx;rcases fP.1 ((h x).1 (tu _ hx)) with k|k
   ·have:=h1.1 x hx;rw[k]at this;omega
   ·exact k
  ·intro hx;rcases fP.1 ((h x).2 (tu _ hx)) with k|k
   ·have:=h2.1 x hx;rw[k]at this;omega
   ·exact k
def kb (x:Int×List UInt8×List UInt8):Nat:=key ⟨x.1,x.2.2,x.2.1,0,0⟩
def txt (o:pk.Obj):Int×List UInt8:=(o.kind,o.body)
theorem zbi {l:List pk.Obj} (hg:∀o∈l,xO o) (hn:pU (l.map txt) (l.map txt).length) {a b:pk.Obj} (ha:a∈l) (hb:b∈l) (h:a.id=b.id):bare a=bare b:=by
 obtain⟨i,hi,rfl⟩:=List.mem_iff_getElem.1 ha;obtain⟨j,hj,rfl⟩:=List.mem_iff_getElem.1 hb;have e:∀t (ht:t<l.length),(l.map txt)[t]?=some (txt l[t]):=λt ht=>by rw[iM,br ht];rfl
 have eo:∀t (ht:t<l.length),mg (txt l[t]).1 (txt l[t]).2=l[t].id:=λt ht=>(hg l[t] (tk ht)).2.2
 have key2:txt l[i]=txt l[j]:=by
  rcases Nat.lt_trichotomy i j with k|k|k
  ·exact hn j i _ _ k (by rw[bW];exact hj) (e j hj) (e i hi) (by rw[eo i hi,eo j hj];exact h)
  ·subst k;rfl
  ·exact (hn i j _ _ k (by rw[bW];exact hi) (e i hi) (e j hj) (by rw[eo i hi,eo j hj];exact h.symm)).symm
 simp only[txt,fj]at key2;simp only[bare,key2.1,key2.2,h]
theorem qrn {l l' r r':List pk.Obj} (hg:∀o∈l,xO o) (hn:pU (l.map txt) (l.map txt).length) (hm:∀o,o∈l↔o∈l') (h:Ordered l r) (h':Ordered l' r'):r.map bare=r'.map bare:=by
 refine qq4 kb _ _ (by rw[D6];exact h.lt) (by rw[D6];exact h'.lt) λx=>⟨λhx=>?_,λhx=>?_⟩
 ·obtain⟨o,ho,rfl⟩:=jo.1 hx;have h1:=h.sub o ho;obtain⟨o',Jj,e⟩:=h'.all o ((hm o).1 h1);rw[zbi hg hn h1 ((hm o').2 (h'.sub o' Jj)) e.symm];exact uL Jj
 ·obtain⟨o,ho,rfl⟩:=jo.1 hx;have h1:=(hm o).2 (h'.sub o ho);obtain⟨o',Jj,e⟩:=h.all o h1;rw[zbi hg hn h1 (h.sub o' Jj) e.symm];exact uL Jj
theorem zg7 {l:List OM} (hl:l.length<=30) (hf:oq ((l.take 40).map (·.1))<=30000):∀r:List pk.Obj,(r.Pairwise λa b=>a≠b)->(∀o∈r,o∈l.map (·.1))->r.length<=l.length/\(r.map λo=>6*o.body.length+130).sum<=900000:=by
 intro r hp hs;have h1:=VJ (λ_=>1) r _ hp hs;have h2:=VJ (λo:pk.Obj=>6*o.body.length+130) r _ hp hs;rw[mL (by omega)]at hf;have h3:∀q:List pk.Obj,(q.map λ_=>1).sum=q.length:=λq=>by
  induction q with
  | nil=>rfl
  | cons a t ih=>rw[gX,Be,ih,bU];omega
 have h4:∀q:List pk.Obj,oq q<=30000->(q.map λo=>6*o.body.length+130).sum<=6*oq q+130*q.length:=λq=>by
  induction q with
  | nil=>intro _;exact ay _
  | cons a t ih=>intro hq;unfold oq at hq ih ⊢;rw[gX,Be]at hq;have:=ih (by omega);rw[gX,Be,gX,Be,bU];omega
 rw[h3,h3,bW]at h1;have h5:=h4 _ hf;rw[bW]at h5;exact⟨h1,by omega⟩
theorem qyz {os:List pk.Obj} {out:LB} {bq bY:LN} (jb:ub os) (hg:∀o∈os,xO o) (h:Pk os (lW os.length) out bq bY) (hn:bq.length=os.length) (tU:os.length<256) (hlen:out.length<=1000000) :
  ∃es res,pread (out++sha.dX out) = .ok (es,gH (sha.dX out))/\es.length=os.length/\pk.resolve es [] = .ok res/\res.length=os.length/\res.map bare=os.map bare:=by
 obtain⟨i1,_⟩:=qyu jb h rfl (by omega);obtain⟨es,h1,h2,h3,h4⟩:=zcw jb h hn tU hlen;refine⟨es,_,h1,h2,qwm jb h3 h4 (by omega) (by omega),by simp[h2],?_⟩;apply D4;intro i;rw[iM,iM,iM];by_cases hi:i<os.length
 ·rw[Iv (by omega),br hi];simp only[Aj,eJ];rw[Lg (br (show i<es.length by omega)) (br hi)];simp only[bare,whole];rw[(hg _ (tk hi)).2.2]
 ·rw[nU (by simp;omega),nU (by omega)];rfl
theorem zhz {w:World} {g n c:Nat} {A0:AV} {f:Nat->Mo} (h:Ow w g 34 A0 n f) (hs:A0.size=c*5) (Jk:n<=c) (hc:c<=maxLen) :
  w.ownsRow 0 34 5 (.slice (some ⟨g,0,none⟩) n c) n (((List.range n).map λi=>(f i).m).flatMap oL):=by
 have h0:=h;obtain⟨A,h1,h2,h3,_,h4⟩:=h0;have hl:(((List.range n).map λi=>(f i).m).flatMap oL).length=n*5:=by rw[IA];simp
 refine⟨hl,.inr ⟨g,c,A,rfl,ep _,h1,Jk,hc,by omega,?_⟩⟩;apply D4;intro k;rw[oX];by_cases hk:k<n*5
 ·rw[if_pos hk,oY];obtain⟨v,hv⟩:∃v,(((List.range n).map λi=>(f i).m).flatMap oL)[k]?=some v:=⟨_,br (by omega)⟩;rcases ze7 (c:=c) h with e|⟨g',o',e,yG⟩
  ·rw[e]at hv;simp at hv
  ·simp only[eJ,ru,and_true]at e;obtain⟨rfl,rfl⟩:=e;have h5:=yG k v hv;rw[ft,cell_of h1]at h5;rw[h5,hv]
 ·rw[if_neg hk,nU (by omega)]
theorem Ow.MO {g:Nat} {T:TypeId} {A0 A:AV} {n x y:Nat} {f:Nat->Mo} (w2:World) (p q:Mo)
  (hs:A.size=A0.size) (hn:5*n<=A.size) (ht:∀j,5*n<=j->A[j]?=A0[j]?)
  (hf:∀i,i<n->∀j,j<5->A[i*5+j]?=(eK (f i).m.1 (f i).m.2.1 (f i).m.2.2)[j]?)
  (hx:x<n) (hy:y<n) (hp:p=f x) (hq:q=f y)
  (h:w2.heap[g]?=some (.cells (jN (jN A x q.m) y p.m) T (0,0))):Ow w2 g T A0 n (swp f y x):=by
 by_cases pJ:x=y
 ·subst pJ;refine⟨_,h,by rw[wI,wI];exact hs,by rw[wI,wI];exact hn,λj hj=>?_,λi hi j hj=>?_⟩
  ·rw[ze _ _ _ _ (.inr (by omega)),ze _ _ _ _ (.inr (by omega))];exact ht j hj
  ·unfold swp;by_cases h1:i=x
   ·subst h1;rw[if_pos rfl,<-hp,Vz _ _ _ (by rw[wI];omega) j hj]
   ·rw[if_neg h1,if_neg h1,ze _ _ _ _ (by omega),ze _ _ _ _ (by omega)];exact hf i hi j hj
 ·exact Ow.swap w2 p q hs hn ht hf hx hy pJ hp hq h
theorem zf1 (f:Nat->Mo) {n x y:Nat} (hx:x<n) (hy:y<n) (m:OM):m∈((List.range n).map λi=>(swp f y x i).m)↔m∈((List.range n).map λi=>(f i).m):=by
 simp only[jo,td];constructor
 ·rintro⟨i,hi,rfl⟩;unfold swp;by_cases h1:i=y
  ·rw[if_pos h1];exact⟨x,hx,rfl⟩
  ·by_cases h2:i=x
   ·rw[if_neg h1,if_pos h2];exact⟨y,hy,rfl⟩
   ·rw[if_neg h1,if_neg h2];exact⟨i,hi,rfl⟩
 ·rintro⟨i,hi,rfl⟩;by_cases h1:i=y
  ·refine⟨x,hx,?_⟩;unfold swp;by_cases h3:x=y
   ·rw[if_pos h3,h1,h3]
   ·rw[if_neg h3,if_pos rfl,h1]
  ·by_cases h2:i=x
   ·refine⟨y,hy,?_⟩;unfold swp;rw[if_pos rfl,h2]
   ·refine⟨i,hi,?_⟩;unfold swp;rw[if_neg h1,if_neg h2]
theorem zg5 (ms:List OM):((List.range ms.length).map λi=>(xI ms i).m)=ms:=by
 apply D4;intro i;rw[iM];by_cases hi:i<ms.length
 ·rw[Iv hi,br hi,Aj,KX (br hi)];rfl
 ·rw[nU (by simp;omega),nU (by omega)];rfl
end os
namespace pk
def Small (l:List ek):Prop:=∀x∈l,x.data.length<=65536/\x.base.length<=40
theorem qrk {bs:LB} {at_:Nat} {x:ek} {p:Nat} (h:ig bs at_ = .ok (x,p)):x.data.length<=65536/\x.base.length<=40:=by
 unfold ig at h;split at h
 ·cases h
 ·rename_i kind size n hh;obtain⟨h1,h2,h3,h4⟩:=M6 _ _ _ _ _ hh;rw[eV]at h3;split at h
  ·cases h
  ·rename_i base off q hb;obtain⟨k1,k2,k3,k4⟩:=qu2 (by omega) hb;split at h
   ·cases h
   ·split at h
    ·rename_i ho;simp only[gW,fj]at h;obtain⟨rfl,rfl⟩:=h;exact⟨by simp only;omega,k3⟩
    ·cases h
theorem qnd (bs:LB):∀(n at_:Nat) (l:List ek) {r:List ek} {p:Nat},Small l->jx bs n at_ l = .ok (r,p)->Small r
 | 0,at_,l,r,p,ha,h=>by
  simp only[jx,gW,fj]at h;rw[<-h.1];exact ha
 | n+1,at_,l,r,p,ha,h=>by
  rw[jx]at h;split at h
  ·cases h
  ·rename_i x q hx;refine qnd bs n q (l++[x]) (λy hy=>?_) h;rcases jw.1 hy with hy|hy
   ·exact ha y hy
   ·obtain rfl:y=x:=by simpa using hy
    exact qrk hx
theorem qtf {bs:LB} {l:List ek} {id:LB} (h:pread bs = .ok (l,id)):Small l:=by
 unfold pread at h;split at h
 ·cases h
 ·split at h
  ·cases h
  ·split at h
   ·cases h
   ·split at h
    ·cases h
    ·split at h
     ·cases h
     ·rename_i l2 at_ hp;split at h
      ·cases h
      ·split at h
       ·cases h
       ·split at h
        ·cases h
        ·simp only[gW,fj]at h;rw[<-h.1];exact qnd bs _ 12 [] (λy hy=>by simp at hy) hp
end pk
namespace os
open Go Go.RowKit lib bm pk huf
theorem quy {w w':World} {a:OA} {c:Nat} {aK:List OM} (h:Made w w' 34 5 a aK.length c (aK.flatMap oL)) (hr:∀m∈aK,lib.Rd w m.2.1 m.2.2 m.1.body):gU w' a c aK:=
 ⟨y9 h.own,h.le,h.max,h.nil,λm hm=>(hr m hm).fr h.fr⟩
theorem qyy (a:OA) (c:Nat) (aK:List OM) (mm:Int) (w:World) (h:gU w a c aK) (hl:aK.length<=200) (hdd:∀r:List pk.Obj,(r.Pairwise λa b=>a≠b)->(∀o∈r,o∈aK.map (·.1))->r.length<=20/\(r.map λo=>6*o.body.length+130).sum<=900000)
  (hg:∀m∈aK,xO m.1) (hp:obj.Pw w) (hm:w.cell? ⟨0,0,none⟩=some (.int .i64 mm)) :
  Calls Tryz.prog 15 #[.slice a aK.length c,.slice none 0 0] w (sV w (aK.map (·.1))):=
 qxv 20 (by decide) VI a c aK.length (aK.map (·.1)) mm w
  ((qwk a c aK w h (by omega) hg hp).mono λe w' ⟨a2,c2,he,M⟩=>⟨a2,c2,aK,he,quy M h.rd,M.fr,rfl⟩)
  (by rw[bW];exact hl) hdd (λo ho=>by obtain⟨m,jB,e⟩:=jo.1 ho;rw[<-e];exact hg m jB) hm
theorem sV.back {w w':World} {l:List pk.Obj} {e:Ending} (h:sV w l e w') (hl:l.length<=200) :
  ∃os bs es id res,Ordered l os/\pread bs = .ok (es,id)/\es.length=os.length/\os.length<=200/\pk.resolve es [] = .ok res/\res.length=es.length/\res.map bare=os.map bare/\aB w bs e w':=by
 obtain⟨os,out,bq,bY,h1,h2,h3,h4,h5,h6,h7,h8,_⟩:=h;obtain⟨es,res,g1,g2,g3,g4,g5⟩:=qyz h4 h3 h5 h6 (by omega) h7;exact⟨os,_,es,_,res,h1,g1,g2,by omega,g3,by omega,g5,h8⟩
structure rh (w w':World) (es:List ek) (la:OA) (ms:List EM):Prop where
 map:ms.map (·.1)=es
 ents:lO w' la ms
 lt:∀y∈af la,y<w'.heap.size
 Oc:∀m∈ms,∀y∈af m.2,y<w'.heap.size
 fr:Fr [] w w'
theorem rh.eG {w w1 w2:World} {es:List ek} {la:OA} {ms:List EM} (h:rh w w1 es la ms) (f:Fr [] w1 w2):rh w w2 es la ms:=
 ⟨h.map,h.ents.fr f,λy hy=>eW (h.lt y hy) f.size,λm hm y hy=>eW (h.Oc m hm y hy) f.size,h.fr.trans f⟩
theorem qre {a:OA} {bs:LB} {es:List ek} {id:LB} {w:World} (h:lib.Rd w a bs.length bs) (hp:pread bs = .ok (es,id)) :
  Calls Tryz.prog 18 #[.slice a bs.length bs.length] w λe w'=>∃la ms,e = .returned (.tuple #[.slice la es.length es.length,.string (str id),.int .i64 0])/\rh w w' es la ms:=by
 have hr:=Sk a bs.length bs w h;rw[hp]at hr;refine hr.mono λe w' hP=>?_
 obtain⟨f,⟨y,hy,_⟩|⟨l',id',a,ms,hp,he,hm,hE,hb,_,hd⟩⟩:=hP
 ·cases hy
 ·cases hp;exact⟨a,ms,he,hm,hE,λy hy=>(hb y hy).2,λm jB y hy=>(hd m jB y hy).2,f⟩
theorem qrs {la:OA} {ms:List EM} {es:List ek} {bs id:LB} {res:List pk.Obj} {w0 w:World} (hE:rh w0 w es la ms) (hb:pread bs = .ok (es,id)) (hl:es.length<=4096) (hR:pk.resolve es [] = .ok res) (dh:res.length=es.length) (hp:obj.Pw w) :
  Calls Tryz.prog 19 #[.slice la es.length es.length,.nilFunc] w λe w'=>∃a c,e = .returned (.tuple #[.slice a res.length c,.int .i64 0])/\vP w' a res/\Fr [] w w':=by
 have vd:=qtf hb;have TM:ms.length=es.length:=by rw[<-hE.map,bW]
 have hr:=qs9 .nilFunc la ms [] w hE.ents (by omega) (.inl ⟨rfl,rfl⟩) (by simp) hp (λm hm=>by have:=(vd m.1 (by rw[<-hE.map];exact uL hm)).1;omega) (λm hm=>(vd m.1 (by rw[<-hE.map];exact uL hm)).2) hE.lt hE.Oc;rw[hE.map,hR,TM]at hr;refine hr.mono λe w' hQ=>?_
 obtain⟨f,a,c,he,_,ho⟩:=hQ;exact⟨a,c,by rw[dh];exact he,ho,f⟩
end os
namespace pk
open Go Go.RowKit lib bm
theorem Sp (w:World):Calls Tryz.prog 8 #[] w λe w'=>e = .returned (.bool true)/\Fr [] w w':=by
 have hlen:(aZ++sha.dX aZ).length=32:=by rw[aA,sha.rN];rfl
 have pb:=qxt w;unfold aB at pb;rw[hlen]at pb;have hh:=λw'=>Ik 3 20 w' (by decide) (by decide)
 have hb:=λw'=>qv5 128 w' (by decide)
 unfold aB at hh hb;have eh:hd 3 20=[180,1]:=by decide
 have eb:(bk 128).reverse=[128,0]:=by decide
 rw[eh]at hh;rw[eb]at hb;have H0:=aw pb hh hb;clear pb hh hb eh eb hlen;go_enter Tryz.func8,Tryz.ntmps8;go_upto_region 2 with (go_at_call 15;refine H0.o0.mono ?_;rintro e w1 ⟨a1,rfl,AZ,nb1,f1⟩);have di:=zco a1 w1 AZ (λx hx=>(nb1 x hx).2);have H1:=ak di f1;clear di f1 AZ nb1;go_upto_region 3 with (go_at_call 18;refine H1.o0.mono ?_;rintro e w2 ⟨⟨s,hs,rfl⟩,f2⟩);go_wp2_with (first
  | (go_at_call 10;refine (H0.o1 _).mono ?_;rintro e w3 ⟨a3,rfl,sr,N9,f3⟩;have cv3:∀c,(convert 23 9 (.slice a3 2 c)).run Tryz.prog w3 = .ok (.string ⟨#[180,1]⟩) w3:=vU w3 Tryz.underlying23 Tryz.underlying5 Tryz.underlying9 (n:=2) (bs:=[180,1]) rfl sr.cs)
  | (go_at_call 9;refine (H0.l2 _).mono ?_;rintro e w4 ⟨a4,rfl,mK,nb4,f4⟩;have cv4:∀c,(convert 23 9 (.slice a4 2 c)).run Tryz.prog w4 = .ok (.string ⟨#[128,0]⟩) w4:=vU w4 Tryz.underlying23 Tryz.underlying5 Tryz.underlying9 (n:=2) (bs:=[128,0]) rfl mK.cs))
 go_ret;exact⟨by first|rfl|simp,H1.l1.trans (f2.trans (f3.trans f4))⟩
end pk

end Go.Proofs.YtkmpfgpfbmeihaaGreatDoor