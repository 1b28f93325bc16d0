/-
  Texts of this proof, one behind the other: OrderIn, OArg.
-/
import Derived.Test.YtkmpfgpfbmeihaaGreatDoorQ27
set_option maxHeartbeats 16000000
set_option maxRecDepth 100000
set_option linter.unusedVariables false
set_option linter.unusedSimpArgs false
namespace Go.Proofs.YtkmpfgpfbmeihaaGreatDoor
namespace os
open Go Go.RowKit lib bm pk huf
set_option maxRecDepth 100000
theorem zc0 (la:OA) (lc:Nat) (aK:List OM) (ba:OA) (bc:Nat) (G6:List Int) (mm:Int) (w:World) (hl:gU w la lc aK) (hb:Cs w ba (G6.map (Value.int .i64 ·))) (bQ:G6.length<=maxLen) (hp:obj.Pw w) (hm:w.cell? ⟨0,0,none⟩=some (.int .i64 mm)) :
  Calls Tryz.prog 4 #[.slice la aK.length lc,.slice ba G6.length bc] w λe w'=>e = .returned (.bool true)/\Fr [] w w':=by
 have mC:=zg6 la lc aK w hl;have TM:aK.length<=maxLen:=ck hl.le hl.max;unfold maxLen at TM bQ;obtain⟨n,hn⟩:=ai aK.length;obtain⟨nb,zD⟩:=ai G6.length;obtain⟨fb,Zd⟩:∃fb:Bool,fb=decide (aK.length<=30/\oq ((aK.take 40).map (·.1))<=30000):=⟨_,rfl⟩;rw[<-Zd]at mC;rw[<-hn]at mC TM ⊢;rw[<-zD]at bQ ⊢;have oe:=λw' (f:Fr [] w w') (h:n<=1000000)=>zdv la lc aK w' (hl.fr f) (by omega)
 rw[<-hn]at oe;have H:=oU mC hl hb hp hm hn zD Zd oe;clear mC hl hb hp hm hn zD Zd oe;go_enter Tryz.func4,Tryz.ntmps4;cases fb with
 | false=>
  go_wp2_with (first
   | (go_at_call 12;refine H.out.1.mono ?_;rintro e w1 ⟨rfl,f1⟩;have H1:=ah f1;clear f1)
   | (go_at_call 8;refine (Sp _).mono ?_;rintro e w2 ⟨rfl,f2⟩;have H2:=ah f2;clear f2))
  go_ret;exact⟨rfl,H1.out.trans H2.out⟩
 | true=>
 by_cases uC:20<n
 ·go_wp2_with (first
   | (go_at_call 12;refine H.out.1.mono ?_;rintro e w1 ⟨rfl,f1⟩;have H1:=ah f1;clear f1)
   | (go_at_call 8;refine (Sp _).mono ?_;rintro e w2 ⟨rfl,f2⟩;have H2:=ah f2;clear f2))
  go_ret;exact⟨rfl,H1.out.trans H2.out⟩
 go_upto_region 4 with (first
  | (go_at_call 12;refine H.out.1.mono ?_;rintro e w1 ⟨rfl,f1⟩;have H1:=ah f1;clear f1)
  | (go_at_call 13;refine (H.out.2.2.2.2.2.2.2.2 _ H1.out (by omega)).mono ?_;rintro e w2 ⟨a2,c2,rfl,M2⟩;have H2:=ah M2;clear M2))
 obtain⟨xs,IZ⟩:=ai (aK.filter gf);obtain⟨nx,xj⟩:=ai xs.length;rw[<-IZ,<-xj];have M2:=H2.out;rw[<-IZ]at M2;have Gg:gU w2 a2 c2 xs:=quy M2 (λm hm=>(H.out.2.1.rd m ((Hz.1 (show m∈aK.filter gf by rw[<-IZ];exact hm)).1)).fr H1.out);have mz:nx<=20:=by have h1:=FY gf aK;rw[<-IZ,<-xj,<-H.out.2.2.2.2.2.1]at h1;omega
 have hxg:∀m∈xs,oS m.1=true:=λm hm=>by rw[IZ]at hm;exact (Hz.1 hm).2
 have f02:Fr [] w w2:=H1.out.trans M2.fr;have HX:=aQ Gg hxg f02 xj IZ;clear Gg hxg f02 M2 xj IZ H2 H1;go_wp2;go_loopg [6,7] nx (λk s6 s7 wr=>∃(i:Nat) (a3:OA) (c3:Nat),s7 = .int .i64 (i:Nat)/\s6 = .slice a3 i c3/\i+k=nx/\Made w2 wr 36 2 a3 i c3 (((xs.take i).map λm=>txt m.1).flatMap tL));case atStart=>exact⟨0,none,0,rfl,rfl,by omega,Made.none _ _ _⟩
 case round=>
  obtain⟨i,a3,c3,rfl,rfl,bX,hM⟩:=hrel;have HM:=ah hM;clear hM;by_cases hi:i<nx
  ·obtain⟨k,rfl⟩:∃k,gk=k+1:=⟨gk-1,by omega⟩;obtain⟨m,hm⟩:∃m,xs[i]?=some m:=⟨xs[i]'(by rw[<-HX.out.2.2.2.1];exact hi),br _⟩;have eF:=HX.out.1.fr HM.out.fr;obtain⟨g,o,rfl,hc⟩:=eF.cell hm;have uu:g∉af a3:=λhy=>by have h1:=HM.out.new g hy;have h2:=HX.out.1.cs.lt (by intro h;have:=congrArg List.length h;rw[IA,<-HX.out.2.2.2.1]at this;simp at this;omega) ⟨g,o,none⟩ rfl;simp only at h2;omega
   have di:=(eF.rd m (gB hm)).fr (Fr.av [] wr);have O0:=HX.out.1.rd m (gB hm);have cH:(xs.take (i+1)).map (λm=>txt m.1)=(xs.take i).map (λm=>txt m.1)++[txt m.1]:=by rw[zj,hm,gF];rfl
   have LM:m.1.body=[]\/∀y∈af m.2.1,y∉af a3:=by
    by_cases cQ:m.1.body=[]
    ·exact .inl cQ
    ·right;intro y hy hya;have h1:=O0.cs.lt (by simpa using cQ);have h2:=HM.out.new y hya;cases hz:m.2.1 with
     | none=>rw[hz]at hy;simp[af]at hy
     | some z=>rw[hz]at hy;have:=h1 z hz;simp[af]at hy;omega
   obtain⟨⟨kd,bs,id,at_,crc⟩,xa,xc⟩:=m;have c0:=hc 0 (.int .i64 kd) rfl;have c1:=hc 1 (.slice xa bs.length xc) rfl;rw[ie]at c0;simp only at di LM cH;obtain⟨S,hS⟩:=ai (af a3);rw[<-hS]at uu LM;obtain⟨D,hD⟩:=ai bs.length;rw[<-hD]at c1;have fd:∀{v:Value} {j:Nat},wr.cell? ⟨g,j,none⟩=some v->∀x,(sup S wr.drew x).cell? ⟨g,j,none⟩=some v:=λh x=>(dY S wr.drew x).cell (show wr.drew.cell? _=_ from h) uu
   have q0:=fd c0;have q1:=fd c1;have cv:∀x cap,(convert 23 9 (.slice xa D cap)).run Tryz.prog (sup S wr.drew x) = .ok (.string (str bs)) (sup S wr.drew x):=λx=>by
    rcases LM with cQ|LM
    ·exact vU (sup S wr.drew x) Tryz.underlying23 Tryz.underlying5 Tryz.underlying9 hD.symm (.inl (by rw[cQ];rfl))
    ·exact qlq S wr.drew Tryz.underlying23 Tryz.underlying5 Tryz.underlying9 hD.symm di.cs LM x
   obtain⟨sb,lh⟩:=ai (str bs);rw[<-lh]at cv;have HT:=aw cH hS lh;clear c0 c1 di O0 LM hD hc cH hS hm fd eF lh;go_upto_region 8 with fail;refine j4 15 [(false,0),(false,1),(false,2),(false,3),(false,4),(false,5),(false,6),(false,7),(false,8),(false,9),(false,10),(false,11),(true,12),(true,13),(true,14)] S (by kernel_rfl) (by kernel_rfl) (λ_ _ d _ _ h=>by cases d<;>exact h) ?_;simp only[jm];refine dT 12 rfl ?_;simp only[bD];repeat (go_big_quiet_step (fail))
   refine wpQuiet_nil ?_;clear q0 q1 cv;refine eT rfl ?_;intro X hX;go_wp2;refine hX.out _ _ (Fr.refl _ _) ?_;clear hX X;refine eT rfl ?_;intro X hX;go_wp2;refine hX.out _ _ ((Fr.refl S wr.drew).alloc _) ?_;clear hX X;have f0:Fr [] wr (wr.alloc (.cells #[.int .i64 kd,.string sb] 36)).drew:=((Fr.refl [] wr).alloc _).drew;have cT:=dr HM.out.own f0 (by simp);have cA:Cs (wr.alloc (.cells #[.int .i64 kd,.string sb] 36)).drew (some ⟨wr.heap.size,0,none⟩) [.int .i64 kd,.string sb]:=
    .inr ⟨wr.heap.size,0,rfl,λj u hj=>by rw[cell_of (show (wr.alloc (.cells #[.int .i64 kd,.string sb] 36)).drew.heap[wr.heap.size]?=some (.cells #[.int .i64 kd,.string sb] 36 (0,0)) from bC wr _),ft,<-oY];exact hj⟩
   refine eT rfl ?_;intro X hX;refine uj zf3 _ _ rfl (.slice a3 i c3) i (((xs.take i).map λm=>txt m.1).flatMap tL) S rfl (by rw[dD,HT.out.2.1]) cT (some ⟨wr.heap.size,0,none⟩) 1 1 [.int .i64 kd,.string sb] rfl (by decide) (by simp) cA (by rfl) (by simp[Value.oneCell']) (by omega) (by unfold maxLen;omega) ?_;intro a4 c4 w4 A1;refine hX.out _ _ A1.fr ?_;clear hX X;have HA:=ah A1;clear A1 cT cA;have HF:=ah f0;clear f0;refine ic ?_;go_wp2;go_roundg k;case measure=>omega
   case rel=>
    have A1:=HA.out;rw[HT.out.2.1]at A1;refine⟨i+1,a4,c4,by go_num,rfl,by omega,?_⟩;have h3:=(HM.out.eG HF.out).app A1;rw[HT.out.1,Bm];have e1:[txt (⟨kd,bs,id,at_,crc⟩:pk.Obj)].flatMap tL=[.int .i64 kd,.string sb]:=by rw[HT.out.2.2];rfl
    rw[e1];exact h3
  ·obtain rfl:i=nx:=by omega
   have hM:=HM.out;have e1:xs.take i=xs:=by rw[HX.out.2.2.2.1,Ie]
   rw[e1]at hM;have fU:=za6 a3 c3 (xs.map λm=>txt m.1) wr (y9 hM.own) (by rw[bW,<-HX.out.2.2.2.1];omega) (λx hx=>by
    obtain⟨m,hm,rfl⟩:=jo.1 hx
    exact (qvt (HX.out.2.1 m hm)).2.1)
   rw[bW,<-HX.out.2.2.2.1]at fU;have HC:=ak fU hM.fr;clear hM fU e1;go_upto_if 56 with (go_at_call 14;refine HC.o0.mono ?_;rintro e w5 ⟨f5,r,rfl,hr⟩;have H5:=ak f5 hr;clear f5 hr);cases r with
   | true=>
    go_wp2_with (go_at_call 8;refine (Sp _).mono ?_;rintro e w2 ⟨rfl,f2⟩;have H2:=ah f2;clear f2);go_ret;exact⟨rfl,HX.out.2.2.1.trans (HC.l1.trans (H5.o0.trans H2.out))⟩
   | false=>
    have f25:Fr [] w2 w5:=HC.l1.trans H5.o0;have hNC:=H5.l1 rfl;have HN:=ak hNC f25;clear hNC f25 H5 HC HM;have Gg:=HX.out.1.fr HN.out.2;have OC:=Gg.cs;have hle:=Gg.le;have hmx:=Gg.max;rw[<-HX.out.2.2.2.1]at hle;have HO:=ah Gg;clear Gg;go_upto_region 12 with (refine gM Nk rfl _ _ rfl (.slice (some ⟨w5.heap.size,0,none⟩) 0 0) 0 [] [w5.heap.size] rfl rfl ⟨rfl,.inr ⟨w5.heap.size,0,#[],rfl,ep _,bC _ _,ay _,ep _,rfl,rfl⟩⟩ a2 i c2 (xs.flatMap oL) rfl hle HO.out.nil (OC.fr ((Fr.refl [] w5).alloc _) (by simp)) (by rw[IA,<-HX.out.2.2.2.1]) (qo0 xs) (by omega) (by unfold maxLen;omega) ?_;intro ya yc w6 A1;simp only[ft,qj]at A1;have HA:=ah A1;clear A1);have PT:Fr [] w5 w6:=((Fr.refl [] w5).alloc _).step HA.out.fr (by simp);have hyn:∀y∈af ya,w5.heap.size<=y:=λy hy=>by have:=HA.out.at_ y hy;simp at this;omega
    have HY:=cJ HA.out.own PT hyn HA.out.le HA.out.max HA.out.nil;clear HA PT hyn OC hle hmx;go_upto_block 2 with fail;go_cut [9,10] from 61 to 99 (λs9 s10 wz=>∃ys:List OM,wz.ownsRow 0 34 5 (.slice ya i yc) i (ys.flatMap oL)/\ys.length=i/\(∀m,m∈ys↔m∈xs)/\Fr [] w5 wz)
    case first=>
     go_wp2;go_loopg [9] (min i nb) (λk s9 wr=>∃(j:Nat) (ys:List OM),s9 = .int .i64 (j:Nat)/\j+k=min i nb/\wr.ownsRow 0 34 5 (.slice ya i yc) i (ys.flatMap oL)/\ys.length=i/\(∀m,m∈ys↔m∈xs)/\Fr [] w5 wr);case atStart=>exact⟨0,xs,rfl,by omega,HY.o0,HX.out.2.2.2.1.symm,λ_=>Iff.rfl,HY.o1⟩
     case round=>
      obtain⟨j,ys,rfl,fx,aI,qB,gy,dR⟩:=hrel;have HJ:=aQ fx aI qB gy dR;clear aI qB gy dR;by_cases hj:j<i
      ·by_cases hjb:j<nb
       ·obtain⟨k,rfl⟩:∃k,gk=k+1:=⟨gk-1,by omega⟩;obtain⟨g,A0,rfl,DB,nT,pM,hO⟩:=zh2 (c:=yc) (ms:=ys) (by rw[HJ.out.2.2.1];exact HJ.out.2.1) (by rw[HJ.out.2.2.1];omega);rw[HJ.out.2.2.1]at pM hO;obtain⟨gb,ob,rfl,zL⟩:=(H.out.2.2.1.fr (HX.out.2.2.1.trans (HN.out.2.trans HJ.out.2.2.2.2)) (by simp)).at (by rw[bW,<-H.out.2.2.2.2.2.2.1];omega);obtain⟨x,hx⟩:∃x,G6[j]?=some x:=⟨G6[j]'(by rw[<-H.out.2.2.2.2.2.2.1];omega),br _⟩;have b0:=zL j (.int .i64 x) (by rw[iM,hx];rfl);obtain⟨K,hK⟩:∃K:Nat,K=((x.tmod (i:Int)+i)%i).toNat:=⟨_,rfl⟩;have hKL:(x.tmod (i:Int)+i)%i=(K:Int)/\K<i/\ -(i:Int)<x.tmod (i:Int)/\x.tmod (i:Int)<i:=by have k1:=Int.lt_tmod_of_pos x (show (0:Int)<i by omega);have k2:=Int.tmod_lt_of_pos x (show (0:Int)<i by omega);have k3:=Int.emod_nonneg (x.tmod (i:Int)+i) (show (i:Int)≠0 by omega);have k4:=Int.emod_lt_of_pos (x.tmod (i:Int)+i) (show (0:Int)<i by omega);omega
        obtain⟨e1,qB,e2,e3⟩:=hKL;have mz:=hj;have HOw:=aG DB nT pM fx;clear hK zL hx DB nT pM;have hD:=hO;clear hO;obtain⟨A,hA,dW,nF,dZ,jG⟩:=hD;obtain⟨cx,lH⟩:=ai ((xI ys) j);obtain⟨cy,lX⟩:=ai ((xI ys) K);have X:=jG j mz;have Y:=jG K qB;rw[<-lH]at X;rw[<-lX]at Y;have d0:wr.cell? ⟨g,j*5,none⟩=some (.int .i64 cx.m.1.kind):=(cell_of hA (j*5)).trans (X 0 (by decide));have d1:wr.cell? ⟨g,j*5+1,none⟩=some (.slice cx.m.2.1 cx.m.1.body.length cx.m.2.2):=(cell_of hA (j*5+1)).trans (X 1 (by decide));have d2:wr.cell? ⟨g,j*5+2,none⟩=some (.string (str cx.m.1.id)):=(cell_of hA (j*5+2)).trans (X 2 (by decide));have d3:wr.cell? ⟨g,j*5+3,none⟩=some (.int .i64 cx.m.1.at_):=(cell_of hA (j*5+3)).trans (X 3 (by decide));have d4:wr.cell? ⟨g,j*5+4,none⟩=some (.int .u32 (cx.m.1.crc:Nat)):=(cell_of hA (j*5+4)).trans (X 4 (by decide));have d5:wr.cell? ⟨g,K*5,none⟩=some (.int .i64 cy.m.1.kind):=(cell_of hA (K*5)).trans (Y 0 (by decide));have d6:wr.cell? ⟨g,K*5+1,none⟩=some (.slice cy.m.2.1 cy.m.1.body.length cy.m.2.2):=(cell_of hA (K*5+1)).trans (Y 1 (by decide));have d7:wr.cell? ⟨g,K*5+2,none⟩=some (.string (str cy.m.1.id)):=(cell_of hA (K*5+2)).trans (Y 2 (by decide));have d8:wr.cell? ⟨g,K*5+3,none⟩=some (.int .i64 cy.m.1.at_):=(cell_of hA (K*5+3)).trans (Y 3 (by decide));have d9:wr.cell? ⟨g,K*5+4,none⟩=some (.int .u32 (cy.m.1.crc:Nat)):=(cell_of hA (K*5+4)).trans (Y 4 (by decide));have iF:=dk hA dW nF dZ jG lH lX;clear hA dW nF dZ jG lH lX X Y;go_upto_region 16 with fail;refine Iy [(0,0),(0,1),(0,2),(0,3),(0,4),(0,5),(0,6),(1,7),(0,8),(0,9),(0,10),(1,11),(0,12),(2,13),(0,14),(2,15)] [g] [13,15] (by kernel_rfl) (by kernel_rfl) (λ_ _ d _ _ h=>by cases d<;>exact h) ?_;simp only[gX,qq,Bq,Bp];refine nN 7 rfl ?_;simp only[bD];repeat (go_big_quiet_step (fail))
        refine wpQuiet_nil ?_;refine x5 1 rfl ?_;simp only[bD];repeat (go_big_quiet_step (fail))
        refine wpQuiet_nil ?_;refine nN 3 rfl ?_;simp only[bD];repeat (go_big_quiet_step (fail))
        refine wpQuiet_nil ?_;refine x5 1 rfl ?_;simp only[bD];repeat (go_big_quiet_step (fail))
        refine wpQuiet_nil ?_;refine nN 1 rfl ?_;simp only[bD];repeat (go_big_quiet_step (fail))
        refine wpQuiet_nil ?_;refine xZ rfl ?_;intro KK hK;have z0:=aW iF.out.1 (j*5);have z1:=aW iF.out.1 (j*5+1);have z2:=aW iF.out.1 (j*5+2);have z3:=aW iF.out.1 (j*5+3);have z4:=aW iF.out.1 (j*5+4);go_wp2;refine hK.out _ _ (Fr.bA (((((((Fr.refl [g] wr).setCell (by simp) _).setCell (by simp) _).setCell (by simp) _).setCell (by simp) _).setCell (by simp) _).drew)) ?_;clear hK KK z0 z1 z2 z3 z4;obtain⟨gV,dJ⟩:∃gV,gV=(((((wr.setCell ⟨g,j*5,none⟩ (.int .i64 cy.m.1.kind)).setCell ⟨g,j*5+1,none⟩ (.slice cy.m.2.1 cy.m.1.body.length cy.m.2.2)).setCell ⟨g,j*5+2,none⟩ (.string (str cy.m.1.id))).setCell ⟨g,j*5+3,none⟩ (.int .i64 cy.m.1.at_)).setCell ⟨g,j*5+4,none⟩ (.int .u32 (cy.m.1.crc:Nat))):=⟨_,rfl⟩;rw[<-dJ];have dI:gV.heap[g]?=some (.cells (jN A j cy.m) 34 (0,0)):=by rw[dJ];exact bI (bI (bI (bI (bI iF.out.1 _) _) _) _) _
        obtain⟨A1,hB⟩:=ai (jN A j cy.m);rw[<-hB]at dI;have z0:=aW dI (K*5);have z1:=aW dI (K*5+1);have z2:=aW dI (K*5+2);have z3:=aW dI (K*5+3);have z4:=aW dI (K*5+4);obtain⟨vv0,c0⟩:∃v,gV.cell? ⟨g,K*5,none⟩=some v:=by rw[cell_of dI];exact⟨_,tr (by rw[hB,wI];have:=iF.out.2.2.1;omega)⟩
        obtain⟨vv1,c1⟩:∃v,gV.cell? ⟨g,K*5+1,none⟩=some v:=by rw[cell_of dI];exact⟨_,tr (by rw[hB,wI];have:=iF.out.2.2.1;omega)⟩
        obtain⟨vv2,c2⟩:∃v,gV.cell? ⟨g,K*5+2,none⟩=some v:=by rw[cell_of dI];exact⟨_,tr (by rw[hB,wI];have:=iF.out.2.2.1;omega)⟩
        obtain⟨vv3,c3⟩:∃v,gV.cell? ⟨g,K*5+3,none⟩=some v:=by rw[cell_of dI];exact⟨_,tr (by rw[hB,wI];have:=iF.out.2.2.1;omega)⟩
        obtain⟨vv4,c4⟩:∃v,gV.cell? ⟨g,K*5+4,none⟩=some v:=by rw[cell_of dI];exact⟨_,tr (by rw[hB,wI];have:=iF.out.2.2.1;omega)⟩
        have AL:=aw dI hB dJ;clear dI hB dJ d0 d1 d2 d3 d4 d5 d6 d7 d8 d9;refine nN 1 rfl ?_;simp only[bD];repeat (go_big_quiet_step (fail))
        refine wpQuiet_nil ?_;refine xZ rfl ?_;intro KK hK;go_wp2;refine hK.out _ _ (Fr.bA (((((((Fr.refl [g] gV).setCell (by simp) _).setCell (by simp) _).setCell (by simp) _).setCell (by simp) _).setCell (by simp) _).drew)) ?_;clear hK KK z0 z1 z2 z3 z4 c0 c1 c2 c3 c4;refine Il ?_;obtain⟨wz,BA⟩:∃wz,wz=(((((gV.setCell ⟨g,K*5,none⟩ (.int .i64 cx.m.1.kind)).setCell ⟨g,K*5+1,none⟩ (.slice cx.m.2.1 cx.m.1.body.length cx.m.2.2)).setCell ⟨g,K*5+2,none⟩ (.string (str cx.m.1.id))).setCell ⟨g,K*5+3,none⟩ (.int .i64 cx.m.1.at_)).setCell ⟨g,K*5+4,none⟩ (.int .u32 (cx.m.1.crc:Nat))):=⟨_,rfl⟩;rw[<-BA];have HZ:Hid (Ow wz g 34 A0 i (swp (xI ys) K j)/\Fr [g] wr wz):=by
         obtain⟨hA,dW,nF,dZ,jG,lH,lX⟩:=iF.out;obtain⟨dI,hB,dJ⟩:=AL.out;have jv:wz.heap[g]?=some (.cells (jN A1 K cx.m) 34 (0,0)):=by rw[BA];exact bI (bI (bI (bI (bI dI _) _) _) _) _
         rw[hB]at jv;exact ah ⟨Ow.MO _ cx cy dW nF dZ jG mz qB lH lX jv,by rw[BA,dJ];exact (((((((((((Fr.refl [g] wr).setCell (by simp) _).setCell (by simp) _).setCell (by simp) _).setCell (by simp) _).setCell (by simp) _).setCell (by simp) _).setCell (by simp) _).setCell (by simp) _).setCell (by simp) _).setCell (by simp) _)⟩
        clear BA e1 e2 e3 b0;go_wp2;go_roundg k;case measure=>have:=HOw.out.2.2.2;omega
        case rel=>
         obtain⟨h1,h2,h3,_⟩:=HOw.out;have hz:=HZ.o0.drew;refine⟨j+1,(List.range i).map λt=>(swp (xI ys) K j t).m,by go_num,by omega,zhz hz h1 h3 h2,by simp,λm=>?_,?_⟩
         ·rw[zf1 (xI ys) mz qB m];have e:=zg5 ys;rw[HJ.out.2.2.1]at e;rw[e];exact HJ.out.2.2.2.1 m
         ·exact HJ.out.2.2.2.2.step HZ.l1.drew (λy hy=>.inr (by simp at hy;rw[hy];exact HY.o2 g (by simp[af])))
       ·go_wp2;go_meet;exact⟨ys,HJ.out.2⟩
      ·obtain rfl:j=i:=by omega
       go_wp2;go_meet;exact⟨ys,HJ.out.2⟩
    case rest=>
     obtain⟨ys,aI,qB,gy,dR⟩:=hcut;generalize wc=w7 at *;have HJ:=aG aI qB gy dR;clear aI qB gy dR;go_upto_region 17 with fail;go_cut [114] from 100 to 114 (λs114 wz=>wz=w7/\∃b:Bool,s114 = .bool b/\(b=true->0<i))
     case first=>
      by_cases h0:0<i
      ·by_cases h1:0<nb
       ·obtain⟨gb,ob,rfl,zL⟩:=(H.out.2.2.1.fr (HX.out.2.2.1.trans (HN.out.2.trans HJ.out.2.2.2)) (by simp)).at (by rw[bW,<-H.out.2.2.2.2.2.2.1];omega);obtain⟨x,hx⟩:∃x,G6[0]?=some x:=⟨G6[0]'(by rw[<-H.out.2.2.2.2.2.2.1];omega),br _⟩;have b0:=zL 0 (.int .i64 x) (by rw[iM,hx];rfl);rw[ie]at b0;clear zL hx;go_wp2;go_meet;exact⟨rfl,_,rfl,λ_=>h0⟩
       ·go_wp2;go_meet;exact⟨rfl,false,rfl,λh=>by cases h⟩
      ·go_wp2;go_meet;exact⟨rfl,false,rfl,λh=>by cases h⟩
     case rest=>
      obtain⟨BA,b,rfl,wu⟩:=hcut;subst BA;have hyO:gU wc ya yc ys:=⟨y9 HJ.out.1,by rw[HJ.out.2.1];exact HY.o3,HY.o4,HY.l5,λm hm=>(HO.out.rd m ((HJ.out.2.2.1 m).1 hm)).fr HJ.out.2.2.2⟩;have HR:=ah hyO;clear hyO;go_upto_if 114 with fail;go_cut [8] from 115 to 120 (λs8 wz=>∃(zs:List OM) (za:OA) (zc:Nat),s8 = .slice za zs.length zc/\gU wz za zc zs/\zs.length<=21/\(∀m,m∈zs↔m∈xs)/\Fr [] w5 wz)
      case first=>
       cases b with
       | false=>
        go_wp2;go_meet;exact⟨ys,ya,yc,by rw[HJ.out.2.1],HR.out,by rw[HJ.out.2.1];omega,HJ.out.2.2.1,HJ.out.2.2.2⟩
       | true=>
        have h0:=wu rfl;obtain⟨m,hm⟩:∃m,ys[0]?=some m:=⟨ys[0]'(by rw[HJ.out.2.1];omega),br _⟩;obtain⟨g,o,rfl,hc⟩:=HR.out.cell hm;have jB:=gB hm;obtain⟨⟨kd,bs,id,at_,crc⟩,xa,xc⟩:=m;have c0:=hc 0 (.int .i64 kd) rfl;have c1:=hc 1 (.slice xa bs.length xc) rfl;have Ke:=hc 2 (.string (str id)) rfl;have c3:=hc 3 (.int .i64 at_) rfl;have c4:=hc 4 (.int .u32 crc) rfl;simp only[Nat.zero_mul,ie]at c0 c1 Ke c3 c4;have HM:=ak jB ((Fr.refl [] wc).alloc (.cells #[.int .i64 kd,.slice xa bs.length xc,.string (str id),.int .i64 at_,.int .u32 crc] 34));clear hc hm jB;go_wp2_with (guard_target =~ wpList _ _ _ (⟨_,Op.call _,_,_,_,_⟩::_) _ _;refine gM Nk rfl _ _ rfl (.slice (some ⟨g,o,none⟩) i yc) i (ys.flatMap oL) (af (some ⟨g,o,none⟩)) rfl (dD _ i yc) (dr HJ.out.1 HM.out.2 (by simp)) (some ⟨wc.heap.size,0,none⟩) 1 1 (oL (⟨kd,bs,id,at_,crc⟩,xa,xc)) rfl (by decide) (by simp) (.inr ⟨wc.heap.size,0,rfl,λj u hj=>by rw[cell_of (bC wc _),ft,<-oY];exact hj⟩) rfl (RN _) (by omega) (by unfold maxLen;omega) ?_;intro a6 c6 w6' A1;have HA:=ah A1;clear A1);go_meet;have yD:Fr [] w5 w6':=(HJ.out.2.2.2.trans HM.out.2).step HA.out.fr (λy hy=>.inr (HY.o2 y hy));have gy:∀m,m∈ys++[((⟨kd,bs,id,at_,crc⟩,xa,xc):OM)]↔m∈xs:=λm=>by
         rw[<-HJ.out.2.2.1 m,jw];constructor
         ·rintro (h|h)
          ·exact h
          ·simp only[iH]at h;rw[h];exact HM.out.1
         ·exact .inl
        have hlen:(ys++[((⟨kd,bs,id,at_,crc⟩,xa,xc):OM)]).length=i+1:=by rw[aA,HJ.out.2.1];rfl
        refine⟨ys++[(⟨kd,bs,id,at_,crc⟩,xa,xc)],a6,c6,by rw[hlen],⟨?_,by rw[hlen];exact HA.out.le,HA.out.max,HA.out.nil,λm hm=>(HO.out.rd m ((gy m).1 hm)).fr yD⟩,by rw[hlen];omega,gy,yD⟩;have h1:=y9 HA.out.own;rw[Bm];simpa using h1
      case rest=>
       obtain⟨zs,za,zc,rfl,XV,v7,Tl,XT⟩:=hcut;generalize wc=w8 at *;have I0:=HO.out.fr XT;have Mf:∀m∈xs,xO m.1:=λm hm=>qvt (HX.out.2.1 m hm)
       have TV:∀m∈zs,xO m.1:=λm hm=>Mf m ((Tl m).1 hm)
       have B9:=of_decide_eq_true H.out.2.2.2.2.2.2.2.1.symm;have EW:∀r:List pk.Obj,(r.Pairwise λa b=>a≠b)->(∀o∈r,o∈xs.map (·.1))->r.length<=20/\(r.map λo=>6*o.body.length+130).sum<=900000:=λr h1 h2=>by
        have h3:=zg7 B9.1 B9.2 r h1 (λo ho=>by
         obtain⟨m,hm,e⟩:=jo.1 (h2 o ho)
         rw[<-e]
         exact uL (Hz.1 (show m∈aK.filter gf by rw[<-HX.out.2.2.2.2];exact hm)).1)
        have h4:=H.out.2.2.2.2.2.1;exact⟨by omega,h3.2⟩
       have YK:∀o,o∈xs.map (·.1)↔o∈zs.map (·.1):=λo=>by simp only[jo];exact⟨λ⟨m,hm,e⟩=>⟨m,(Tl m).2 hm,e⟩,λ⟨m,hm,e⟩=>⟨m,(Tl m).1 hm,e⟩⟩
       have JC:∀r:List pk.Obj,(r.Pairwise λa b=>a≠b)->(∀o∈r,o∈zs.map (·.1))->r.length<=20/\(r.map λo=>6*o.body.length+130).sum<=900000:=λr h1 h2=>EW r h1 (λo ho=>(YK o).2 (h2 o ho))
       have zH:Fr [] w w8:=HX.out.2.2.1.trans (HN.out.2.trans XT);have zF:=HX.out.2.2.2.1;have X8:=λw' (f:Fr [] w8 w')=>qyy a2 c2 xs mm w' (I0.fr f) (by omega) EW Mf (H.out.2.2.2.1.fr (zH.trans f)) ((zH.trans f).cell H.out.2.2.2.2.1 (by simp))
       have BA:=λw' (f:Fr [] w8 w')=>qyy za zc zs mm w' (XV.fr f) (by omega) JC TV (H.out.2.2.2.1.fr (zH.trans f)) ((zH.trans f).cell H.out.2.2.2.2.1 (by simp))
       have qN:∀m:OM,xO m.1->m.1.id.length=40:=λm hm=>by rw[<-hm.2.2];unfold mg;rw[eC,sha.rN]
       have YA:=λw' (f:Fr [] w8 w')=>ND 20 (by decide) VI a2 c2 xs w' (I0.fr f) (by omega) (λr hr=>(EW r (hr.ne.imp λ{x y} h e=>h (by rw[e])) hr.sub).1) (λm hm=>(Mf m hm).2.1) (λm hm=>qN m (Mf m hm))
       have hoz:=λw' (f:Fr [] w8 w')=>ND 20 (by decide) VI za zc zs w' (XV.fr f) (by omega) (λr hr=>(JC r (hr.ne.imp λ{x y} h e=>h (by rw[e])) hr.sub).1) (λm hm=>(TV m hm).2.1) (λm hm=>qN m (TV m hm))
       have Gq:∀r r':List pk.Obj,Ordered (xs.map (·.1)) r->Ordered (zs.map (·.1)) r'->r.map bare=r'.map bare:=λr r' h1 h2=>by
        refine qrn (λo ho=>by obtain⟨m,hm,e⟩:=jo.1 ho;rw[<-e];exact Mf m hm) ?_ YK h1 h2;have h3:=HN.out.1;have e3:(xs.map (·.1)).map txt=xs.map λm=>txt m.1:=by rw[vW];rfl
        rw[e3,bW,<-zF];exact h3
       rw[<-zF]at X8 YA;have GC:(xs.map (·.1)).length<=200:=by rw[bW];omega
       have GB:(zs.map (·.1)).length<=200:=by rw[bW];omega
       have HW:=lv X8 BA YA hoz Gq zH GC GB;obtain⟨nz,TI⟩:=ai zs.length;rw[<-TI]at HW ⊢;clear I0 Mf TV B9 EW JC zH zF X8 BA qN YA hoz Gq YK XV Tl XT GC GB TI;have mT:True:=trivial;go_upto_region 20 with (first
        | (guard_hyp mT:True;go_at_call 15;clear mT;refine (HW.out.1 _ (Fr.refl _ _)).mono ?_;intro e w9 hP;obtain⟨os1,bs1,es1,id1,vS,N5,AZ,l1,Oi,MR,MS,MW,⟨p1,rfl,r1,n1,f1⟩⟩:=sV.back hP HW.out.2.2.2.2.2.2.1;have H1:=oU N5 AZ l1 Oi MR MS MW r1 f1;clear hP N5 AZ l1 Oi MR MS MW r1 n1 f1)
        | (go_at_call 15;refine (HW.out.2.1 _ H1.out.2.2.2.2.2.2.2.2).mono ?_;intro e mS hP;obtain⟨os2,bs2,es2,XQ,KI,N5,AZ,l1,Oi,MR,MS,MW,⟨p2,rfl,r1,n1,f1⟩⟩:=sV.back hP HW.out.2.2.2.2.2.2.2;have H2:=oU N5 AZ l1 Oi MR MS MW r1 f1;clear hP N5 AZ l1 Oi MR MS MW r1 n1 f1))
       have xJ:=H1.out.2.2.2.2.2.2.2.2.trans H2.out.2.2.2.2.2.2.2.2;have HT:=ah xJ;clear xJ;have MN:True:=trivial;go_upto_region 22 with (first
        | (guard_hyp MN:True;go_at_call 17;clear MN;refine (HW.out.2.2.1 _ HT.out).mono ?_;rintro e uG ⟨a5,om5,rfl,O5,_,_,f5,od5,_⟩;have H5:=aw O5 f5 od5;clear O5 f5 od5)
        | (go_at_call 17;refine (HW.out.2.2.2.1 _ (HT.out.trans H5.l1.1)).mono ?_;rintro e gh ⟨a6,om6,rfl,O6,_,_,f6,XI,l6⟩;have hs:=qoz a5 a6 om5.length om6.length (om5.map (·.1)) (om6.map (·.1)) gh (qu9 (H5.o0.fr f6)) (qu9 O6) (HW.out.2.2.2.2.1 _ _ H5.l1.2 XI) (by have h1:=congrArg List.length (HW.out.2.2.2.2.1 _ _ H5.l1.2 XI);simp only[bW]at h1 ⊢;omega);simp only[bW]at hs;have H6:=ak hs (H5.l1.1.trans f6);clear O6 f6 XI l6 hs)
        | (go_at_call 16;refine H6.o0.mono ?_;rintro e jn ⟨rfl,f13⟩;have H7:=ah (H6.l1.trans f13);clear f13))
       have ML:True:=trivial;have MJ:True:=trivial;have MI:True:=trivial;go_upto_region 26 with (first
        | (guard_hyp ML:True;go_at_call 18;clear ML;refine (qre (H1.out.2.2.2.2.2.2.2.1.fr (H2.out.2.2.2.2.2.2.2.2.trans H7.out)) H1.out.2.1).mono ?_;rintro e xV ⟨la1,Oa,rfl,E1⟩;have H8:=ah E1;clear E1)
        | (guard_hyp MJ:True;go_at_call 18;clear MJ;refine (qre (H2.out.2.2.2.2.2.2.2.1.fr (H7.out.trans H8.out.fr)) H2.out.2.1).mono ?_;rintro e nL ⟨la2,LD,rfl,E2⟩;have H9:=ah E2;clear E2)
        | (guard_hyp MI:True;go_at_call 19;clear MI;refine (qrs (H8.out.eG H9.out.fr) H1.out.2.1 (by have h1:=H1.out.2.2.1;have h2:=H1.out.2.2.2.1;omega) H1.out.2.2.2.2.1 H1.out.2.2.2.2.2.1 (H.out.2.2.2.1.fr (HW.out.2.2.2.2.2.1.trans (HT.out.trans (H7.out.trans (H8.out.fr.trans H9.out.fr)))))).mono ?_;rintro e ug ⟨jP,nV,rfl,ob1,f16⟩;have UO:=ak ob1 f16;clear ob1 f16)
        | (go_at_call 19;refine (qrs (H9.out.eG UO.l1) H2.out.2.1 (by have h1:=H2.out.2.2.1;have h2:=H2.out.2.2.2.1;omega) H2.out.2.2.2.2.1 H2.out.2.2.2.2.2.1 (H.out.2.2.2.1.fr (HW.out.2.2.2.2.2.1.trans (HT.out.trans (H7.out.trans (H8.out.fr.trans (H9.out.fr.trans UO.l1))))))).mono ?_;rintro e KH ⟨yg,Bt,rfl,ob2,f17⟩;have wF:=ak ob2 f17;clear ob2 f17))
       have hs:=qoz jP yg nV Bt vS KI KH (UO.o0.fr wF.l1) wF.o0 (by rw[H1.out.2.2.2.2.2.2.1,H2.out.2.2.2.2.2.2.1];exact HW.out.2.2.2.2.1 _ _ H1.out.1 H2.out.1) (by have h1:=H1.out.2.2.1;have h2:=H1.out.2.2.2.1;have h3:=H1.out.2.2.2.2.2.1;omega);have kY:=ah hs;clear hs;go_wp2_with (first
        | (go_at_call 16;refine kY.out.mono ?_;rintro e w18 ⟨rfl,f18⟩;have pC:=ah f18;clear f18)
        | (go_at_call 8;refine (Sp _).mono ?_;rintro e w19 ⟨rfl,f19⟩;have CV:=ah f19;clear f19))
       go_ret;exact⟨rfl,HW.out.2.2.2.2.2.1.trans (HT.out.trans (H7.out.trans (H8.out.fr.trans (H9.out.fr.trans (UO.l1.trans (wF.l1.trans (pC.out.trans CV.out)))))))⟩
end os
namespace os
open Go Go.RowKit Go.ChangeShapes Go.WideShapes lib pk
theorem CI:Tryz.prog.cellsOf 34=5:=by kernel_rfl
theorem zZ:Tryz.prog.cellsOf 3=1:=by kernel_rfl
theorem zY:Tryz.prog.cellsOf 9=1:=by kernel_rfl
theorem zX:Tryz.prog.cellsOf 32=1:=by kernel_rfl
theorem zW:Tryz.prog.cellsOf 23=1:=by kernel_rfl
theorem CH:Tryz.prog.cellsOf 5=1:=by kernel_rfl
theorem CK:Tryz.prog.bytesOf 5=1:=by kernel_rfl
theorem zf5 (s:ByteArray):str s.data.toList=s:=by cases s;rfl
theorem qqx {H:Type} {enc:TypeId×Value->H} {P:Program} {w:World} {base:Nat} {spare:TypeId->Bool} {held:Bool} {t:TypeId} {f0 f1 f2 f3 f4:Field} {fuel:Nat} {cs:LV} {x:DataW H×List MemPlace} (ht:P.underlying t=some (.struct #[f0,f1,f2,f3,f4])) (h:DataW.trod enc P w base spare held fuel t cs=some x) :
  ∃y0 y1 y2 y3 y4 n,x=(.agg [y0.1,y1.1,y2.1,y3.1,y4.1],y0.2++(y1.2++(y2.2++(y3.2++y4.2))))/\cs.length=P.cellsOf t/\DataW.trod enc P w base spare held n f0.type ((cs.drop f0.offset).take (P.cellsOf f0.type))=some y0/\
   DataW.trod enc P w base spare held n f1.type ((cs.drop f1.offset).take (P.cellsOf f1.type))=some y1/\DataW.trod enc P w base spare held n f2.type ((cs.drop f2.offset).take (P.cellsOf f2.type))=some y2/\
   DataW.trod enc P w base spare held n f3.type ((cs.drop f3.offset).take (P.cellsOf f3.type))=some y3/\DataW.trod enc P w base spare held n f4.type ((cs.drop f4.offset).take (P.cellsOf f4.type))=some y4:=by
 obtain⟨xs,n,_,rfl,hl,hlen,hf⟩:=DataW.trod_struct ht h;match xs,hlen with
 | [y0,y1,y2,y3,y4],_=>exact⟨y0,y1,y2,y3,y4,n,by simp,hl,by simpa using hf 0 f0 rfl,by simpa using hf 1 f1 rfl,by simpa using hf 2 f2 rfl,by simpa using hf 3 f3 rfl,by simpa using hf 4 f4 rfl⟩
theorem zc3 {H:Type} {enc:TypeId×Value->H} {w:World} {a:OA} {len cap:Nat} {d:DataW H} {p:List MemPlace}
  (h:DataW.Trod enc Tryz.prog w 0 (λ_=>true) true 27 (.slice a len cap) d p) (hL:gQ Tryz.prog 27 d) :
  ∃aK:List OM,aK.length=len/\gU w a cap aK:=by
 obtain⟨h1,h2,h4,_,h5,h3⟩:=qq7 Tryz.underlying27 CI (by decide) h hL;rcases h3 with rfl|⟨g,o,rfl,h3⟩
 ·exact⟨[],rfl,.inl rfl,ep _,h2,h4,by simp⟩
 ·obtain⟨aK,hl,hks⟩:=qn1 (P:=λi (m:OM)=>(∀j v,(oL m)[j]?=some v->w.cell? ⟨g,o+i*5+j,none⟩=some v)/\lib.Rd w m.2.1 m.2.2 m.1.body) len λi hi=>by
   obtain⟨cs,y,n,hl,hc,ht,hLy,hBy⟩:=h3 i hi;match cs,hl with
   | [x0,x1,x2,x3,x4],_=>
    obtain⟨y0,y1,y2,y3,y4,m,rfl,_,t0,t1,t2,t3,t4⟩:=qqx Tryz.underlying34 ht;simp only[zZ,zY,zX,zW,yf,wO,qs,Dk]at t0 t1 t2 t3 t4;obtain⟨k,e0,_,_⟩:=DataW.trod_int Tryz.underlying3 t0;obtain⟨s2,e2,z2,m2⟩:=DataW.trod_string Tryz.underlying9 t2;obtain⟨k3,e3,_,_⟩:=DataW.trod_int Tryz.underlying3 t3;obtain⟨k4,e4,_,w4⟩:=DataW.trod_int Tryz.underlying32 t4;have wB:gQ Tryz.prog 23 y1.1:=qrt Tryz.underlying34 hLy (j:=1) rfl rfl;obtain⟨ad,dl,dc,bs,e1,hB,ux⟩:=qxe Tryz.underlying23 Tryz.underlying5 CH CK t1 wB;have h40:0<=k4:=by simp[Lit.wf]at w4;exact w4.1
    obtain⟨n4,rfl⟩:∃n4:Nat,k4=(n4:Int):=⟨k4.toNat,by omega⟩;obtain rfl:=hB.length;simp only[KL,and_true]at e0 e1 e2 e3 e4;subst e0 e1 e2 e3 e4;refine⟨(⟨k,bs,s2.data.toList,k3,n4⟩,ad,dc),λj v hv=>hc j v ?_,.IL hB⟩;simp only[oL,eK,zf5]at hv;exact hv
  refine⟨aK,hl,.inr ⟨g,o,rfl,λj v hv=>?_⟩,by omega,h2,h4,λm hm=>?_⟩
  ·have hj:j<aK.length*5:=by rw[<-IA];exact (jq.1 hv).1
   have hi:j/5<aK.length:=by omega
   have e:j=j/5*5+j%5:=by omega
   have hg:=Iu oL 5 (λ_=>rfl) aK (j/5) aK[j/5] (j%5) (br hi) (by omega);rw[<-e]at hg;rw[hg]at hv;have:=(hks (j/5) hi).1 (j%5) v hv;rw[oW,<-e]at this;exact this
  ·obtain⟨i,hi,rfl⟩:=List.getElem_of_mem hm;exact (hks i hi).2
end os

end Go.Proofs.YtkmpfgpfbmeihaaGreatDoor