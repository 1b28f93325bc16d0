/-
  Texts of this proof, one behind the other: SortC, SortD, SortE, SortF.
-/
import Derived.Test.YtbabjlohkniciaaGreatDoorV5
set_option maxHeartbeats 16000000
set_option maxRecDepth 100000
set_option linter.unusedVariables false
set_option linter.unusedSimpArgs false
namespace Go.Proofs.YtbabjlohkniciaaGreatDoor.huf
open Go Go.RowKit lib bm bl
def Wb (f:Nat→Mc):Prop:=∀i,(f i).worth≤2^50
theorem Wb.rot {f:Nat→Mc} (h:Wb f) (a m b:Nat):Wb (rotf f a m b):=λi=>by
 unfold rotf;split
 ·exact h _
 ·split<;>exact h _
theorem Wb.sd {f f':Nat→Mc} {a b:Nat} (h:Wb f) (s:Sd f f' a b):Wb f':=λi=>by
 by_cases hi:i<a∨b≤i
 ·rw[s.out i hi];exact h i
 ·have h1:tg (f' i)∈sg f' a (b-a):=qhj.2 ⟨i-a,by omega,by rw[show a+(i-a)=i from by omega]⟩;obtain⟨t,_,ht⟩:=qhj.1 ((s.stb.mem _).1 h1);have:=congrArg Prod.fst ht;simp only[tg]at this;rw[this];exact h _
def vc (x:Mc):Value:=.agg #[.int .i64 (x.worth:Nat),.slice x.ao x.len x.cap]
def cmpV:Value:=.func (.func 133) #[] #[]
theorem qhx (x y:Mc) (w:World) (hx:x.worth≤2^50) (hy:y.worth≤2^50) :
  Calls Tryz.prog 133 #[vc x,vc y] w λe w'=>e = .returned (.int .i64 ((x.worth:Int)-(y.worth:Int)))∧Fr [] w w':=by
 obtain⟨xw,xa,xl,xc⟩:=x;obtain⟨yw,ya,yl,yc⟩:=y;simp only[vc];simp only at hx hy;go_enter Tryz.func133,Tryz.ntmps133;go_wp2;go_ret;exact⟨rfl,((Fr.refl [] w).alloc _).alloc _⟩
theorem swp_comm (f:Nat→Mc) (x y:Nat):swp f x y=swp f y x:=by funext i;unfold swp;split<;>split<;>simp_all
theorem Dw.fr {w w':World} {g:Nat} {T:TypeId} {A0:Array Value} {n:Nat} {f:Nat→Mc} (h:Dw w g T A0 n f) (k:Fr [] w w'):Dw w' g T A0 n f:=by obtain⟨A,h1,h2⟩:=h;exact⟨A,k.blk h1 (by simp),h2⟩
theorem Dw.drew {w:World} {g:Nat} {T:TypeId} {A0:Array Value} {n:Nat} {f:Nat→Mc} (h:Dw w g T A0 n f):Dw w.drew g T A0 n f:=h.fr (Fr.drew1 [] w)
theorem Dw.cells {w:World} {g:Nat} {T:TypeId} {A0:Array Value} {n:Nat} {f:Nat→Mc} (h:Dw w g T A0 n f) {i:Nat} (hi:i<n) :
  w.cell? ⟨g,i*2,none⟩=some (.int .i64 ((f i).worth:Nat))∧w.cell? ⟨g,i*2+1,none⟩=some (.slice (f i).ao (f i).len (f i).cap):=by
 obtain⟨A,h1,_,_,_,h2⟩:=h;exact⟨(cell_of h1 _).trans (h2 i hi).1,(cell_of h1 _).trans (h2 i hi).2⟩
theorem Dw.cellsN {w:World} {g:Nat} {T:TypeId} {A0:Array Value} {n:Nat} {f:Nat→Mc} (h:Dw w g T A0 n f) {i:Nat} (hi:i<n) (x:World) :
  (sup [] w x).cell? ⟨g,i*2,none⟩=some (.int .i64 ((f i).worth:Nat))∧(sup [] w x).cell? ⟨g,i*2+1,none⟩=some (.slice (f i).ao (f i).len (f i).cap):=
 (h.fr (qes [] w x)).cells hi
theorem Sd.trans' {f f1 f2:Nat→Mc} {a i:Nat} (h:Sd f f1 a i) (h':Sd f1 f2 a (i+1)):Sd f f2 a (i+1):=by
 refine⟨λt ht=>(h'.out t ht).trans (h.out t (by omega)),h'.srt,h'.stb.trans ?_⟩;by_cases ha:a≤i
 ·rw[qcw f1 a i (i+1) ha (by omega),qcw f a i (i+1) ha (by omega)];refine Stb.append h.stb ?_;rw[qee (f:=f1) (f':=f) λt _=>h.out _ (by omega)];exact .refl _
 ·rw[show i+1-a=0 from by omega,qng,qng];exact .refl _
theorem qml (g:Nat) (T:TypeId) (A0:Array Value) (L cap a b:Nat) (f:Nat→Mc) (w:World)
  (h:Dw w g T A0 L f) (ha:a≤b) (hbL:b≤L) (hL:L≤100000) (hwb:Wb f) :
  Calls Tryz.prog 192 #[.slice (some ⟨g,0,none⟩) L cap,.int .i64 (a:Nat),.int .i64 (b:Nat),cmpV] w λe w'=>e = .returned (.tuple #[])∧∃f',Dw w' g T A0 L f'∧Sd f f' a b∧Fr [g] w w':=by
 have H:=zhd3 h hwb ha;clear h hwb;unfold cmpV;go_enter Tryz.func192,Tryz.ntmps192;go_wp2;go_loopg [8,9] (b-a) (λk s8 s9 wr=>∃i:Nat,s8 = .int .i64 (i:Nat)∧i+k=b+1∧a+1≤i∧∃f1,Dw wr g T A0 L f1∧Sd f f1 a (min i b)∧Fr [g] w wr);case atStart=>
  refine⟨a+1,by go_num,by have:=H.l2;omega,qag _,f,H.o0,qnj f a _ ?_,.refl _ w⟩;refine ql3.2 λx y hxy hy=>?_
  obtain rfl:x=y:=by omega
  exact qag _
 case round=>
  obtain⟨i,rfl,hik,hai,f1,hD,hS,hf⟩:=hrel;by_cases hi:i<b
  ·obtain⟨k,rfl⟩:∃k,gk=k+1:=⟨gk-1,by omega⟩;rw[qcs (by omega)]at hS;have hwb1:=H.o1.sd hS;obtain⟨wo,rfl⟩:∃wo:World,wo=wr:=⟨_,rfl⟩;have HX:=zhd5 hD hS hf hwb1 hik;have hiL:i<L:=by omega
   have hi5:i≤100000:=by omega
   clear hD hS hf hwb1 hik;go_wp2;go_loopg [9] (i-a) (λk s9 wr=>∃j:Nat,s9 = .int .i64 (j:Nat)∧j=k+a∧j≤i∧(j<i→(f1 i).worth<(f1 j).worth)∧Dw wr g T A0 L (rotf f1 j i (i+1))∧Fr [g] w wr);case atStart=>exact⟨i,rfl,by omega,qag _,λh=>absurd h (by omega),by rw[qfv f1 i i (i+1) (qag _) (by omega) (.inl rfl)];exact HX.o0,HX.o2⟩
   case round=>
    obtain⟨j,rfl,hjk,hji,hlt,hD,hf⟩:=hrel;by_cases hja:a<j
    ·obtain⟨k2,rfl⟩:∃k2,gk=k2+1:=⟨gk-1,by omega⟩;obtain⟨q,rfl⟩:∃q,j=q+1:=⟨j-1,by omega⟩;have x0:=qem (f:=f1) (a:=q+1) (m:=i) (b:=i+1) (t:=q+1) (qag _) (by omega);rw[show q+1-(q+1)+i=i from by omega]at x0;have x1:=qef (f:=f1) (a:=q+1) (m:=i) (b:=i+1) (t:=q) (by omega) (by omega) (.inl (by omega));have d0:=λx=>hD.drew.cellsN (i:=q+1) (by omega) x
     have d1:=λx=>hD.drew.cellsN (i:=q) (by omega) x
     rw[x0]at d0;rw[x1]at d1;have b0:=HX.o3 i;have b1:=HX.o3 q;obtain⟨p,hp⟩:=zex (f1 i);obtain⟨r,hr⟩:=zex (f1 q);rw[<-hp]at b0 d0;rw[<-hr]at b1 d1;have HI:=zhd6 hp hr hD hf hjk hlt;clear hp hr hD hf hjk hlt x0 x1;have d00:=λx=>(d0 x).1
     have d01:=λx=>(d0 x).2
     have d10:=λx=>(d1 x).1
     have d11:=λx=>(d1 x).2
     clear d0 d1;have e0:((q+1:Nat):Int)-1=(q:Int):=by omega
     have g2:decide ((L:Int)≤((q+1:Nat):Int))=false:=by simp;omega
     have g4:decide ((L:Int)≤(q:Int))=false:=by simp;omega
     obtain⟨j,hj⟩:=zex (q+1);rw[<-hj]at d00 d01 e0 g2 hji hja ⊢;have HJ:=zhd hj;clear hj;go_upto_region 4 with fail;refine qcj 17 [(false,0),(false,1),(false,2),(false,3),(false,4),(false,5),(false,6),(false,7),(false,8),(false,9),(false,10),(false,11),(false,12),(false,13),(true,14),(false,15),(false,16)] [] (by kernel_rfl) (by kernel_rfl) (λ_ _ d _ _ h=>by cases d<;>exact h) ?_;simp only[qak,qap,qbh,qbi,qah,qaj,qce];refine qb9 14 rfl ?_;simp only[qai,qao,qah,qaj,qak,qap];repeat (go_big_quiet_step (fail))
     refine wpQuiet_nil ?_;refine qc5 rfl ?_;intro K hK;go_wp2_with (go_at_call 133;refine (qhx p r wr.drew b0 b1).mono ?_;rintro e w1 ⟨rfl,hf1⟩);refine hK.out _ _ hf1 ?_;clear hK K d00 d01 d10 d11;have H1:=zhd hf1;clear hf1;by_cases hpr:p.worth<r.worth
     ·have g5:decide (((p.worth:Int)-(r.worth:Int))<0)=true:=by simp;omega
      refine qb9 2 rfl ?_;simp only[qai,qao,qah,qaj,qak,qap];repeat (go_big_quiet_step (fail))
      refine wpQuiet_nil ?_;refine qc4 ?_;go_wp2;have hD:Dw w1 g T A0 L (rotf f1 j i (i+1)):=by rw[HJ.out];exact (HI.out.2.2.1.drew).fr H1.out
      have hxl:j<L:=by omega
      have hyl:q<L:=by omega
      have hxy:j≠q:=by have:=HJ.out;omega
      obtain⟨A,hA,hAs,hAn,hAt,hAf⟩:=hD;have X:=hAf j hxl;have Y:=hAf q hyl;obtain⟨cx,hcx⟩:=zex ((rotf f1 j i (i+1)) j);obtain⟨cy,hcy⟩:=zex ((rotf f1 j i (i+1)) q);rw[<-hcx]at X;rw[<-hcy]at Y;obtain⟨cxw,cxa,cxl,cxc⟩:=cx;obtain⟨cyw,cya,cyl,cyc⟩:=cy;have d0:=(cell_of hA (j*2)).trans X.1;have d1:=(cell_of hA (j*2+1)).trans X.2;have d2:=(cell_of hA (q*2)).trans Y.1;have d3:=(cell_of hA (q*2+1)).trans Y.2;simp only at d0 d1 d2 d3;have HSw:=zhd7 hA hAs hAn hAt hAf hcx hcy;clear hA hAs hAn hAt hAf hcx hcy X Y;go_upto_region 6 with fail;refine qf7 [(0,0),(0,1),(0,2),(0,3),(0,4),(0,5),(0,6),(0,7),(0,8),(1,9),(0,10),(0,11),(0,12),(1,13),(0,14),(2,15),(0,16),(2,17)] [g] [15,17] (by kernel_rfl) (by kernel_rfl) (λ_ _ d _ _ h=>by cases d<;>exact h) ?_;simp only[qak,qap,qbh,qbi];refine qdc 9 rfl ?_;simp only[qai,qao,qah,qaj,qak,qap];repeat (go_big_quiet_step (fail))
      refine wpQuiet_nil ?_;refine qd7 1 rfl ?_;simp only[qai,qao,qah,qaj,qak,qap];repeat (go_big_quiet_step (fail))
      refine wpQuiet_nil ?_;refine qdc 3 rfl ?_;simp only[qai,qao,qah,qaj,qak,qap];repeat (go_big_quiet_step (fail))
      refine wpQuiet_nil ?_;refine qd7 1 rfl ?_;simp only[qai,qao,qah,qaj,qak,qap];repeat (go_big_quiet_step (fail))
      refine wpQuiet_nil ?_;refine qdc 1 rfl ?_;simp only[qai,qao,qah,qaj,qak,qap];repeat (go_big_quiet_step (fail))
      refine wpQuiet_nil ?_;refine qfg rfl ?_;intro K hK;have z0:=qay HSw.out.1 (j*2);have z1:=qay HSw.out.1 (j*2+1);go_wp2;refine hK.out _ _ (Fr.from_drew ((((Fr.refl [g] w1).setCell (by simp) _).setCell (by simp) _).drew)) ?_;clear hK K z0 z1;obtain⟨ws1,hws1⟩:∃ws1,ws1=((w1.setCell ⟨g,j*2,none⟩ (.int .i64 (cyw:Nat))).setCell ⟨g,j*2+1,none⟩ (.slice cya cyl cyc)):=⟨_,rfl⟩;rw[<-hws1];have hA1:=qa0 (o:=j*2+1) (qa0 (o:=j*2) HSw.out.1 (.int .i64 cyw)) (.slice cya cyl cyc);rw[<-hws1]at hA1;obtain⟨A1,hB⟩:∃A1,A1=(A.setIfInBounds (j*2) (.int .i64 (cyw:Nat))).setIfInBounds (j*2+1) (.slice cya cyl cyc):=⟨_,rfl⟩;rw[<-hB]at hA1;have z0:=qay hA1 (q*2);have z1:=qay hA1 (q*2+1);have c2:ws1.cell? ⟨g,q*2,none⟩=some (.int .i64 cyw):=by rw[cell_of hA1,hB,qac (by omega),qac (by omega),<-cell_of HSw.out.1];exact d2
      have c3:ws1.cell? ⟨g,q*2+1,none⟩=some (.slice cya cyl cyc):=by rw[cell_of hA1,hB,qac (by omega),qac (by omega),<-cell_of HSw.out.1];exact d3
      have HSy:=zhd3 hA1 hB hws1;clear hA1 hB hws1 d0 d1 d2 d3;refine qdc 1 rfl ?_;simp only[qai,qao,qah,qaj,qak,qap];repeat (go_big_quiet_step (fail))
      refine wpQuiet_nil ?_;refine qfg rfl ?_;intro K hK;go_wp2;refine hK.out _ _ (Fr.from_drew ((((Fr.refl [g] ws1).setCell (by simp) _).setCell (by simp) _).drew)) ?_;clear hK K z0 z1 c2 c3;refine qjw ?_;obtain⟨w2,hw2⟩:∃w2,w2=((ws1.setCell ⟨g,q*2,none⟩ (.int .i64 (cxw:Nat))).setCell ⟨g,q*2+1,none⟩ (.slice cxa cxl cxc)):=⟨_,rfl⟩;rw[<-hw2];have HZ:Hid (Dw w2 g T A0 L (swp (rotf f1 j i (i+1)) q j)∧Fr [g] w1 w2):=by obtain⟨hA,hAs,hAn,hAt,hAf,hcx,hcy⟩:=HSw.out;obtain⟨hA1,hB,hws1⟩:=HSy.out;have hA2:=qa0 (o:=q*2+1) (qa0 (o:=q*2) hA1 (.int .i64 cxw)) (.slice cxa cxl cxc);rw[hB,<-hw2]at hA2;exact zhd ⟨Dw.swap _ cxw cxa cxl cxc cyw cya cyl cyc hAs hAn hAt hAf hxl hyl hcx hcy hA2,by rw[hw2,hws1];exact ((((Fr.refl [g] w1).setCell (by simp) _).setCell (by simp) _).setCell (by simp) _).setCell (by simp) _⟩
      clear hw2;go_wp2;go_roundg k2;case measure=>have:=HI.out.2.2.2.2.1;omega
      case rel=>
       obtain⟨hp,hr,hD,hf,hjk,hlt⟩:=HI.out;have hj:=HJ.out;refine⟨q,by go_num,by omega,by omega,λ_=>by rw[<-hp,<-hr];exact hpr,?_,?_⟩
       ·have:=HZ.out.1;have e:=qr0 f1 i (q+1) (by omega) (by omega);rw[qeo]at e;rw[hj,swp_comm,e]at this;exact this.drew
       ·exact ((hf.drew).trans (H1.out.mono (by simp))).trans HZ.out.2.drew
     ·have g5:decide (((p.worth:Int)-(r.worth:Int))<0)=false:=by simp;omega
      refine qb9 2 rfl ?_;simp only[qai,qao,qah,qaj,qak,qap];repeat (go_big_quiet_step (fail))
      refine wpQuiet_nil ?_;refine qc4 ?_;go_wp2;go_roundg k;case measure=>have:=HX.l4;omega
      case rel=>obtain⟨hp,hr,hD,hf,hjk,hlt⟩:=HI.out;have hj:=HJ.out;have hik:=HX.l4;refine⟨i+1,by go_num,by omega,by omega,rotf f1 j i (i+1),by rw[hj];exact hD.drew.fr H1.out,?_,(hf.drew).trans (H1.out.mono (by simp))⟩;rw[qcs (by omega)];exact HX.o1.trans' (qni f1 a i j (by omega) hji HX.o1.srt (λ_=>by rw[show j-1=q from by omega,<-hr,<-hp];omega) (λh=>by rw[hj]at h ⊢;exact hlt h))
    ·have hje:j=a:=by omega
     have HI:=zhd3 hD hf hlt;have g5:decide ((a:Int)<(j:Int))=false:=by simp;omega
     have HJ:=zhd hje;clear hD hf hlt hjk hje;go_upto_region 4 with fail;refine qcj 17 [(false,0),(false,1),(false,2),(false,3),(false,4),(false,5),(false,6),(false,7),(false,8),(false,9),(false,10),(false,11),(false,12),(false,13),(true,14),(false,15),(false,16)] [] (by kernel_rfl) (by kernel_rfl) (λ_ _ d _ _ h=>by cases d<;>exact h) ?_;simp only[qak,qap,qbh,qbi,qah,qaj,qce];refine qb9 14 rfl ?_;simp only[qai,qao,qah,qaj,qak,qap];repeat (go_big_quiet_step (fail))
     repeat (go_big_quiet_step (fail))
     refine wpQuiet_nil ?_;refine qwf rfl ?_;simp only[Act.put,qyq,List.set_cons_succ,List.set_cons_zero];refine qb9 2 rfl ?_;simp only[qai,qao,qah,qaj,qak,qap];repeat (go_big_quiet_step (fail))
     refine wpQuiet_nil ?_;refine qc4 ?_;go_wp2;go_roundg k;case measure=>have:=HX.l4;omega
     case rel=>obtain⟨hD,hf,hlt⟩:=HI.out;have hik:=HX.l4;have hje:=HJ.out;refine⟨i+1,by go_num,by omega,by omega,rotf f1 j i (i+1),hD.drew,?_,hf.drew⟩;rw[qcs (by omega)];exact HX.o1.trans' (qni f1 a i j (by omega) hji HX.o1.srt (λh=>absurd h (by omega)) hlt)
  ·have HI:=zhd3 hD hS hf;have e:min i b=b:=by omega
   rw[e]at hS;clear hD hf e hik;have HS:=zhd hS;clear hS;go_wp2;(try simp only[Exit.inBlock,Exit.then]);refine bodyPost_end (results_none rfl _ _ _) rfl ?_;exact⟨rfl,f1,HI.out.1,HS.out,HI.out.2.2⟩
def SymOk (g:Nat) (T:TypeId) (A0:Array Value) (L cap a m b:Nat) (f:Nat→Mc) (w:World):Prop:=
 Calls Tryz.prog 193 #[.slice (some ⟨g,0,none⟩) L cap,.int .i64 (a:Nat),.int .i64 (m:Nat),.int .i64 (b:Nat),cmpV] w λe w'=>e = .returned (.tuple #[])∧∃f',Dw w' g T A0 L f'∧Sd f f' a b∧Fr [g] w w'
theorem zb3 (g:Nat) (T:TypeId) (A0:Array Value) (L cap a m b:Nat) (f:Nat→Mc) (w:World)
  (h:Dw w g T A0 L f) (ham:m=a+1) (hmb:m<b) (hbL:b≤L) (hL:L≤100000) (hwb:Wb f) (hB:Srt (sg f m (b-m))):SymOk g T A0 L cap a m b f w:=by
 have H:=zhd4 h ham hmb hB;have e0:(m:Int)-(a:Int)=1:=by omega
 have hab:a<b:=by omega
 clear h hB ham;unfold SymOk cmpV;go_enter Tryz.func193,Tryz.ntmps193;go_upto_block 0 with fail;go_wp2;go_loopg [10,11,12] (b-m) (λk s10 s11 s12 wr=>∃i j:Nat,s10 = .int .i64 (i:Nat)∧s11 = .int .i64 (j:Nat)∧j=i+k∧m≤i∧j≤b∧(m<i→(f (i-1)).worth<(f a).worth)∧(j<b→(f a).worth≤(f j).worth)∧Dw wr g T A0 L f∧Fr [g] w wr);case atStart=>exact⟨m,b,rfl,rfl,by omega,qag _,qag _,λh=>absurd h (by omega),λh=>absurd h (by omega),H.o0,.refl _ w⟩
 case round=>
  obtain⟨i,j,rfl,rfl,hk,h1,h2,h3,h4,hD,hf⟩:=hrel;by_cases hij:i<j
  ·obtain⟨s,hs⟩:=zex (i+j);have e1:(i:Int)+(j:Int)=(s:Int):=by omega
   obtain⟨hh,hhh⟩:=zex (s/2);have e2:(s:Int)/2=(hh:Int):=by omega
   have hhL:hh<L:=by omega
   have hsb:s≤200000:=by omega
   have HI:=zhd6 hk h3 h4 hf hs hhh;clear hk h3 h4 hf hs hhh;have g2:decide ((L:Int)≤(hh:Int))=false:=by simp;omega
   have g4:decide ((L:Int)≤(a:Int))=false:=by simp;omega
   have dd0:=λx=>hD.drew.cellsN (i:=hh) (by omega) x
   have dd1:=λx=>hD.drew.cellsN (i:=a) (by omega) x
   have bb0:=hwb (hh);have bb1:=hwb (a);obtain⟨p,hp⟩:=zex ((f) (hh));obtain⟨r,hr⟩:=zex ((f) (a));rw[<-hp]at bb0 dd0;rw[<-hr]at bb1 dd1;have d00:=λx=>(dd0 x).1
   have d01:=λx=>(dd0 x).2
   have d10:=λx=>(dd1 x).1
   have d11:=λx=>(dd1 x).2
   have HP:=zhd3 hp hr hD;clear hp hr hD dd0 dd1;go_upto_region 5 with fail;refine qcj 11 [(false,0),(false,1),(false,2),(false,3),(false,4),(false,5),(false,6),(false,7),(false,8),(true,9),(false,10)] [] (by kernel_rfl) (by kernel_rfl) (λ_ _ d _ _ h=>by cases d<;>exact h) ?_;simp only[qak,qap,qbh,qbi,qah,qaj,qce];refine qb9 9 rfl ?_;simp only[qai,qao,qah,qaj,qak,qap];repeat (go_big_quiet_step (fail))
   refine wpQuiet_nil ?_;refine qc5 rfl ?_;intro K hK;go_wp2_with (go_at_call 133;refine (qhx p r wr.drew bb0 bb1).mono ?_;rintro e w1 ⟨rfl,hf1⟩);refine hK.out _ _ hf1 ?_;clear hK K d00 d01 d10 d11;have HC:Hid (Dw w1 g T A0 L (f)∧Fr [] wr w1):=zhd ⟨HP.out.2.2.drew.fr hf1,(Fr.drew1 [] wr).trans hf1⟩;clear hf1;clear g2 g4;by_cases hpr:p.worth<r.worth
   ·have g5:decide (((p.worth:Int)-(r.worth:Int))<0)=true:=by simp;omega
    refine qb9 1 rfl ?_;simp only[qai,qao,qah,qaj,qak,qap];repeat (go_big_quiet_step (fail))
    refine wpQuiet_nil ?_;refine qc4 ?_;go_wp2;go_roundg (j-(hh+1));case measure=>have:=HI.out.1;have:=HI.out.2.2.2.2;omega
    case rel=>obtain⟨hk,h3,h4,hf,hs,hhh⟩:=HI.out;obtain⟨hp,hr,hD⟩:=HP.out;refine⟨hh+1,j,by go_num,rfl,by omega,by omega,h2,λ_=>by rw[qeo,<-hp,<-hr];exact hpr,h4,HC.out.1,hf.trans (HC.out.2.mono (by simp))⟩
   ·have g5:decide (((p.worth:Int)-(r.worth:Int))<0)=false:=by simp;omega
    refine qb9 1 rfl ?_;simp only[qai,qao,qah,qaj,qak,qap];repeat (go_big_quiet_step (fail))
    refine wpQuiet_nil ?_;refine qc4 ?_;go_wp2;go_roundg (hh-i);case measure=>have:=HI.out.1;have:=HI.out.2.2.2.2;omega
    case rel=>obtain⟨hk,h3,h4,hf,hs,hhh⟩:=HI.out;obtain⟨hp,hr,hD⟩:=HP.out;refine⟨i,hh,rfl,rfl,by omega,h1,by omega,h3,λ_=>by rw[<-hp,<-hr];omega,HC.out.1,hf.trans (HC.out.2.mono (by simp))⟩
  ·obtain rfl:i=j:=by omega
   have HI:=zhd4 h3 h4 hD hf;clear h3 h4 hD hf hk;obtain⟨q,hq⟩:=zex (i-1);have e1:(i:Int)-1=(q:Int):=by omega
   have ham:m=a+1:=H.o1;have hqa:a≤q:=by omega
   have hqi:i=q+1:=by omega
   clear ham;have HQ:=zhd2 hq hqi;clear hq hqi;go_wp2;go_loopg [13] (q-a) (λk s13 wr=>∃t:Nat,s13 = .int .i64 (t:Nat)∧t+k=q∧a≤t∧Dw wr g T A0 L (rotf f a (a+1) (t+1))∧Fr [g] w wr);case atStart=>exact⟨a,rfl,by omega,qag _,by rw[qfv f a (a+1) (a+1) (by omega) (qag _) (.inr rfl)];exact HI.out.2.2.1,HI.out.2.2.2⟩
   case round=>
    obtain⟨t,rfl,htk,hat,hD,hf⟩:=hrel;by_cases ht:t<q
    ·obtain⟨k2,rfl⟩:∃k2,gk=k2+1:=⟨gk-1,by omega⟩;obtain⟨wo,rfl⟩:∃wo:World,wo=wr:=⟨_,rfl⟩;obtain⟨y,hy⟩:=zex (t+1);have e2:(t:Int)+1=(y:Int):=by omega
     have hqL:q<L:=by have:=HQ.out.2;omega
     have hxl:t<L:=by omega
     have hyl:y<L:=by omega
     have hxy:t≠y:=by omega
     have g2:decide ((L:Int)≤(t:Int))=false:=by simp;omega
     have g4:decide ((L:Int)≤(y:Int))=false:=by simp;omega
     have HJ:=zhd3 hf htk hy;clear hf htk hy;obtain⟨A,hA,hAs,hAn,hAt,hAf⟩:=hD;have X:=hAf t hxl;have Y:=hAf y hyl;obtain⟨cx,hcx⟩:=zex ((rotf f a (a+1) (t+1)) t);obtain⟨cy,hcy⟩:=zex ((rotf f a (a+1) (t+1)) y);rw[<-hcx]at X;rw[<-hcy]at Y;obtain⟨cxw,cxa,cxl,cxc⟩:=cx;obtain⟨cyw,cya,cyl,cyc⟩:=cy;have d0:=(cell_of hA (t*2)).trans X.1;have d1:=(cell_of hA (t*2+1)).trans X.2;have d2:=(cell_of hA (y*2)).trans Y.1;have d3:=(cell_of hA (y*2+1)).trans Y.2;simp only at d0 d1 d2 d3;have HSw:=zhd7 hA hAs hAn hAt hAf hcx hcy;clear hA hAs hAn hAt hAf hcx hcy X Y;go_upto_region 11 with fail;refine qf7 [(0,0),(0,1),(0,2),(0,3),(0,4),(0,5),(0,6),(0,7),(0,8),(1,9),(0,10),(0,11),(0,12),(1,13),(0,14),(2,15),(0,16),(2,17)] [g] [15,17] (by kernel_rfl) (by kernel_rfl) (λ_ _ d _ _ h=>by cases d<;>exact h) ?_;simp only[qak,qap,qbh,qbi];refine qdc 9 rfl ?_;simp only[qai,qao,qah,qaj,qak,qap];repeat (go_big_quiet_step (fail))
     refine wpQuiet_nil ?_;refine qd7 1 rfl ?_;simp only[qai,qao,qah,qaj,qak,qap];repeat (go_big_quiet_step (fail))
     refine wpQuiet_nil ?_;refine qdc 3 rfl ?_;simp only[qai,qao,qah,qaj,qak,qap];repeat (go_big_quiet_step (fail))
     refine wpQuiet_nil ?_;refine qd7 1 rfl ?_;simp only[qai,qao,qah,qaj,qak,qap];repeat (go_big_quiet_step (fail))
     refine wpQuiet_nil ?_;refine qdc 1 rfl ?_;simp only[qai,qao,qah,qaj,qak,qap];repeat (go_big_quiet_step (fail))
     refine wpQuiet_nil ?_;refine qfg rfl ?_;intro K hK;have z0:=qay HSw.out.1 (t*2);have z1:=qay HSw.out.1 (t*2+1);go_wp2;refine hK.out _ _ (Fr.from_drew ((((Fr.refl [g] wo).setCell (by simp) _).setCell (by simp) _).drew)) ?_;clear hK K z0 z1;obtain⟨ws1,hws1⟩:∃ws1,ws1=((wo.setCell ⟨g,t*2,none⟩ (.int .i64 (cyw:Nat))).setCell ⟨g,t*2+1,none⟩ (.slice cya cyl cyc)):=⟨_,rfl⟩;rw[<-hws1];have hA1:=qa0 (o:=t*2+1) (qa0 (o:=t*2) HSw.out.1 (.int .i64 cyw)) (.slice cya cyl cyc);rw[<-hws1]at hA1;obtain⟨A1,hB⟩:∃A1,A1=(A.setIfInBounds (t*2) (.int .i64 (cyw:Nat))).setIfInBounds (t*2+1) (.slice cya cyl cyc):=⟨_,rfl⟩;rw[<-hB]at hA1;have z0:=qay hA1 (y*2);have z1:=qay hA1 (y*2+1);have c2:ws1.cell? ⟨g,y*2,none⟩=some (.int .i64 cyw):=by rw[cell_of hA1,hB,qac (by omega),qac (by omega),<-cell_of HSw.out.1];exact d2
     have c3:ws1.cell? ⟨g,y*2+1,none⟩=some (.slice cya cyl cyc):=by rw[cell_of hA1,hB,qac (by omega),qac (by omega),<-cell_of HSw.out.1];exact d3
     have HSy:=zhd3 hA1 hB hws1;clear hA1 hB hws1 d0 d1 d2 d3;refine qdc 1 rfl ?_;simp only[qai,qao,qah,qaj,qak,qap];repeat (go_big_quiet_step (fail))
     refine wpQuiet_nil ?_;refine qfg rfl ?_;intro K hK;go_wp2;refine hK.out _ _ (Fr.from_drew ((((Fr.refl [g] ws1).setCell (by simp) _).setCell (by simp) _).drew)) ?_;clear hK K z0 z1 c2 c3;refine qjw ?_;obtain⟨w2,hw2⟩:∃w2,w2=((ws1.setCell ⟨g,y*2,none⟩ (.int .i64 (cxw:Nat))).setCell ⟨g,y*2+1,none⟩ (.slice cxa cxl cxc)):=⟨_,rfl⟩;rw[<-hw2];have HZ:Hid (Dw w2 g T A0 L (swp (rotf f a (a+1) (t+1)) y t)∧Fr [g] wo w2):=by obtain⟨hA,hAs,hAn,hAt,hAf,hcx,hcy⟩:=HSw.out;obtain⟨hA1,hB,hws1⟩:=HSy.out;have hA2:=qa0 (o:=y*2+1) (qa0 (o:=y*2) hA1 (.int .i64 cxw)) (.slice cxa cxl cxc);rw[hB,<-hw2]at hA2;exact zhd ⟨Dw.swap _ cxw cxa cxl cxc cyw cya cyl cyc hAs hAn hAt hAf hxl hyl hcx hcy hA2,by rw[hw2,hws1];exact ((((Fr.refl [g] wo).setCell (by simp) _).setCell (by simp) _).setCell (by simp) _).setCell (by simp) _⟩
     clear hw2;clear g2 g4;go_wp2;go_roundg k2;case measure=>have:=HJ.out.2.1;omega
     case rel=>obtain⟨hf,htk,hy⟩:=HJ.out;refine⟨y,by go_num,by omega,by omega,?_,hf.trans HZ.out.2.drew⟩;have:=HZ.out.1;rw[hy,swp_comm,zc6 f a t hat]at this;rw[hy];exact this.drew
    ·obtain rfl:t=q:=by omega
     have HJ:=zhd2 hD hf;clear hD hf htk;go_wp2;(try simp only[Exit.inBlock,Exit.then]);refine bodyPost_ret (results_none rfl _ _ _) rfl ?_;obtain⟨hq,hqi⟩:=HQ.out;refine⟨rfl,_,HJ.out.1,?_,HJ.out.2⟩;rw[<-hqi];have ham:m=a+1:=H.o1;exact zb6 f a i b (by omega) h2 (by have:=H.l3;rw[ham]at this;exact this) (λh=>HI.out.1 (by omega)) (λh=>HI.out.2.1 h)
theorem zb2 (g:Nat) (T:TypeId) (A0:Array Value) (L cap a m b:Nat) (f:Nat→Mc) (w:World)
  (h:Dw w g T A0 L f) (ham:a<m) (hne:m≠a+1) (hmb:b=m+1) (hbL:b≤L) (hL:L≤100000) (hwb:Wb f) (hA:Srt (sg f a (m-a))):SymOk g T A0 L cap a m b f w:=by
 have H:=zhd4 h ham hmb hA;have e00:(((m:Int)-(a:Int))==1)=false:=by simp only[beq_eq_false_iff_ne];omega
 have e0:(b:Int)-(m:Int)=1:=by omega
 have hab:a<b:=by omega
 have hmL:m<L:=by omega
 clear h hA hmb hne;unfold SymOk cmpV;go_enter Tryz.func193,Tryz.ntmps193;go_upto_block 4 with fail;go_wp2;go_loopg [14,15,16] (m-a) (λk s14 s15 s16 wr=>∃i j:Nat,s14 = .int .i64 (i:Nat)∧s15 = .int .i64 (j:Nat)∧j=i+k∧a≤i∧j≤m∧(a<i→(f (i-1)).worth≤(f m).worth)∧(j<m→(f m).worth<(f j).worth)∧Dw wr g T A0 L f∧Fr [g] w wr);case atStart=>exact⟨a,m,rfl,rfl,by omega,qag _,qag _,λh=>absurd h (by omega),λh=>absurd h (by omega),H.o0,.refl _ w⟩
 case round=>
  obtain⟨i,j,rfl,rfl,hk,h1,h2,h3,h4,hD,hf⟩:=hrel;by_cases hij:i<j
  ·obtain⟨s,hs⟩:=zex (i+j);have e1:(i:Int)+(j:Int)=(s:Int):=by omega
   obtain⟨hh,hhh⟩:=zex (s/2);have e2:(s:Int)/2=(hh:Int):=by omega
   have hhL:hh<L:=by omega
   have hsb:s≤200000:=by omega
   have HI:=zhd6 hk h3 h4 hf hs hhh;clear hk h3 h4 hf hs hhh;have g2:decide ((L:Int)≤(hh:Int))=false:=by simp;omega
   have g4:decide ((L:Int)≤(m:Int))=false:=by simp;omega
   have dd0:=λx=>hD.drew.cellsN (i:=m) (by omega) x
   have dd1:=λx=>hD.drew.cellsN (i:=hh) (by omega) x
   have bb0:=hwb (m);have bb1:=hwb (hh);obtain⟨p,hp⟩:=zex ((f) (m));obtain⟨r,hr⟩:=zex ((f) (hh));rw[<-hp]at bb0 dd0;rw[<-hr]at bb1 dd1;have d00:=λx=>(dd0 x).1
   have d01:=λx=>(dd0 x).2
   have d10:=λx=>(dd1 x).1
   have d11:=λx=>(dd1 x).2
   have HP:=zhd3 hp hr hD;clear hp hr hD dd0 dd1;go_upto_region 17 with fail;refine qcj 12 [(false,0),(false,1),(false,2),(false,3),(false,4),(false,5),(false,6),(false,7),(false,8),(true,9),(false,10),(false,11)] [] (by kernel_rfl) (by kernel_rfl) (λ_ _ d _ _ h=>by cases d<;>exact h) ?_;simp only[qak,qap,qbh,qbi,qah,qaj,qce];refine qb9 9 rfl ?_;simp only[qai,qao,qah,qaj,qak,qap];repeat (go_big_quiet_step (fail))
   refine wpQuiet_nil ?_;refine qc5 rfl ?_;intro K hK;go_wp2_with (go_at_call 133;refine (qhx p r wr.drew bb0 bb1).mono ?_;rintro e w1 ⟨rfl,hf1⟩);refine hK.out _ _ hf1 ?_;clear hK K d00 d01 d10 d11;have HC:Hid (Dw w1 g T A0 L (f)∧Fr [] wr w1):=zhd ⟨HP.out.2.2.drew.fr hf1,(Fr.drew1 [] wr).trans hf1⟩;clear hf1;clear g2 g4;by_cases hpr:p.worth<r.worth
   ·have g5:decide (((p.worth:Int)-(r.worth:Int))<0)=true:=by simp;omega
    refine qb9 2 rfl ?_;simp only[qai,qao,qah,qaj,qak,qap];repeat (go_big_quiet_step (fail))
    refine wpQuiet_nil ?_;refine qc4 ?_;go_wp2;go_roundg (hh-i);case measure=>have:=HI.out.1;have:=HI.out.2.2.2.2;omega
    case rel=>obtain⟨hk,h3,h4,hf,hs,hhh⟩:=HI.out;obtain⟨hp,hr,hD⟩:=HP.out;refine⟨i,hh,rfl,rfl,by omega,h1,by omega,h3,λ_=>by rw[<-hp,<-hr];exact hpr,HC.out.1,hf.trans (HC.out.2.mono (by simp))⟩
   ·have g5:decide (((p.worth:Int)-(r.worth:Int))<0)=false:=by simp;omega
    refine qb9 2 rfl ?_;simp only[qai,qao,qah,qaj,qak,qap];repeat (go_big_quiet_step (fail))
    refine wpQuiet_nil ?_;refine qc4 ?_;go_wp2;go_roundg (j-(hh+1));case measure=>have:=HI.out.1;have:=HI.out.2.2.2.2;omega
    case rel=>obtain⟨hk,h3,h4,hf,hs,hhh⟩:=HI.out;obtain⟨hp,hr,hD⟩:=HP.out;refine⟨hh+1,j,by go_num,rfl,by omega,by omega,h2,λ_=>by rw[qeo,<-hp,<-hr];omega,h4,HC.out.1,hf.trans (HC.out.2.mono (by simp))⟩
  ·obtain rfl:i=j:=by omega
   have HI:=zhd4 h3 h4 hD hf;clear h3 h4 hD hf hk;go_wp2;go_loopg [17] (m-i) (λk s17 wr=>∃t:Nat,s17 = .int .i64 (t:Nat)∧t=i+k∧t≤m∧Dw wr g T A0 L (rotf f t m (m+1))∧Fr [g] w wr);case atStart=>exact⟨m,rfl,by omega,qag _,by rw[qfv f m m (m+1) (by omega) (by omega) (.inl rfl)];exact HI.out.2.2.1,HI.out.2.2.2⟩
   case round=>
    obtain⟨t,rfl,htk,htm,hD,hf⟩:=hrel;by_cases ht:i<t
    ·obtain⟨k2,rfl⟩:∃k2,gk=k2+1:=⟨gk-1,by omega⟩;obtain⟨wo,rfl⟩:∃wo:World,wo=wr:=⟨_,rfl⟩;obtain⟨y,hy⟩:=zex (t-1);have e2:(t:Int)-1=(y:Int):=by omega
     have hxl:t<L:=by omega
     have hyl:y<L:=by omega
     have hxy:t≠y:=by omega
     have g2:decide ((L:Int)≤(t:Int))=false:=by simp;omega
     have g4:decide ((L:Int)≤(y:Int))=false:=by simp;omega
     have HJ:=zhd3 hf htk hy;clear hf htk hy;obtain⟨A,hA,hAs,hAn,hAt,hAf⟩:=hD;have X:=hAf t hxl;have Y:=hAf y hyl;obtain⟨cx,hcx⟩:=zex ((rotf f t m (m+1)) t);obtain⟨cy,hcy⟩:=zex ((rotf f t m (m+1)) y);rw[<-hcx]at X;rw[<-hcy]at Y;obtain⟨cxw,cxa,cxl,cxc⟩:=cx;obtain⟨cyw,cya,cyl,cyc⟩:=cy;have d0:=(cell_of hA (t*2)).trans X.1;have d1:=(cell_of hA (t*2+1)).trans X.2;have d2:=(cell_of hA (y*2)).trans Y.1;have d3:=(cell_of hA (y*2+1)).trans Y.2;simp only at d0 d1 d2 d3;have HSw:=zhd7 hA hAs hAn hAt hAf hcx hcy;clear hA hAs hAn hAt hAf hcx hcy X Y;go_upto_region 23 with fail;refine qf7 [(0,0),(0,1),(0,2),(0,3),(0,4),(0,5),(0,6),(0,7),(0,8),(1,9),(0,10),(0,11),(0,12),(1,13),(0,14),(2,15),(0,16),(2,17)] [g] [15,17] (by kernel_rfl) (by kernel_rfl) (λ_ _ d _ _ h=>by cases d<;>exact h) ?_;simp only[qak,qap,qbh,qbi];refine qdc 9 rfl ?_;simp only[qai,qao,qah,qaj,qak,qap];repeat (go_big_quiet_step (fail))
     refine wpQuiet_nil ?_;refine qd7 1 rfl ?_;simp only[qai,qao,qah,qaj,qak,qap];repeat (go_big_quiet_step (fail))
     refine wpQuiet_nil ?_;refine qdc 3 rfl ?_;simp only[qai,qao,qah,qaj,qak,qap];repeat (go_big_quiet_step (fail))
     refine wpQuiet_nil ?_;refine qd7 1 rfl ?_;simp only[qai,qao,qah,qaj,qak,qap];repeat (go_big_quiet_step (fail))
     refine wpQuiet_nil ?_;refine qdc 1 rfl ?_;simp only[qai,qao,qah,qaj,qak,qap];repeat (go_big_quiet_step (fail))
     refine wpQuiet_nil ?_;refine qfg rfl ?_;intro K hK;have z0:=qay HSw.out.1 (t*2);have z1:=qay HSw.out.1 (t*2+1);go_wp2;refine hK.out _ _ (Fr.from_drew ((((Fr.refl [g] wo).setCell (by simp) _).setCell (by simp) _).drew)) ?_;clear hK K z0 z1;obtain⟨ws1,hws1⟩:∃ws1,ws1=((wo.setCell ⟨g,t*2,none⟩ (.int .i64 (cyw:Nat))).setCell ⟨g,t*2+1,none⟩ (.slice cya cyl cyc)):=⟨_,rfl⟩;rw[<-hws1];have hA1:=qa0 (o:=t*2+1) (qa0 (o:=t*2) HSw.out.1 (.int .i64 cyw)) (.slice cya cyl cyc);rw[<-hws1]at hA1;obtain⟨A1,hB⟩:∃A1,A1=(A.setIfInBounds (t*2) (.int .i64 (cyw:Nat))).setIfInBounds (t*2+1) (.slice cya cyl cyc):=⟨_,rfl⟩;rw[<-hB]at hA1;have z0:=qay hA1 (y*2);have z1:=qay hA1 (y*2+1);have c2:ws1.cell? ⟨g,y*2,none⟩=some (.int .i64 cyw):=by rw[cell_of hA1,hB,qac (by omega),qac (by omega),<-cell_of HSw.out.1];exact d2
     have c3:ws1.cell? ⟨g,y*2+1,none⟩=some (.slice cya cyl cyc):=by rw[cell_of hA1,hB,qac (by omega),qac (by omega),<-cell_of HSw.out.1];exact d3
     have HSy:=zhd3 hA1 hB hws1;clear hA1 hB hws1 d0 d1 d2 d3;refine qdc 1 rfl ?_;simp only[qai,qao,qah,qaj,qak,qap];repeat (go_big_quiet_step (fail))
     refine wpQuiet_nil ?_;refine qfg rfl ?_;intro K hK;go_wp2;refine hK.out _ _ (Fr.from_drew ((((Fr.refl [g] ws1).setCell (by simp) _).setCell (by simp) _).drew)) ?_;clear hK K z0 z1 c2 c3;refine qjw ?_;obtain⟨w2,hw2⟩:∃w2,w2=((ws1.setCell ⟨g,y*2,none⟩ (.int .i64 (cxw:Nat))).setCell ⟨g,y*2+1,none⟩ (.slice cxa cxl cxc)):=⟨_,rfl⟩;rw[<-hw2];have HZ:Hid (Dw w2 g T A0 L (swp (rotf f t m (m+1)) y t)∧Fr [g] wo w2):=by obtain⟨hA,hAs,hAn,hAt,hAf,hcx,hcy⟩:=HSw.out;obtain⟨hA1,hB,hws1⟩:=HSy.out;have hA2:=qa0 (o:=y*2+1) (qa0 (o:=y*2) hA1 (.int .i64 cxw)) (.slice cxa cxl cxc);rw[hB,<-hw2]at hA2;exact zhd ⟨Dw.swap _ cxw cxa cxl cxc cyw cya cyl cyc hAs hAn hAt hAf hxl hyl hcx hcy hA2,by rw[hw2,hws1];exact ((((Fr.refl [g] wo).setCell (by simp) _).setCell (by simp) _).setCell (by simp) _).setCell (by simp) _⟩
     clear hw2;clear g2 g4;go_wp2;go_roundg k2;case measure=>have:=HJ.out.2.1;omega
     case rel=>obtain⟨hf,htk,hy⟩:=HJ.out;refine⟨y,by go_num,by omega,by omega,?_,hf.trans HZ.out.2.drew⟩;have:=HZ.out.1;rw[hy,swp_comm,qr0 f m t (by omega) htm]at this;rw[hy];exact this.drew
    ·obtain rfl:t=i:=by omega
     have HJ:=zhd2 hD hf;clear hD hf htk;go_wp2;(try simp only[Exit.inBlock,Exit.then]);refine bodyPost_ret (results_none rfl _ _ _) rfl ?_;refine⟨rfl,_,HJ.out.1,?_,HJ.out.2⟩;have hmb:b=m+1:=H.o2;rw[hmb];exact qni f a m t h1 htm H.l3 (λh=>HI.out.1 h) (λh=>HI.out.2.1 h)
theorem qy4 (g:Nat) (T:TypeId) (A0:Array Value) (L cap a m b:Nat) (f:Nat→Mc) (w:World)
  (ih:∀(a' m' b':Nat) (f':Nat→Mc) (w':World),b'-a'<b-a→Dw w' g T A0 L f'→a'<m'→m'<b'→b'≤L→Wb f'→Srt (sg f' a' (m'-a'))→Srt (sg f' m' (b'-m'))→SymOk g T A0 L cap a' m' b' f' w')
  (h:Dw w g T A0 L f) (ham:a<m) (hne:m≠a+1) (hmb:m<b) (hne2:b≠m+1) (hbL:b≤L) (hL:L≤100000) (hwb:Wb f) (hA:Srt (sg f a (m-a))) (hB:Srt (sg f m (b-m))):SymOk g T A0 L cap a m b f w:=by
 obtain⟨s,hs⟩:=zex (a+b);obtain⟨mid,hmid⟩:=zex (s/2);obtain⟨n,hn⟩:=zex (mid+m);obtain⟨p,hp⟩:=zex (n-1);have e00:(((m:Int)-(a:Int))==1)=false:=by simp only[beq_eq_false_iff_ne];omega
 have e01:(((b:Int)-(m:Int))==1)=false:=by simp only[beq_eq_false_iff_ne];omega
 have e1:(a:Int)+(b:Int)=(s:Int):=by omega
 have e2:(s:Int)/2=(mid:Int):=by omega
 have e3:(mid:Int)+(m:Int)=(n:Int):=by omega
 have e4:(n:Int)-1=(p:Int):=by omega
 have b1:s≤200000:=by omega
 have b2:n≤200000:=by omega
 have b3:p≤200000:=by omega
 have b4:mid≤100000:=by omega
 have H:=zhd5 h hA hB hwb ih;have H0:=zhd9 ham hmb hbL hs hmid hn hp hne hne2;clear h hA hB hwb ih ham hmb hs hmid hn hp hne hne2;unfold SymOk cmpV;go_enter Tryz.func193,Tryz.ntmps193;go_upto_region 27 with fail;clear e00 e01 e1 e2 e3;obtain⟨wo,hwo0⟩:∃wo:World,wo=w:=⟨_,rfl⟩;rw[<-hwo0];have hwo:=zhd hwo0;clear hwo0;have hin:∀k:Prop,(m≤mid→k)→(¬m≤mid→k)→k:=λk h1 h2=>by by_cases h:m≤mid;exact h1 h;exact h2 h
 go_cut [140] from 138 to 141 (λs140 wz=>s140 = .bool (decide (mid<m))∧wo=wz)
 case first=>
  by_cases hm:mid<m
  ·have q1:decide ((mid:Int)<(m:Int))=true:=by simp;omega
   go_wp2;go_meet;exact⟨by simp[hm],rfl⟩
  ·have q1:decide ((mid:Int)<(m:Int))=false:=by simp;omega
   go_wp2;go_meet;exact⟨by simp[hm],rfl⟩
 case rest=>
 obtain⟨rfl,rfl⟩:=hcut;go_upto_if 140 with fail;go_cut [20,21] from 141 to 147 (λs20 s21 wz=>∃s0 r0:Nat,s20 = .int .i64 (s0:Nat)∧s21 = .int .i64 (r0:Nat)∧((s0=a∨s0+b=n)∧(r0=mid∨r0=m)∧s0≤r0∧a≤s0∧n≤s0+b∧r0≤m∧r0≤mid)∧wo=wz)
 case first=>
  obtain⟨k1,k2,k3,k4,k5,k6,k7,k8,k9⟩:=H0.out;by_cases hm:mid<m
  ·have q1:decide (mid<m)=true:=by simp;omega
   obtain⟨s0,hs0⟩:=zex (n-b);have e5:(n:Int)-(b:Int)=(s0:Int):=by omega
   have HK:=zhd7 k1 k2 k3 k4 k5 k6 hs0;clear k1 k2 k3 k4 k5 k6 k7 k8 k9 hs0;go_wp2;go_meet;obtain⟨k1,k2,k3,k4,k5,k6,hs0⟩:=HK.out;exact⟨s0,mid,rfl,rfl,by omega,rfl⟩
  ·have q1:decide (mid<m)=false:=by simp;omega
   have HK:=zhd6 k1 k2 k3 k4 k5 k6;clear k1 k2 k3 k4 k5 k6 k7 k8 k9;go_wp2;go_meet;obtain⟨k1,k2,k3,k4,k5,k6⟩:=HK.out;exact⟨a,m,rfl,rfl,by omega,rfl⟩
 case rest=>
 obtain⟨s0,r0,rfl,rfl,h0,rfl⟩:=hcut;have H1:=zhd h0;clear h0 hin;go_wp2;go_loopg [20,21,23] (r0-s0) (λk s20 s21 s23 wr=>∃i j:Nat,s20 = .int .i64 (i:Nat)∧s21 = .int .i64 (j:Nat)∧j=i+k∧s0≤i∧j≤r0∧(s0<i→(f (i-1)).worth≤(f (p-(i-1))).worth)∧(j<r0→(f (p-j)).worth<(f j).worth)∧Dw wr g T A0 L f∧Fr [g] w wr);case atStart=>obtain⟨k1,k2,k3,_⟩:=H1.out;exact⟨s0,r0,rfl,rfl,by omega,qag _,qag _,λh=>absurd h (by omega),λh=>absurd h (by omega),by rw[hwo.out];exact H.o0,by rw[hwo.out];exact .refl _ w⟩
 case round=>
  obtain⟨i,j,rfl,rfl,hk,h1,h2,h3,h4,hD,hf⟩:=hrel;by_cases hij:i<j
  ·obtain⟨s2,hs⟩:∃s,s=i+j:=⟨_,rfl⟩;obtain⟨hh,hhh⟩:=zex (s2/2);obtain⟨pc,hpc⟩:=zex (p-hh);have hb:hh<L∧pc<L∧hh≤p∧s2≤200000:=by obtain⟨k1,k2,k3,k4,k5,k6,k7,k8,k9⟩:=H0.out;obtain⟨l1,l2,l3,l4,l5,l6,l7⟩:=H1.out;omega
   obtain⟨hhL,hpL,hhp,hsb⟩:=hb;have e1:(i:Int)+(j:Int)=(s2:Int):=by omega
   have e2:(s2:Int)/2=(hh:Int):=by omega
   have e3:(p:Int)-(hh:Int)=(pc:Int):=by omega
   have hwb:=H.o3;have HI:=zhd7 hk h3 h4 hf hs hhh hpc;clear hk h3 h4 hf hs hhh hpc;have g2:decide ((L:Int)≤(hh:Int))=false:=by simp;omega
   have g4:decide ((L:Int)≤(pc:Int))=false:=by simp;omega
   have dd0:=λx=>hD.drew.cellsN (i:=pc) (by omega) x
   have dd1:=λx=>hD.drew.cellsN (i:=hh) (by omega) x
   have bb0:=hwb (pc);have bb1:=hwb (hh);obtain⟨px,hpx⟩:=zex ((f) (pc));obtain⟨r,hr⟩:=zex ((f) (hh));rw[<-hpx]at bb0 dd0;rw[<-hr]at bb1 dd1;have d00:=λx=>(dd0 x).1
   have d01:=λx=>(dd0 x).2
   have d10:=λx=>(dd1 x).1
   have d11:=λx=>(dd1 x).2
   have HP:=zhd3 hpx hr hD;clear hpx hr hD dd0 dd1;go_upto_region 35 with fail;refine qcj 14 [(false,0),(false,1),(false,2),(false,3),(false,4),(false,5),(false,6),(false,7),(false,8),(false,9),(false,10),(true,11),(false,12),(false,13)] [] (by kernel_rfl) (by kernel_rfl) (λ_ _ d _ _ h=>by cases d<;>exact h) ?_;simp only[qak,qap,qbh,qbi,qah,qaj,qce];refine qb9 11 rfl ?_;simp only[qai,qao,qah,qaj,qak,qap];repeat (go_big_quiet_step (fail))
   refine wpQuiet_nil ?_;refine qc5 rfl ?_;intro K hK;go_wp2_with (go_at_call 133;refine (qhx px r wr.drew bb0 bb1).mono ?_;rintro e w1 ⟨rfl,hf1⟩);refine hK.out _ _ hf1 ?_;clear hK K d00 d01 d10 d11;have HC:Hid (Dw w1 g T A0 L (f)∧Fr [] wr w1):=zhd ⟨HP.out.2.2.drew.fr hf1,(Fr.drew1 [] wr).trans hf1⟩;clear hf1;clear g2 g4;by_cases hpr:px.worth<r.worth
   ·have g5:decide (((px.worth:Int)-(r.worth:Int))<0)=true:=by simp;omega
    refine qb9 2 rfl ?_;simp only[qai,qao,qah,qaj,qak,qap];repeat (go_big_quiet_step (fail))
    refine wpQuiet_nil ?_;refine qc4 ?_;go_wp2;go_roundg (hh-i);case measure=>have:=HI.out.1;have:=HI.out.2.2.2.2;omega
    case rel=>obtain⟨hk,h3,h4,hf,hs,hhh,hpc⟩:=HI.out;obtain⟨hp,hr,hD⟩:=HP.out;refine⟨i,hh,rfl,rfl,by omega,h1,by omega,h3,λ_=>by rw[<-hpc,<-hp,<-hr];exact hpr,HC.out.1,hf.trans (HC.out.2.mono (by simp))⟩
   ·have g5:decide (((px.worth:Int)-(r.worth:Int))<0)=false:=by simp;omega
    refine qb9 2 rfl ?_;simp only[qai,qao,qah,qaj,qak,qap];repeat (go_big_quiet_step (fail))
    refine wpQuiet_nil ?_;refine qc4 ?_;go_wp2;go_roundg (j-(hh+1));case measure=>have:=HI.out.1;have:=HI.out.2.2.2.2;omega
    case rel=>obtain⟨hk,h3,h4,hf,hs,hhh,hpc⟩:=HI.out;obtain⟨hp,hr,hD⟩:=HP.out;refine⟨hh+1,j,by go_num,rfl,by omega,by omega,h2,λ_=>by rw[qeo,<-hpc,<-hp,<-hr];omega,h4,HC.out.1,hf.trans (HC.out.2.mono (by simp))⟩
  ·obtain rfl:i=j:=by omega
   obtain⟨e,he⟩:=zex (n-i);have hg:a≤i∧i≤m∧m≤e∧e≤b∧i+e=mid+m∧i≤mid∧mid≤e∧p=n-1∧mid=(a+b)/2∧a<mid∧mid<b∧(i<m→m<e→i<r0)∧(a<i→e<b→s0<i):=by obtain⟨k1,k2,k3,k4,k5,k6,k7,k8,k9⟩:=H0.out;obtain⟨l1,l2,l3,l4,l5,l6,l7⟩:=H1.out;omega
   have e1:(n:Int)-(i:Int)=(e:Int):=by omega
   have q1:i<m→m<e→(f (e-1)).worth<(f i).worth:=λx y=>by have:=h4 (hg.2.2.2.2.2.2.2.2.2.2.2.1 x y);rwa [show p-i=e-1 from by omega]at this
   have q2:a<i→e<b→(f (i-1)).worth≤(f e).worth:=λx y=>by have:=h3 (hg.2.2.2.2.2.2.2.2.2.2.2.2 x y);rwa [show p-(i-1)=e from by omega]at this
   have HI:=zhd6 q1 q2 hg hD hf he;have hml:m≤e:=hg.2.2.1;have heb:e≤b:=hg.2.2.2.1;have him:i≤m:=hg.2.1;have hai:a≤i:=hg.1;clear h3 h4 hD hf hk q1 q2 hg he h1 h2 hij;go_upto_region 39 with fail;go_cut [185] from 178 to 186 (λs185 wz=>∃c:Bool,s185 = .bool c∧(c=true↔(i<m∧m<e))∧wr=wz)
   case first=>
    by_cases c1:i<m
    ·by_cases c2:m<e
     ·have q1:decide ((i:Int)<(m:Int))=true:=by simp;omega
      have q2:decide ((m:Int)<(e:Int))=true:=by simp;omega
      go_wp2;go_meet;exact⟨_,rfl,by simp[c1,c2],rfl⟩
     ·have q1:decide ((i:Int)<(m:Int))=true:=by simp;omega
      have q2:decide ((m:Int)<(e:Int))=false:=by simp;omega
      go_wp2;go_meet;exact⟨_,rfl,by simp[c1,c2],rfl⟩
    ·have q1:decide ((i:Int)<(m:Int))=false:=by simp;omega
     go_wp2;go_meet;exact⟨_,rfl,by simp[c1],rfl⟩
   case rest=>
   obtain⟨cb,rfl,hcb,rfl⟩:=hcut;have HCB185:=zhd hcb;clear hcb;go_upto_if 185 with fail;go_cut [] from 185 to 192 (λwz=>Dw wz g T A0 L (rotf f i m e)∧Fr [g] w wz)
   case first=>
    cases cb with
    | true=>
     have c:=HCB185.out.1 rfl;have hr:=qde g T A0 L cap i m e f (.func (.func 133) #[] #[]) wr HI.out.2.2.2.1 c.1 c.2 (by omega) hL;have HR:=zhd hr;clear hr c;go_wp2_with (go_at_call 206;refine HR.out.mono ?_;rintro e w2 ⟨rfl,hd2,hf2⟩);go_meet;exact⟨hd2,HI.out.2.2.2.2.1.trans hf2⟩
    | false=>
     have c:¬(i<m∧m<e):=λh=>absurd (HCB185.out.2 h) (by simp)
     have HX:=zhd c;clear c;go_wp2;go_meet;refine⟨?_,HI.out.2.2.2.2.1⟩;rw[qfv f i m e him hml (by have:=HX.out;omega)];exact HI.out.2.2.2.1
   case rest=>
   obtain⟨hD1,hF1⟩:=hcut;obtain⟨w3,hw3⟩:∃w3:World,w3=wc:=⟨_,rfl⟩;rw[<-hw3]at hD1 hF1 ⊢;have HD1:=zhd3 hD1 hF1 hw3;clear hD1 hF1 hw3;have hw1:Hid (Wb (rotf f i m e)):=zhd (H.o3.rot i m e);have hL1:Hid (a<i→i<mid→Srt (sg (rotf f i m e) a (i-a))∧Srt (sg (rotf f i m e) i (mid-i))):=zhd λx y=>by
    obtain⟨k1,k2,k3,k4,k5,k6,k7,k8,k9,k10,k11,_⟩:=HI.out.2.2.1;refine⟨?_,?_⟩
    ·rw[qe3 _ _ _ _ _ _ k2 k3 (.inl (by omega))];exact qfd H.o1 (qag _) (by omega)
    ·have:=qet f i m e k2 k3;rw[show mid-i=e-m from by omega,this];exact qfd H.o2 (qag _) (by omega)
   have hL2:Hid (¬(a<i∧i<mid)→Srt (sg (rotf f i m e) a (mid-a))):=zhd λx=>by
    obtain⟨k1,k2,k3,k4,k5,k6,k7,k8,k9,k10,k11,_⟩:=HI.out.2.2.1;by_cases hz:i=a
    ·have:=qet f i m e k2 k3;rw[<-hz,show mid-i=e-m from by omega,this];exact qfd H.o2 (qag _) (by omega)
    ·rw[qfv f i m e k2 k3 (by omega)];exact qfd H.o1 (qag _) (by omega)
   go_upto_region 41 with fail;go_cut [199] from 192 to 200 (λs199 wz=>∃c:Bool,s199 = .bool c∧(c=true↔(a<i∧i<mid))∧w3=wz)
   case first=>
    by_cases c1:a<i
    ·by_cases c2:i<mid
     ·have q1:decide ((a:Int)<(i:Int))=true:=by simp;omega
      have q2:decide ((i:Int)<(mid:Int))=true:=by simp;omega
      go_wp2;go_meet;exact⟨_,rfl,by simp[c1,c2],rfl⟩
     ·have q1:decide ((a:Int)<(i:Int))=true:=by simp;omega
      have q2:decide ((i:Int)<(mid:Int))=false:=by simp;omega
      go_wp2;go_meet;exact⟨_,rfl,by simp[c1,c2],rfl⟩
    ·have q1:decide ((a:Int)<(i:Int))=false:=by simp;omega
     go_wp2;go_meet;exact⟨_,rfl,by simp[c1],rfl⟩
   case rest=>
   obtain⟨cb,rfl,hcb,rfl⟩:=hcut;have HCB199:=zhd hcb;clear hcb;go_upto_if 199 with fail;go_cut [] from 199 to 206 (λwz=>∃f1,Dw wz g T A0 L f1∧Sd (rotf f i m e) f1 a mid∧Fr [g] w wz)
   case first=>
    cases cb with
    | true=>
     have c:=HCB199.out.1 rfl;have hr:SymOk g T A0 L cap a i mid (rotf f i m e) w3:=by obtain⟨k1,k2,k3,k4,k5,k6,k7,k8,k9,k10,k11,_⟩:=HI.out.2.2.1;exact H.l4 a i mid _ w3 (by omega) HD1.o0 c.1 c.2 (by omega) hw1.out (hL1.out c.1 c.2).1 (hL1.out c.1 c.2).2
     unfold SymOk cmpV at hr;have HR:=zhd hr;clear hr c;go_wp2_with (go_at_call 193;refine HR.out.mono ?_;rintro e w2 ⟨rfl,f1,hd2,hs2,hf2⟩);go_meet;exact⟨f1,hd2,hs2,HD1.o1.trans hf2⟩
    | false=>
     have c:¬(a<i∧i<mid):=λh=>absurd (HCB199.out.2 h) (by simp)
     have HX:=zhd c;clear c;go_wp2;go_meet;exact⟨_,HD1.o0,qnj _ _ _ (hL2.out HX.out),HD1.o1⟩
   case rest=>
   obtain⟨f1,hD2,hS2,hF2⟩:=hcut;obtain⟨w4,hw4⟩:∃w4:World,w4=wc:=⟨_,rfl⟩;rw[<-hw4]at hD2 hF2 ⊢;have HD2:=zhd4 hD2 hS2 hF2 hw4;clear hD2 hS2 hF2 hw4;have eR1:Hid (∀c k,mid≤c→sg f1 c k=sg (rotf f i m e) c k):=zhd λc k hc=>qee λt ht=>HD2.o1.out _ (.inr (by omega))
   have hR1:Hid (mid<e→e<b→Srt (sg f1 mid (e-mid))∧Srt (sg f1 e (b-e))):=zhd λx y=>by
    obtain⟨k1,k2,k3,k4,k5,k6,k7,k8,k9,k10,k11,_⟩:=HI.out.2.2.1;rw[eR1.out mid _ (qag _),eR1.out e _ (by omega)];refine⟨?_,?_⟩
    ·have:=qe7 f i m e k2 k3;rw[show i+(e-m)=mid from by omega]at this;rw[show e-mid=m-i from by omega,this];exact qfd H.o1 (by omega) (by omega)
    ·rw[qe3 _ _ _ _ _ _ k2 k3 (.inr (qag _))];exact qfd H.o2 (by omega) (by omega)
   have hR2:Hid (¬(mid<e∧e<b)→Srt (sg f1 mid (b-mid))):=zhd λx=>by
    obtain⟨k1,k2,k3,k4,k5,k6,k7,k8,k9,k10,k11,_⟩:=HI.out.2.2.1;rw[eR1.out mid _ (qag _)];by_cases hz:e=b
    ·have:=qe7 f i m e k2 k3;rw[show i+(e-m)=mid from by omega]at this;rw[show b-mid=m-i from by omega,this];exact qfd H.o1 (by omega) (by omega)
    ·have he:e=mid:=by omega
     rw[qfv f i m e k2 k3 (by omega)];exact qfd H.o2 (by omega) (by omega)
   go_upto_region 43 with fail;go_cut [213] from 206 to 214 (λs213 wz=>∃c:Bool,s213 = .bool c∧(c=true↔(mid<e∧e<b))∧w4=wz)
   case first=>
    by_cases c1:mid<e
    ·by_cases c2:e<b
     ·have q1:decide ((mid:Int)<(e:Int))=true:=by simp;omega
      have q2:decide ((e:Int)<(b:Int))=true:=by simp;omega
      go_wp2;go_meet;exact⟨_,rfl,by simp[c1,c2],rfl⟩
     ·have q1:decide ((mid:Int)<(e:Int))=true:=by simp;omega
      have q2:decide ((e:Int)<(b:Int))=false:=by simp;omega
      go_wp2;go_meet;exact⟨_,rfl,by simp[c1,c2],rfl⟩
    ·have q1:decide ((mid:Int)<(e:Int))=false:=by simp;omega
     go_wp2;go_meet;exact⟨_,rfl,by simp[c1],rfl⟩
   case rest=>
   obtain⟨cb,rfl,hcb,rfl⟩:=hcut;have HCB213:=zhd hcb;clear hcb;go_upto_if 213 with fail;cases cb with
   | true=>
    have c:=HCB213.out.1 rfl;have hr:SymOk g T A0 L cap mid e b f1 w4:=by obtain⟨k1,k2,k3,k4,k5,k6,k7,k8,k9,k10,k11,_⟩:=HI.out.2.2.1;exact H.l4 mid e b _ w4 (by omega) HD2.o0 c.1 c.2 (by omega) (hw1.out.sd HD2.o1) (hR1.out c.1 c.2).1 (hR1.out c.1 c.2).2
    unfold SymOk cmpV at hr;have HR:=zhd hr;clear hr c;go_wp2_with (go_at_call 193;refine HR.out.mono ?_;rintro e2 w2 ⟨rfl,f2,hd2,hs2,hf2⟩);(try simp only[Exit.inBlock,Exit.then]);refine bodyPost_end (results_none rfl _ _ _) rfl ?_;obtain⟨k1,k2,k3,k4,k5,k6,k7,k8,k9,k10,k11,_⟩:=HI.out.2.2.1;have h0:=H0.out;exact⟨rfl,f2,hd2,za4 f f1 f2 a m b mid i e k9 (by omega) (by omega) (by omega) k1 k2 k3 k4 H.o1 H.o2 HI.out.1 HI.out.2.1 HD2.o1 hs2,HD2.o2.trans hf2⟩
   | false=>
    have c:¬(mid<e∧e<b):=λh=>absurd (HCB213.out.2 h) (by simp)
    have HX:=zhd c;clear c;go_wp2;(try simp only[Exit.inBlock,Exit.then]);refine bodyPost_end (results_none rfl _ _ _) rfl ?_;obtain⟨k1,k2,k3,k4,k5,k6,k7,k8,k9,k10,k11,_⟩:=HI.out.2.2.1;have h0:=H0.out;exact⟨rfl,f1,HD2.o0,za4 f f1 f1 a m b mid i e k9 (by omega) (by omega) (by omega) k1 k2 k3 k4 H.o1 H.o2 HI.out.1 HI.out.2.1 HD2.o1 (qnj _ _ _ (hR2.out HX.out)),HD2.o2⟩
theorem qir (g:Nat) (T:TypeId) (A0:Array Value) (L cap:Nat) (hL:L≤100000):∀(n a m b:Nat) (f:Nat→Mc) (w:World),b-a≤n→
  Dw w g T A0 L f→a<m→m<b→b≤L→Wb f→Srt (sg f a (m-a))→Srt (sg f m (b-m))→SymOk g T A0 L cap a m b f w:=by
 intro n;induction n with
 | zero=>intro a m b f w hn _ h1 h2;omega
 | succ n ih=>
  intro a m b f w hn hD h1 h2 h3 hwb hA hB;by_cases c1:m=a+1
  ·exact zb3 g T A0 L cap a m b f w hD c1 h2 h3 hL hwb hB
  ·by_cases c2:b=m+1
   ·exact zb2 g T A0 L cap a m b f w hD h1 c1 c2 h3 hL hwb hA
   ·exact qy4 g T A0 L cap a m b f w (λa' m' b' f' w' hlt k1 k2 k3 k4 k5 k6 k7=>ih a' m' b' f' w' (by omega) k1 k2 k3 k4 k5 k6 k7) hD h1 c1 h2 c2 h3 hL hwb hA hB
def PB (f:Nat→Mc) (bs a n:Nat):Prop:=∀c,bs∣c→c<a→Srt (sg f c (min bs (n-c)))
theorem qr9 {bs a c:Nat} (hb:0<bs) (h1:bs∣a) (h2:bs∣c) (h:c<a):c+bs≤a:=by
 obtain⟨x,rfl⟩:=h1;obtain⟨y,rfl⟩:=h2;have:y<x:=Nat.lt_of_mul_lt_mul_left h;calc bs*y+bs=bs*(y+1):=by rw[Nat.mul_succ]
  _≤bs*x:=Nat.mul_le_mul_left _ this
theorem qkx {f f2:Nat→Mc} {bs a n:Nat} (hb:0<bs) (ha:bs∣a) (h:PB f bs a n) (hs:Sd f f2 a (min (a+bs) n)):PB f2 bs (a+bs) n:=by
 intro c hc hlt;rcases Nat.lt_trichotomy c a with k|k|k
 ·have:=qr9 hb ha hc k;rw[qee (f:=f2) (f':=f) (a':=c) λt ht=>hs.out _ (.inl (by omega))];exact h c hc k
 ·subst k;have:=hs.srt;rw[show min bs (n-c)=min (c+bs) n-c from by omega];exact this
 ·have:=qr9 hb hc ha k;omega
theorem zcc {f f2:Nat→Mc} {bs a b n:Nat} (hs:Sd f f2 a b) (h:∀c,bs∣c→a≤c→Srt (sg f c (min bs (n-c)))) (hab:a≤b):∀c,bs∣c→b≤c→Srt (sg f2 c (min bs (n-c))):=by intro c hc hb;rw[qee (f:=f2) (f':=f) (a':=c) λt ht=>hs.out _ (.inr (by omega))];exact h c hc (by omega)
theorem zdf {f:Nat→Mc} {bs n:Nat} (hb:n≤bs) (h:PB f bs n n):Srt (sg f 0 n):=by
 rcases Nat.eq_zero_or_pos n with k|k
 ·subst k;rw[qng];exact List.Pairwise.nil
 ·have:=h 0 (Nat.dvd_zero _) k;rwa [show min bs (n-0)=n from by omega]at this
theorem qqk {f:Nat→Mc} {bs a a' n:Nat} (h:PB f bs a n) (haa:a'≤a):PB f bs a' n:=λc hc hlt=>h c hc (by omega)
theorem qtg (g:Nat) (T:TypeId) (A0:Array Value) (L cap:Nat) (f:Nat→Mc) (w:World)
  (h:Dw w g T A0 L f) (hL:L≤100000) (hwb:Wb f) :
  Calls Tryz.prog 167 #[.slice (some ⟨g,0,none⟩) L cap,.int .i64 (L:Nat),cmpV] w λe w'=>e = .returned (.tuple #[])∧∃f',Dw w' g T A0 L f'∧Sd f f' 0 L∧Fr [g] w w':=by
 have H:=zhd2 h hwb;clear h hwb;unfold cmpV;go_enter Tryz.func167,Tryz.ntmps167;go_wp2;go_loopg [7,8] L (λk s7 s8 wr=>∃a:Nat,s7 = .int .i64 (a:Nat)∧s8 = .int .i64 ((a+20:Nat):Nat)∧a+k=L∧20∣a∧∃f1,Dw wr g T A0 L f1∧Wb f1∧Stb (sg f1 0 L) (sg f 0 L)∧PB f1 20 a L∧(∀t,L≤t→f1 t=f t)∧Fr [g] w wr);case atStart=>exact⟨0,rfl,rfl,by omega,Nat.dvd_zero _,f,H.o0,H.l1,.refl _,λc _ hc=>absurd hc (by omega),λ_ _=>rfl,.refl _ w⟩
 case round=>
  obtain⟨a,rfl,rfl,hk,h20,f1,hD,hwb,hst,hpb,hout,hf⟩:=hrel;obtain⟨b,hb⟩:=zex (a+20);rw[<-hb];by_cases hab:b≤L
  ·have hi:=qml g T A0 L cap a b f1 wr hD (by omega) hab hL hwb;unfold cmpV at hi;have HI:=zhd9 hi hwb hst hpb hout hf hk h20 hb;clear hi hwb hst hpb hout hf hk h20 hb hD;go_wp2_with (go_at_call 192;refine HI.out.1.mono ?_;rintro e w2 ⟨rfl,f2,hd2,hs2,hf2⟩;have HW:=zhd3 hd2 hs2 hf2;clear hd2 hs2 hf2);go_roundg (L-b);case measure=>have:=HI.out.2.2.2.2.2.2;omega
   case rel=>
    obtain⟨_,hwb,hst,hpb,hout,hf,hk,h20,hb⟩:=HI.out;obtain⟨hd2,hs2,hf2⟩:=HW.out;refine⟨b,rfl,by go_num,by omega,?_,f2,hd2,hwb.sd hs2,(hs2.widen (by omega) hab).trans hst,?_,λt ht=>(hs2.out t (.inr (by omega))).trans (hout t ht),hf.trans hf2⟩
    ·rw[hb];exact Nat.dvd_add h20 (Nat.dvd_refl _)
    ·rw[hb];exact qkx (by omega) h20 hpb (by rw[qcs (by omega),<-hb];exact hs2)
  ·have hi:=qml g T A0 L cap a L f1 wr hD (by omega) (qag _) hL hwb;unfold cmpV at hi;have HI:=zhd9 hi hwb hst hpb hout hf hk h20 hb;clear hi hwb hst hpb hout hf hk h20 hb hD;go_wp2_with (go_at_call 192;refine HI.out.1.mono ?_;rintro e w2 ⟨rfl,f2,hd2,hs2,hf2⟩;have HW:=zhd3 hd2 hs2 hf2;clear hd2 hs2 hf2);have hst2:∃f3,Dw w2 g T A0 L f3∧Wb f3∧Stb (sg f3 0 L) (sg f 0 L)∧PB f3 20 L L∧(∀t,L≤t→f3 t=f t)∧Fr [g] w w2:=by obtain⟨_,hwb,hst,hpb,hout,hf,hk,h20,hb⟩:=HI.out;obtain⟨hd2,hs2,hf2⟩:=HW.out;refine⟨f2,hd2,hwb.sd hs2,(hs2.widen (by omega) (qag _)).trans hst,qqk (qkx (a:=a) (by omega) h20 hpb (by rw[Nat.min_eq_right (by omega)];exact hs2)) (by omega),λt ht=>(hs2.out t (.inr (by omega))).trans (hout t ht),hf.trans hf2⟩
   have HS:=zhd hst2;clear hst2 HI HW hab;go_loopg [6,7,8,9] (L+40) (λk s6 s7 s8 s9 wr=>∃bs:Nat,s6 = .int .i64 (bs:Nat)∧20≤bs∧bs≤200040∧k=L+60-bs∧∃f1,Dw wr g T A0 L f1∧Wb f1∧Stb (sg f1 0 L) (sg f 0 L)∧PB f1 bs L L∧(∀t,L≤t→f1 t=f t)∧Fr [g] w wr);case atStart=>obtain⟨f3,h3⟩:=HS.out;exact⟨20,rfl,qag _,by omega,by omega,f3,h3⟩
   case round=>
    obtain⟨bs,rfl,hb20,hbs,hk,f1,hD,hwb,hst,hpb,hout,hf⟩:=hrel;by_cases hlt:bs<L
    ·have HI:=zhd6 hD hwb hst hpb hout hf;clear hD hwb hst hpb hout hf;have HK:=zhd hk;clear hk;obtain⟨b2,hb2⟩:=zex (2*bs);have e1:2*(bs:Int)=(b2:Int):=by omega
     have e2:(bs:Int)*2=(b2:Int):=by omega
     have hb2b:b2≤200000:=by omega
     have HB:=zhd hb2;clear hb2;obtain⟨wo,hwo⟩:∃wo:World,wo=wr:=⟨_,rfl⟩;have HWO:=zhd hwo;rw[<-hwo];clear hwo;go_wp2;go_loopg [7,8] L (λk s7 s8 wr=>∃a:Nat,s7 = .int .i64 (a:Nat)∧s8 = .int .i64 ((a+b2:Nat):Nat)∧a+k=L∧b2∣a∧∃f1,Dw wr g T A0 L f1∧Wb f1∧Stb (sg f1 0 L) (sg f 0 L)∧PB f1 b2 a L∧(∀c,bs∣c→a≤c→Srt (sg f1 c (min bs (L-c))))∧(∀t,L≤t→f1 t=f t)∧Fr [g] w wr);case atStart=>
      obtain⟨hD,hwb,hst,hpb,hout,hf⟩:=HI.out;rw[HWO.out];refine⟨0,rfl,by go_num,by omega,Nat.dvd_zero _,f1,hD,hwb,hst,λc _ hc=>absurd hc (by omega),λc hc _=>?_,hout,hf⟩;by_cases hcL:c<L
      ·exact hpb c hc hcL
      ·rw[show min bs (L-c)=0 from by omega,qng];exact List.Pairwise.nil
     case round=>
      obtain⟨a,rfl,rfl,hk,h2a,f3,hD,hwb,hst,hpb,hrest,hout,hf⟩:=hrel;obtain⟨b,hb⟩:=zex (a+b2);obtain⟨m,hm⟩:=zex (a+bs);have e3:(a:Int)+(bs:Int)=(m:Int):=by omega
      have haL:a≤L:=by omega
      have hmb:m≤400000:=by omega
      have hbb:b≤400000:=by omega
      have hda:bs∣a:=Nat.dvd_trans ⟨2,by have:=HB.out;omega⟩ h2a;rw[<-hb];by_cases hab:b≤L
      ·have hi:=qir g T A0 L cap hL (b-a) a m b f3 wr (qag _) hD (by omega) (by have:=HB.out;omega) hab hwb
        (by have:=hrest a hda (qag _);rwa [show min bs (L-a)=m-a from by have:=HB.out;omega]at this)
        (by have:=hrest m (by rw[hm];exact Nat.dvd_add hda (Nat.dvd_refl _)) (by omega);rwa [show min bs (L-m)=b-m from by have:=HB.out;omega]at this)
       unfold SymOk cmpV at hi
       have HJ:=zhd11 hi hwb hst hpb hrest hout hf hk h2a hb hm
       clear hi hwb hst hpb hrest hout hf hk h2a hb hm hD hda
       go_wp2_with (go_at_call 193;refine HJ.out.1.mono ?_;rintro e w2 ⟨rfl,f2,hd2,hs2,hf2⟩;have HW:=zhd3 hd2 hs2 hf2;clear hd2 hs2 hf2)
       go_roundg (L-b)
       case measure=>have:=HJ.out.2.2.2.2.2.2.2;omega
       case rel=>
        obtain⟨_,hwb,hst,hpb,hrest,hout,hf,hk,h2a,hb,hm⟩:=HJ.out
        obtain⟨hd2,hs2,hf2⟩:=HW.out
        refine⟨b,rfl,by go_num,by omega,?_,f2,hd2,hwb.sd hs2,(hs2.widen (by omega) hab).trans hst,?_,zcc hs2 hrest (by omega),λt ht=>(hs2.out t (.inr (by omega))).trans (hout t ht),hf.trans hf2⟩
        ·rw[hb];exact Nat.dvd_add h2a (Nat.dvd_refl _)
        ·rw[hb];exact qkx (by omega) h2a hpb (by rw[qcs (by omega),<-hb];exact hs2)
      ·by_cases hml:m<L
       ·have hi:=qir g T A0 L cap hL (L-a) a m L f3 wr (qag _) hD (by omega) hml (qag _) hwb
         (by have:=hrest a hda (qag _);rwa [show min bs (L-a)=m-a from by omega]at this)
         (by have:=hrest m (by rw[hm];exact Nat.dvd_add hda (Nat.dvd_refl _)) (by omega);rwa [show min bs (L-m)=L-m from by have:=HB.out;omega]at this)
        unfold SymOk cmpV at hi
        have HJ:=zhd11 hi hwb hst hpb hrest hout hf hk h2a hb hm
        clear hi hwb hst hpb hrest hout hf hk h2a hb hm hD hda
        go_wp2_with (go_at_call 193;refine HJ.out.1.mono ?_;rintro e w2 ⟨rfl,f2,hd2,hs2,hf2⟩;have HW:=zhd3 hd2 hs2 hf2;clear hd2 hs2 hf2)
        go_roundg (L+60-b2)
        case measure=>have:=HK.out;have:=HB.out;omega
        case rel=>
         obtain⟨_,hwb,hst,hpb,hrest,hout,hf,hk,h2a,hb,hm⟩:=HJ.out
         obtain⟨hd2,hs2,hf2⟩:=HW.out
         exact⟨b2,rfl,by have:=HB.out;omega,by omega,rfl,f2,hd2,hwb.sd hs2,(hs2.widen (by omega) (qag _)).trans hst,qqk (qkx (a:=a) (by have:=HB.out;omega) h2a hpb (by rw[Nat.min_eq_right (by omega)];exact hs2)) (by omega),λt ht=>(hs2.out t (.inr ht)).trans (hout t ht),hf.trans hf2⟩
       ·have HJ:=zhd12 hwb hst hpb hrest hout hf hk h2a hb hm hD hda;clear hwb hst hpb hrest hout hf hk h2a hb hm hD hda;go_wp2;go_roundg (L+60-b2);case measure=>have:=HK.out;have:=HB.out;omega
        case rel=>obtain⟨hwb,hst,hpb,hrest,hout,hf,hk,h2a,hb,hm,hD,hda⟩:=HJ.out;refine⟨b2,rfl,by have:=HB.out;omega,by omega,rfl,f3,hD,hwb,hst,qqk (qkx (a:=a) (by have:=HB.out;omega) h2a hpb (qnj _ _ _ ?_)) (by omega),hout,hf⟩;have:=hrest a hda (qag _);rwa [show min bs (L-a)=min (a+b2) L-a from by omega]at this
    ·have HI:=zhd6 hD hwb hst hpb hout hf;clear hD hwb hst hpb hout hf hk;go_wp2;(try simp only[Exit.inBlock,Exit.then]);refine bodyPost_end (results_none rfl _ _ _) rfl ?_;obtain⟨hD,hwb,hst,hpb,hout,hf⟩:=HI.out;exact⟨rfl,f1,hD,⟨λt ht=>hout t (by omega),zdf (by omega) hpb,hst⟩,hf⟩
theorem qy9 (g:Nat) (T:TypeId) (A0:Array Value) (L cap:Nat) (f:Nat→Mc) (w:World)
  (h:Dw w g T A0 L f) (hL:L≤100000) (hwb:Wb f) :
  Calls Tryz.prog 134 #[.slice (some ⟨g,0,none⟩) L cap,cmpV] w λe w'=>e = .returned (.tuple #[])∧∃f',Dw w' g T A0 L f'∧Sd f f' 0 L∧Fr [g] w w':=by
 have H:=zhd (qtg g T A0 L cap f w h hL hwb);unfold cmpV at H ⊢;clear h hwb;go_enter Tryz.func134,Tryz.ntmps134;go_wp2_with (go_at_call 167;refine H.out.mono ?_;rintro e w2 ⟨rfl,hd2⟩);(try simp only[Exit.inBlock,Exit.then]);refine bodyPost_end (results_none rfl _ _ _) rfl ?_;exact⟨rfl,hd2⟩
end Go.Proofs.YtbabjlohkniciaaGreatDoor.huf
