/-
  Texts of this proof, one behind the other: RsStart, RsTry, PkLaw3, RsTold, RsFrom, PkLaw5, RsAsk.
-/
import Derived.Test.YtkmpfgpfbmeihaaGreatDoorS20
set_option maxHeartbeats 16000000
set_option maxRecDepth 100000
set_option linter.unusedVariables false
set_option linter.unusedSimpArgs false
namespace Go.Proofs.YtkmpfgpfbmeihaaGreatDoor.pk
open Go Go.RowKit lib bm
structure Beg (w w':World) (g O S:Nat) (gv tv:Value) (la:Option Addr) (ms:List EM) (C D:Array Value) (i:Nat):Prop where
 rb:Rb w' g O S gv tv la ms C D
 fr:Fr [O,S] w w'
 done:∀t m,t<i→ms[t]?=some m→S1 w' O S C D t (first1 (ms.map (·.1)) t m.1)∧D[t*4+3]?=some (baseV (ms.map (·.1)) t m.1)
 rest:∀t,i≤t→t<ms.length→D[t*4]?=some (.bool false)∧D[t*4+1]?=some (.int .i64 0)∧D[t*4+3]?=some .nilIface
 deep:∀t,i≤t→t<ms.length→D[t*4+2]?=some (.int .i64 0)
theorem Beg.next {w w1 w2:World} {g O S:Nat} {gv tv:Value} {la:Option Addr} {ms:List EM} {C C' D D':Array Value} {i:Nat} {m:EM} (h:Beg w w1 g O S gv tv la ms C D i) (hm:ms[i]?=some m) (rb:Rb w2 g O S gv tv la ms C' D') (f:Fr [O,S] w1 w2)
  (hC:∀j,j<i*5∨i*5+5≤j→C'[j]?=C[j]?) (hD:∀j,j<i*4∨i*4+4≤j→D'[j]?=D[j]?) (hs:S1 w2 O S C' D' i (first1 (ms.map (·.1)) i m.1)) (hb:D'[i*4+3]?=some (baseV (ms.map (·.1)) i m.1)):Beg w w2 g O S gv tv la ms C' D' (i+1):=by
 refine⟨rb,h.fr.trans f,λt y ht hy=>?_,λt ht hn=>?_,λt ht hn=>by rw[hD _ (by omega)];exact h.deep t (by omega) hn⟩
 ·by_cases hti:t=i
  ·subst hti;rw[hm]at hy;obtain rfl:=qbm hy;exact⟨hs,hb⟩
  ·obtain⟨h1,h2⟩:=h.done t y (by omega) hy;exact⟨h1.keep (λj hj=>hC _ (by omega)) (λj hj=>hD _ (by omega)) f,by rw[hD _ (by omega)];exact h2⟩
 ·obtain⟨h1,h2,h3⟩:=h.rest t (by omega) hn;exact⟨by rw[hD _ (by omega)];exact h1,by rw[hD _ (by omega)];exact h2,by rw[hD _ (by omega)];exact h3⟩
theorem Beg.fr0 {w w1 w2:World} {g O S:Nat} {gv tv:Value} {la:Option Addr} {ms:List EM} {C D:Array Value} {i:Nat} (h:Beg w w1 g O S gv tv la ms C D i) (f:Fr [] w1 w2):Beg w w2 g O S gv tv la ms C D i:=
 ⟨h.rb.fr f,h.fr.trans (f.mono (by simp)),λt y ht hy=>⟨(h.done t y ht hy).1.keep (λ_ _=>rfl) (λ_ _=>rfl) (f.mono (by simp)),(h.done t y ht hy).2⟩,h.rest,h.deep⟩
theorem Beg.sts {w w':World} {g O S:Nat} {gv tv:Value} {la:Option Addr} {ms:List EM} {C D:Array Value} (h:Beg w w' g O S gv tv la ms C D ms.length):Sts w' O S C D (ms.map (·.1)) (firsts (ms.map (·.1))):=by
 refine⟨qhd _,λi s hi=>?_,λi x hx=>?_⟩
 ·have hl:=(qa9.1 hi).1;rw[qhd,qap]at hl;have hm:ms[i]?=some ms[i]:=qai hl;rw[qok _ i ms[i].1 (by rw[qbl,hm];rfl)]at hi;obtain rfl:=qbm hi;exact (h.done i _ hl hm).1
 ·rw[qbl]at hx;cases hm:ms[i]? with
  | none=>rw[hm]at hx;cases hx
  | some m=>rw[hm]at hx;obtain rfl:=qbm hx;exact (h.done i m (qa9.1 hm).1 hm).2
theorem qw5 (g O S:Nat) (gv tv:Value) (la:Option Addr) (ms:List EM) (C D:Array Value) (w:World) (h:Rb w g O S gv tv la ms C D) (hp:∀w',Fr [O,S] w w'→obj.Pw w')
  (hl:∀m∈ms,m.1.data.length≤2147483647) (hz:∀t,t<ms.length→D[t*4]?=some (.bool false)∧D[t*4+1]?=some (.int .i64 0)∧D[t*4+3]?=some .nilIface) (hz2:∀t,t<ms.length→D[t*4+2]?=some (.int .i64 0)) :
  Calls Tryz.prog 47 #[.pointer (some ⟨g,0,none⟩)] w λe w'=>e = .returned (.tuple #[])∧
   ∃C' D',Beg w w' g O S gv tv la ms C' D' ms.length:=by
 have h0:Beg w w g O S gv tv la ms C D 0:=⟨h,Fr.refl _ _,λt m ht=>by omega,λt _ ht=>hz t ht,λt _ ht=>hz2 t ht⟩;obtain⟨n,hn⟩:=zex ms.length;have hfew:n≤4096:=by rw[hn];exact h.few
 have b0:=cell_of h.box 0;simp only[qag,qac]at b0;rw[<-hn]at b0 ⊢;have H:=zhd4 h0 hn hp hl;clear h h0 hn hp hl hz hz2;go_enter Tryz.func47,Tryz.ntmps47;go_wp2;clear b0;go_loopg [2,3,4,5,11] n (λk s2 s3 s4 s5 s11 wr=>∃j C D,s11 = .int .i64 (j:Nat)∧j+k=n∧Beg w wr g O S gv tv la ms C D j);case atStart=>exact⟨0,C,D,rfl,by omega,H.out.1⟩
 case round=>
  obtain⟨i,C1,D1,rfl,hik,hB⟩:=hrel;have HL:=zhd hB;clear hB;by_cases hi:i<n
  ·obtain⟨k,rfl⟩:∃k,gk=k+1:=⟨gk-1,by omega⟩;obtain⟨m,hm⟩:∃m,ms[i]?=some m:=⟨ms[i]'(by rw[<-H.out.2.1];omega),qai _⟩;obtain⟨gb,o,hla,hce⟩:=HL.out.rb.ents.cell hm;have hla2:=hla;subst hla;have c0:=hce 0 _ (by decide) rfl;have c1:=hce 1 _ (by decide) rfl;have c2:=hce 2 _ (by decide) rfl;have c3:=hce 3 _ (by decide) rfl;have c4:=hce 4 _ (by decide) rfl;have c5:=hce 5 _ (by decide) rfl;have c6:=hce 6 _ (by decide) rfl;rw[<-qcb]at c0 c1 c2 c3 c4 c5 c6;have HM:=zhd hm;clear hce hm hla2;obtain⟨⟨xk,xa,xs,xc,xd,xb,xo⟩,da⟩:=m;replace c0:wr.cell? ⟨gb,o+i*7,none⟩=some (.int .i64 xk):=c0;replace c1:wr.cell? ⟨gb,o+i*7+1,none⟩=some (.int .i64 xa):=c1;replace c2:wr.cell? ⟨gb,o+i*7+2,none⟩=some (.int .i64 xs):=c2;replace c3:wr.cell? ⟨gb,o+i*7+3,none⟩=some (.int .u32 xc):=c3;replace c4:wr.cell? ⟨gb,o+i*7+4,none⟩=some (.slice da xd.length xd.length):=c4;replace c5:wr.cell? ⟨gb,o+i*7+5,none⟩=some (.string (str xb)):=c5;replace c6:wr.cell? ⟨gb,o+i*7+6,none⟩=some (.int .i64 xo):=c6;obtain⟨dl,hdl⟩:=zex xd.length;rw[<-hdl]at c4;have HD:=zhd hdl;clear hdl;go_upto_region 3 with (refine wpList_store_row rfl 65 (.tmp 3) (.tmp 15) rfl wr.heap.size #[.int .i64 xk,.int .i64 xa,.int .i64 xs,.int .u32 xc,.slice da dl dl,.string (str xb),.int .i64 xo] rfl rfl 65 _ (qay _ _) infoRaw rfl (by kernel_rfl) ?_);clear c0 c1 c2 c3 c4 c5 c6;generalize hw1:World.setRow _ _ _=w1;obtain⟨X,hX⟩:=zex wr.heap.size;rw[<-hX]at hw1 ⊢;have hx1:w1.heap[X]?=some (.cells #[.int .i64 xk,.int .i64 xa,.int .i64 xs,.int .u32 xc,.slice da dl dl,.string (str xb),.int .i64 xo] 65 (0,0)):=by rw[<-hw1,hX];exact setRow_heap _ _ _ _ _ _ (qay _ _)
   have f1:Fr [] wr w1:=by rw[<-hw1,hX];exact ((Fr.refl [] wr).alloc _).setRow (.inr (qae _)) _
   have hX1:=lt_of_block hx1;clear hw1;have hB1:=HL.out.fr0 f1;have hn:=H.out.2.1;have b0:=cell_of hB1.rb.box 0;have b2:=cell_of hB1.rb.box 2;simp only[qag,qac,qaf]at b0 b2;rw[<-hn]at b0 b2;have k0:=cell_of hx1 0;have k4:=cell_of hx1 4;have k5:=cell_of hx1 5;have k6:=cell_of hx1 6;simp only[qag,qac,qaf]at k0 k4 k5 k6;have hXO:X≠O:=by have:=lt_of_block HL.out.rb.ob;omega
   have hXS:X≠S:=by have:=lt_of_block HL.out.rb.sb;omega
   have hidx:=λw2 (f:Fr [] w1 w2)=>qyr _ ms i X xo w2 (hB1.rb.ents.fr f) (by omega) (by omega) (f.cell k6 (by simp))
   rw[<-hn]at hidx;obtain⟨r0,r1,r3⟩:=hB1.rest i (qae _) (by omega);have hsz:i*4+4≤D1.size:=by rw[hB1.rb.sc];omega
   have H1:=zhd10 hB1 hx1 hXO hXS hidx r0 r1 r3 hsz hX;clear hB1 hn hx1 hXO hXS hidx r0 r1 r3 hsz hX f1 hX1 k6 HL;by_cases h6:xk=6
   ·subst h6;have g6:(((6:Nat):Int)==6)=true:=by decide
    clear k4 k5;have HI:=zhd (H1.out.2.2.2.2.1 w1 (Fr.refl _ _));obtain⟨at_,hat⟩:=zex (atOf (ms.map (·.1)) i xo);rw[<-hat]at HI;have HA:=zhd hat;clear hat;go_upto_region 9 with (go_at_call 77;refine HI.out.mono ?_;rintro e w2 ⟨rfl,f2⟩;have H2:=zhd f2;clear f2);clear b0 b2 k0 g6;obtain⟨hB1,hx1,hXO,hXS,hidx,r0,r1,r3,hsz,hX⟩:=H1.out;have hB2:=hB1.fr0 H2.out;obtain⟨bV,hbV⟩:=zex (Value.iface 123 (.int .i64 (atI at_)));have hb6:baseV (ms.map (·.1)) i ⟨6,xa,xs,xc,xd,xb,xo⟩=bV:=by rw[hbV,HA.out];rfl
    have y3:w2.cell? ⟨S,i*4+3,none⟩=some .nilIface:=by rw[cell_of hB2.rb.sb];exact r3
    have z3:=qau hB2.rb.sb (i*4+3);have f3:Fr [S] w2 (w2.setCell ⟨S,i*4+3,none⟩ bV):=(Fr.refl [S] w2).setCell (by simp) _;have hs3:(w2.setCell ⟨S,i*4+3,none⟩ bV).heap[S]?=some (.cells (D1.setIfInBounds (i*4+3) bV) 100 (0,0)):=qax hB2.rb.sb _;have hR3:=hB2.rb.setS f3 hs3 (by rw[qbf]);rw[hbV]at hs3 hR3 f3;have H3:=zhd6 hB2 hb6 f3 hs3 hR3 hbV;clear hB1 hx1 hXO hXS hidx r0 r1 r3 hsz hX hB2 hb6 f3 hs3 hR3 hbV;cases at_ with
    | some q=>
     have gq:decide (((q:Nat):Int)<0)=false:=by simp
     simp only[atI]at H3;simp only[atI];go_upto_region 10 with fail;clear y3 z3;go_wp2;go_roundg k;case measure=>omega
     case rel=>
      obtain⟨hB2,hb6,f3,hs3,hR3,hbV⟩:=H3.out;obtain⟨hB1,hx1,hXO,hXS,hidx,r0,r1,r3,hsz,hX⟩:=H1.out;refine⟨i+1,C1,_,rfl,by omega,hB2.next HM.out hR3 (f3.mono (λx hx=>.inl (by simp at hx;simp[hx]))) (λ_ _=>rfl) (λj hj=>by rw[qaa (by omega)]) ?_ ?_⟩
      ·have:first1 (ms.map (·.1)) i ⟨6,xa,xs,xc,xd,xb,xo⟩=none:=by unfold first1;simp only[if_pos];rw[<-HA.out]
       rw[this];exact⟨by rw[qaa (by omega)];exact r0,by rw[qaa (by omega)];exact r1⟩
      ·rw[hb6,hbV];exact qal (by omega)
    | none=>
     simp only[atI]at H3;simp only[atI];go_upto_region 10 with fail;clear y3 z3;generalize hw3:w2.setCell _ _=w3;have hb9:=H3.out;rw[hw3]at hb9;clear hw3 H3;obtain⟨hB2,hb6,f3,hs3,hR3,hbV⟩:=hb9;obtain⟨hB1,hx1,hXO,hXS,hidx,r0,r1,r3,hsz,hX⟩:=H1.out;obtain⟨D3,hD3⟩:=zex (D1.setIfInBounds (i*4+3) (Value.iface 123 (.int .i64 (-1))));rw[<-hD3]at hs3 hR3;have y0:w3.cell? ⟨S,i*4,none⟩=some (.bool false):=by rw[cell_of hs3,hD3,qaa (by omega)];exact r0
     have z0:=qau hs3 (i*4);have hs4:=qax (o:=i*4) hs3 (.bool true);have f4:Fr [S] w3 (w3.setCell ⟨S,i*4,none⟩ (.bool true)):=(Fr.refl [S] w3).setCell (by simp) _;have y1:(w3.setCell ⟨S,i*4,none⟩ (.bool true)).cell? ⟨S,i*4+1,none⟩=some (.int .i64 0):=by rw[cell_of hs4,qaa (by omega),hD3,qaa (by omega)];exact r1
     have z1:=qau hs4 (i*4+1);have hR4:=hR3.setS f4 hs4 (by rw[qbf]);have hs5:=qax (o:=i*4+1) hs4 (.int .i64 3);have f5:Fr [S] (w3.setCell ⟨S,i*4,none⟩ (.bool true)) ((w3.setCell ⟨S,i*4,none⟩ (.bool true)).setCell ⟨S,i*4+1,none⟩ (.int .i64 3)):=(Fr.refl [S] _).setCell (by simp) _;have hR5:=hR4.setS f5 hs5 (by rw[qbf]);have fF:=(f3.trans f4).trans f5;have H4:=zhd6 hB2 hb6 hbV hD3 hR5 fF;clear hB2 hb6 hbV hD3 hR5 fF hB1 hx1 hXO hXS hidx r0 r1 r3 hsz hX f3 f4 f5 hs3 hs4 hs5 hR3 hR4;go_wp2;clear y0 z0 y1 z1;go_roundg k;case measure=>omega
     case rel=>
      obtain⟨hB2,hb6,hbV,hD3,hR5,fF⟩:=H4.out;obtain⟨hB1,hx1,hXO,hXS,hidx,r0,r1,r3,hsz,hX⟩:=H1.out;have hsz3:D3.size=D1.size:=by rw[hD3,qbf]
      refine⟨i+1,C1,_,rfl,by omega,hB2.next HM.out hR5 (fF.mono (λx hx=>.inl (by simp at hx;simp[hx]))) (λ_ _=>rfl) (λj hj=>by rw[qaa (by omega),qaa (by omega),hD3,qaa (by omega)]) ?_ ?_⟩
      ·have:first1 (ms.map (·.1)) i ⟨6,xa,xs,xc,xd,xb,xo⟩=some (.error 3):=by unfold first1;simp only[if_pos];rw[<-HA.out]
       rw[this];exact⟨by rw[qaa (by omega)];exact qal (by omega),qal (by rw[qbf];omega),by decide⟩
      ·rw[hb6,hbV,qaa (by omega),qaa (by omega),hD3];exact qal (by omega)
   ·have g6:((xk:Int)==6)=false:=by simp;omega
    by_cases h7:xk=7
    ·subst h7;have g7:(((7:Nat):Int)==7)=true:=by decide
     clear b0 k4;obtain⟨hB1,hx1,hXO,hXS,hidx,r0,r1,r3,hsz,hX⟩:=H1.out;have y3:w1.cell? ⟨S,i*4+3,none⟩=some .nilIface:=by rw[cell_of hB1.rb.sb];exact r3
     have z3:=qau hB1.rb.sb (i*4+3);have f3:Fr [S] w1 (w1.setCell ⟨S,i*4+3,none⟩ (.iface 124 (.string (str xb)))):=(Fr.refl [S] w1).setCell (by simp) _;have hs3:(w1.setCell ⟨S,i*4+3,none⟩ (.iface 124 (.string (str xb)))).heap[S]?=some (.cells (D1.setIfInBounds (i*4+3) (.iface 124 (.string (str xb)))) 100 (0,0)):=qax hB1.rb.sb _;have hR3:=hB1.rb.setS f3 hs3 (by rw[qbf]);have H3:=zhd2 f3 hR3;clear hB1 hx1 hXO hXS hidx r0 r1 r3 hsz hX f3 hs3 hR3;go_wp2;clear y3 z3 b2 k0 k5;go_roundg k;case measure=>omega
     case rel=>
      obtain⟨f3,hR3⟩:=H3.out;obtain⟨hB1,hx1,hXO,hXS,hidx,r0,r1,r3,hsz,hX⟩:=H1.out;refine⟨i+1,C1,_,rfl,by omega,hB1.next HM.out hR3 (f3.mono (λx hx=>.inl (by simp at hx;simp[hx]))) (λ_ _=>rfl) (λj hj=>by rw[qaa (by omega)]) ?_ ?_⟩
      ·have:first1 (ms.map (·.1)) i ⟨7,xa,xs,xc,xd,xb,xo⟩=none:=rfl;rw[this];exact⟨by rw[qaa (by omega)];exact r0,by rw[qaa (by omega)];exact r1⟩
      ·have:baseV (ms.map (·.1)) i ⟨7,xa,xs,xc,xd,xb,xo⟩ = .iface 124 (.string (str xb)):=rfl;rw[this];exact qal (by omega)
    ·have g7:((xk:Int)==7)=false:=by simp;omega
     clear b0;obtain⟨hB1,hx1,hXO,hXS,hidx,r0,r1,r3,hsz,hX⟩:=H1.out;have y0:w1.cell? ⟨S,i*4,none⟩=some (.bool false):=by rw[cell_of hB1.rb.sb];exact r0
     have z0:=qau hB1.rb.sb (i*4);clear hB1 hx1 hXO hXS hidx r0 r1 r3 hsz hX k4 k5;go_upto_region 6 with fail;clear y0 z0 b2 k0 g6 g7;obtain⟨hB1,hx1,hXO,hXS,hidx,r0,r1,r3,hsz,hX⟩:=H1.out;have hs2:(w1.setCell ⟨S,i*4,none⟩ (.bool true)).heap[S]?=some (.cells (D1.setIfInBounds (i*4) (.bool true)) 100 (0,0)):=qax hB1.rb.sb _;have f2:Fr [S] w1 (w1.setCell ⟨S,i*4,none⟩ (.bool true)):=(Fr.refl [S] w1).setCell (by simp) _;generalize w1.setCell ⟨S,i*4,none⟩ (.bool true)=w2 at *;have hR2:=hB1.rb.setS f2 hs2 (by rw[qbf]);obtain⟨D2,hD2⟩:=zex (D1.setIfInBounds (i*4) (.bool true));rw[<-hD2]at hR2 hs2;have k0:w2.cell? ⟨X,0,none⟩=some (.int .i64 xk):=f2.cell (by rw[cell_of hx1];rfl) (by simp;exact hXS);have k4:w2.cell? ⟨X,4,none⟩=some (.slice da dl dl):=f2.cell (by rw[cell_of hx1];rfl) (by simp;exact hXS);have hXO':X∉[O]:=by simp;exact hXO
     have s0:∀x,(sup [O] w2.drew x).cell? ⟨X,0,none⟩=some (.int .i64 xk):=λx=>(qcm [O] w2.drew x).cell (show w2.drew.cell? _=_ from k0) hXO'
     have s4:∀x,(sup [O] w2.drew x).cell? ⟨X,4,none⟩=some (.slice da dl dl):=λx=>(qcm [O] w2.drew x).cell (show w2.drew.cell? _=_ from k4) hXO'
     have H2:=zhd4 hR2 f2 hD2 hs2;clear hB1 hx1 hXO hXS hidx r0 r1 r3 hsz hX hR2 hD2 f2 k0 k4 hXO' hs2;refine qb3 9 [(false,0),(false,1),(false,2),(false,3),(false,4),(false,5),(true,6),(true,7),(true,8)] [O] (by kernel_rfl) (by kernel_rfl) (λ_ _ d _ _ h=>by cases d<;>exact h) ?_;simp only[qak,qam,qaz,qa0,qad,qaj,qbk];refine qb0 6 rfl ?_;simp only[qah,qan,qad,qaj,qak,qam];repeat (go_big_quiet_step (fail))
     refine wpQuiet_nil ?_;clear s0 s4;refine qb6 rfl ?_;intro X1 hX1;have hR2:=H2.out.1.fr (Fr.drew1 [] w2);have hml:=H.out.2.2.2 _ (qa8 HM.out);have hc:=qzy da xd.length xd w2.drew (hR2.ents.dat _ (qa8 HM.out)) (by have:xd.length≤2147483647:=hml;omega);rw[<-HD.out]at hc;have HC:=zhd2 hc hml;clear hc hml hR2;go_wp2_with (go_at_call 37;refine HC.o0.mono ?_;rintro e w3 ⟨a3,cc,rfl,r3,l3,m3,b3,f3⟩);refine hX1.out _ _ (f3.mono (by simp)) ?_;clear hX1 X1;have H3:=zhd5 r3 l3 m3 b3 f3;clear r3 l3 m3 b3 f3;refine qb6 rfl ?_;intro X1 hX1;go_wp2_with (go_at_call 29;refine (qrn a3 xd.length cc _ H3.out.2.1 H3.out.2.2.1).mono ?_;rintro e w4 ⟨rfl,rfl⟩);refine hX1.out _ _ (Fr.refl _ _) ?_;clear hX1 X1;refine qb6 rfl ?_;intro X1 hX1;have fw:Fr [O,S] w w4:=by have:=H1.out.1.fr.trans ((H2.out.2.1.mono (λx hx=>.inl (by simp at hx;simp[hx]))).trans (((Fr.drew1 [] w2).trans H3.out.2.2.2.2).mono (by simp)));exact this
     have hset:=qxb g O S gv tv _ ms C1 D2 i _ (xk:Nat) a3 xd.length xd w4 (H2.out.1.fr ((Fr.drew1 [] w2).trans H3.out.2.2.2.2)) HM.out ⟨H3.out.1.cs,qae _,qar H3.out.2.1 H3.out.2.2.1,λh=>by have:=H3.out.1.nil h;have:=H3.out.2.1;omega⟩ (by have:xd.length≤2147483647:=HC.l1;omega) (H.out.2.2.1 _ fw);have HS:=zhd hset;clear hset fw;go_wp2_with (go_at_call 79;refine HS.out.mono ?_;rintro e w5 ⟨rfl,f5,C2,hR5,hC1,hC2⟩);refine hX1.out _ _ f5 ?_;clear hX1 X1;have H5:=zhd4 f5 hR5 hC1 hC2;clear f5 hR5 hC1 hC2;refine qcq ?_;go_wp2;go_roundg k;case measure=>omega
     case rel=>
      obtain⟨f5,hR5,hC1,hC2⟩:=H5.out;obtain⟨hB1,hx1,hXO,hXS,hidx,r0,r1,r3,hsz,hX⟩:=H1.out;obtain⟨hR2,f2,hD2,hs2⟩:=H2.out;obtain⟨q3,l3,m3,b3,f3⟩:=H3.out;have rd:=hB1.deep i (qae _) (by rw[<-H.out.2.1];omega);have fF:Fr [O,S] w1 w5:=((f2.mono (λx hx=>.inl (by simp at hx;simp[hx]))).trans (((Fr.drew1 [] w2).trans f3).mono (by simp))).trans (f5.mono (λx hx=>.inl (by simp at hx;simp[hx])));have hDo:∀j,j≠i*4→D2[j]?=D1[j]?:=λj hj=>by rw[hD2,qaa (qdx hj)]
      refine⟨i+1,C2,D2,rfl,by omega,hB1.next HM.out hR5 fF hC1 (λj hj=>hDo j (by omega)) ?_ ?_⟩
      ·have:first1 (ms.map (·.1)) i ⟨xk,xa,xs,xc,xd,xb,xo⟩=some (.ok (whole ⟨xk,xa,xs,xc,xd,xb,xo⟩ xk xd,0)):=by unfold first1;rw[if_neg h6,if_neg h7]
       rw[this];refine⟨by rw[hD2];exact qal (by omega),by rw[hDo _ (by omega)];exact r1,by rw[hDo _ (by omega)];exact rd,by decide,a3,xd.length,hC2,?_,λy hy=>?_,HC.l1⟩
       ·show lib.Rd w5 a3 xd.length xd;exact Rd.frS ⟨q3.cs,qae _,qar l3 m3,λh=>by have:=q3.nil h;omega⟩ f5 (λx hx hm=>by have:=(b3 x hx).1;have:=lt_of_block hR2.ob;simp at hm;simp at *;omega)
       ·have:=(b3 y hy).1;have h1:=lt_of_block hR2.ob;have h2:=lt_of_block hR2.sb;have:w2.drew.heap.size=w2.heap.size:=rfl;omega
      ·have:baseV (ms.map (·.1)) i ⟨xk,xa,xs,xc,xd,xb,xo⟩ = .nilIface:=by unfold baseV;rw[if_neg h6,if_neg h7]
       rw[this,hDo _ (by omega)];exact r3
  ·obtain rfl:i=n:=by omega
   go_wp2;go_end0;exact⟨rfl,C1,D1,HL.out⟩
theorem qzf (p:St→Bool):∀(W:List St) (j:Nat) (s:St),(∀t,t<j→∀y,W[t]?=some y→p y=false)→W[j]?=some s→p s=true→W.find? p=some s
 | [],j,s,_,h,_=>by simp at h
 | x::t,0,s,_,h,hs=>by
  simp only[qac,qaw]at h;rw[qhn,h,hs]
 | x::t,j+1,s,hn,h,hs=>by rw[qhn,hn 0 (by omega) x rfl];exact qzf p t j s (λk hk y hy=>hn (k+1) (by omega) y (by simpa using hy)) (by simpa using h) hs
def Tried (w:World) (g O S:Nat) (gv tv:Value) (la:Option Addr) (ms:List EM) (W:List St) (i:Nat) (T:St) (e:Ending) (w':World):Prop:=
 match T with
 | none=>e = .returned (.bool false)∧Fr [] w w'
 | some s=>e = .returned (.bool true)∧Fr [O,S] w w'∧∃C' D',Rb w' g O S gv tv la ms C' D'∧Sts w' O S C' D' (ms.map (·.1)) (W.set i (some s))
theorem zeb (g O S:Nat) (gv tv:Value) (la:Option Addr) (ms:List EM) (C D:Array Value) (W:List St) (i:Nat) (m:EM) (w:World) (h:Rb w g O S gv tv la ms C D) (hs:Sts w O S C D (ms.map (·.1)) W) (hm:ms[i]?=some m) (hW:W[i]?=some none)
  (hp:∀w',Fr [O,S] w w'→obj.Pw w') (hk:(m.1.kind=6∧∃q,atOf (ms.map (·.1)) i m.1.off=some q)∨m.1.kind=7) :
  Calls Tryz.prog 48 #[.pointer (some ⟨g,0,none⟩),.int .i64 i] w (Tried w g O S gv tv la ms W i (try1 (ms.map (·.1)) W i m.1)):=by
 obtain⟨n,hn⟩:=zex ms.length;have hin:i<n:=by rw[hn];exact (qa9.1 hm).1
 have hfew:n≤4096:=by rw[hn];exact h.few
 have hwl:W.length=n:=by rw[hs.len,qap,hn]
 have b1:=cell_of h.box 1;have b2:=cell_of h.box 2;simp only[qag,qac,qaf]at b1 b2;rw[<-hn]at b1 b2;have hDs:D.size=n*4:=by rw[h.sc,hn]
 have hCs:C.size=n*5:=by rw[h.oc,hn]
 have hbase:=hs.base i m.1 (by rw[qbl,hm];rfl);obtain⟨T,hT⟩:=zex (try1 (ms.map (·.1)) W i m.1);rw[<-hT];have H:=zhd9 h hs hm hW hp hn hDs hCs hwl;clear h hs hm hW hp hn;rcases hk with⟨hk,q,hq⟩|hk
 ·have hbv:baseV (ms.map (·.1)) i m.1 = .iface 123 (.int .i64 q):=by unfold baseV;rw[if_pos hk,hq];rfl
  rw[hbv]at hbase;have y3:w.cell? ⟨S,i*4+3,none⟩=some (.iface 123 (.int .i64 q)):=by rw[cell_of H.out.1.sb];exact hbase
  have hqn:q<n:=by have:=List.mem_of_find?_eq_some hq;simp at this;omega
  have hTq:T=onto m.1 (W[q]?.getD none):=by rw[hT];unfold try1;rw[if_pos hk,hq]
  have hta:∀w:World,(Instr.typeAssert (.iface 123 (.int .i64 q)) 98 123 true).run Tryz.prog w = .ok (.tuple #[.int .i64 q,.bool true]) w:=λ_=>by kernel_rfl
  clear hbase hbv hq hk hT hwl;go_enter Tryz.func48,Tryz.ntmps48;go_upto_region 13 with fail;clear y3 hta;obtain⟨s,hsq⟩:∃s,W[q]?=some s:=⟨W[q]'(by rw[H.out.2.2.2.2.2.2.2.2];omega),qai _⟩;rw[hsq,qi3]at hTq;have hst:=H.out.2.1.st q s hsq;have gq:decide (((q:Nat):Int)<0)=false:=by simp
  match s,hst,hTq,hsq with
  | none,hst,hTq,hsq=>
   have y0:w.cell? ⟨S,q*4,none⟩=some (.bool false):=by rw[cell_of H.out.1.sb];exact hst.1
   have HT:=zhd hTq;clear hst hTq hsq b1;go_wp2;go_ret;rw[HT.out];exact⟨rfl,Fr.refl _ _⟩
  | some (.error x),hst,hTq,hsq=>
   have y0:w.cell? ⟨S,q*4,none⟩=some (.bool true):=by rw[cell_of H.out.1.sb];exact hst.1
   have y1:w.cell? ⟨S,q*4+1,none⟩=some (.int .i64 x):=by rw[cell_of H.out.1.sb];exact hst.2.1
   have hx:=hst.2.2;have gx:((x:Int)!=0)=true:=by simp;omega
   have HT:=zhd3 hTq hst hx;clear hst hTq hsq b1 hx;go_upto_region 16 with fail;have hgS:g∉[S]:=by simp;exact H.out.1.gS
   have s2:∀x,(sup [S] w.drew x).cell? ⟨g,2,none⟩=some (.slice (some ⟨S,0,none⟩) n n):=λx=>(qcm [S] w.drew x).cell (show w.drew.cell? _=_ from b2) hgS
   refine qb3 24 [(false,0),(false,1),(false,2),(false,3),(false,4),(false,5),(false,6),(false,7),(false,8),(false,9),(false,10),(false,11),(false,12),(false,13),(false,14),(false,15),(false,16),(true,17),(false,18),(false,19),(true,20),(false,21),(false,22),(true,23)] [S] (by kernel_rfl) (by kernel_rfl) (λ_ _ d _ _ h=>by cases d<;>exact h) ?_;simp only[qak,qam,qaz,qa0,qad,qaj,qbk];refine qb0 17 rfl ?_;simp only[qah,qan,qad,qaj,qak,qam];repeat (go_big_quiet_step (fail))
   refine wpQuiet_nil ?_;clear s2 hgS;obtain⟨w1,hw1⟩:=zex w.drew;have fd:Fr [] w w1:=by rw[hw1];exact Fr.drew1 [] w
   replace b2:w1.cell? ⟨g,2,none⟩=some (.slice (some ⟨S,0,none⟩) n n):=fd.cell b2 (by simp);replace y1:w1.cell? ⟨S,q*4+1,none⟩=some (.int .i64 x):=fd.cell y1 (by simp);have hR:=H.out.1.fr fd;rw[<-hw1];clear hw1;have r0:D[i*4]?=some (.bool false):=(H.out.2.1.st i none H.out.2.2.2.1).1;have r1:D[i*4+1]?=some (.int .i64 0):=(H.out.2.1.st i none H.out.2.2.2.1).2;have v0:w1.cell? ⟨S,i*4,none⟩=some (.bool false):=by rw[cell_of hR.sb];exact r0
   have z0:=qau hR.sb (i*4);have hs4:=qax (o:=i*4) hR.sb (.bool true);have f4:Fr [S] w1 (w1.setCell ⟨S,i*4,none⟩ (.bool true)):=(Fr.refl [S] w1).setCell (by simp) _;have v1:(w1.setCell ⟨S,i*4,none⟩ (.bool true)).cell? ⟨S,i*4+1,none⟩=some (.int .i64 0):=by rw[cell_of hs4,qaa (by omega)];exact r1
   have z1:=qau hs4 (i*4+1);have hR4:=hR.setS f4 hs4 (by rw[qbf]);have hs5:=qax (o:=i*4+1) hs4 (.int .i64 x);have f5:Fr [S] (w1.setCell ⟨S,i*4,none⟩ (.bool true)) ((w1.setCell ⟨S,i*4,none⟩ (.bool true)).setCell ⟨S,i*4+1,none⟩ (.int .i64 x)):=(Fr.refl [S] _).setCell (by simp) _;have hR5:=hR4.setS f5 hs5 (by rw[qbf]);have fF:=f4.trans f5;have H4:=zhd7 hR5 fF fd r0 r1 f4 f5;clear hR r0 r1 hs4 f4 hR4 hs5 f5 hR5 fF fd y0;clear b2;refine qb6 rfl ?_;intro X1 hX1;go_wp2;refine hX1.out _ _ (Fr.refl _ _) ?_;clear hX1 X1 y1;refine qb0 2 rfl ?_;simp only[qah,qan,qad,qaj,qak,qam];repeat (go_big_quiet_step (fail))
   refine wpQuiet_nil ?_;refine qb6 rfl ?_;intro X1 hX1;go_wp2;refine hX1.out _ _ H4.out.2.2.2.2.2.1 ?_;clear hX1 X1 v0 z0;refine qb0 2 rfl ?_;simp only[qah,qan,qad,qaj,qak,qam];repeat (go_big_quiet_step (fail))
   refine wpQuiet_nil ?_;refine qb6 rfl ?_;intro X1 hX1;go_wp2;refine hX1.out _ _ H4.out.2.2.2.2.2.2 ?_;clear hX1 X1 v1 z1;refine qcq ?_;go_wp2;go_ret;obtain⟨hR5,fF,fd,r0,r1,f4,f5⟩:=H4.out;obtain⟨hTq,hst,hx⟩:=HT.out;rw[hTq];have fT:=(fd.mono (T:=[O,S]) (by simp)).trans (fF.mono (T:=[O,S]) (λx hx=>.inl (by simp at hx;simp[hx])));refine⟨rfl,fT,C,_,hR5,H.out.2.1.one i _ (λ_ _=>rfl) (λj hj=>by rw[qaa (by omega),qaa (by omega)]) fT ⟨?_,?_,hx⟩⟩
   ·rw[qaa (by omega)];exact qal (by omega)
   ·exact qal (by rw[qbf];omega)
  | some (.ok (ob,d)),hst,hTq,hsq=>
   have y0:w.cell? ⟨S,q*4,none⟩=some (.bool true):=by rw[cell_of H.out.1.sb];exact hst.1
   have y1:w.cell? ⟨S,q*4+1,none⟩=some (.int .i64 0):=by rw[cell_of H.out.1.sb];exact hst.2.1
   have y2:w.cell? ⟨S,q*4+2,none⟩=some (.int .i64 d):=by rw[cell_of H.out.1.sb];exact hst.2.2.1
   obtain⟨hd,ba,bc,ho,hrd,hoff,hle⟩:=hst.2.2.2;have o0:w.cell? ⟨O,q*5,none⟩=some (.int .i64 ob.kind):=by rw[cell_of H.out.1.ob];exact ho 0 _ rfl
   have o1:w.cell? ⟨O,q*5+1,none⟩=some (.slice ba ob.body.length bc):=by rw[cell_of H.out.1.ob];exact ho 1 _ rfl
   obtain⟨bl,hbl⟩:=zex ob.body.length;obtain⟨kd,hkd⟩:=zex ob.kind;rw[<-hbl]at o1;rw[<-hkd]at o0;have gx:((0:Int)!=0)=false:=by decide
   have fd:=Fr.drew1 [] w;have hfin:=qkq g O S gv tv la ms C D i m ob.kind ba bc ob.body d w.drew (H.out.1.fr fd) H.out.2.2.1 (hrd.fr fd) hoff (by omega) (H.out.2.2.2.2.1 _ (fd.mono (by simp))) (H.out.2.1.st i none H.out.2.2.2.1).2 (λw' f=>H.out.2.2.2.2.1 _ ((fd.mono (by simp)).trans f));rw[<-hbl,<-hkd]at hfin;have HT:=zhd4 hTq hfin hkd fd;have ew:wrap64 ((d:Int)+1)=((d+1:Nat):Int):=by unfold wrap64;omega
   clear hst hTq hsq hrd hoff hle hfin hbl hkd fd;go_upto_region 12 with fail;refine qcu 27 (by kernel_rfl) (by kernel_rfl) ?_;simp only[qah,qan,qad,qaj];repeat (go_big_quiet_step (fail))
   refine wpQuiet_nil ?_;clear y0 y1 y2 o0 o1 b1 b2;go_wp2_with (go_at_call 80;refine HT.out.2.1.mono ?_;rintro e w2 ⟨rfl,f2,C2,D2,hR2,hF2⟩;have H2:=zhd3 f2 hR2 hF2;clear f2 hR2 hF2);go_ret;obtain⟨f2,hR2,hF2⟩:=H2.out;obtain⟨hTq,_,hkd,fd⟩:=HT.out;rw[hTq];rw[hkd]at hF2;have fT:=(fd.mono (T:=[O,S]) (by simp)).trans f2;exact⟨rfl,fT,C2,D2,hR2,H.out.2.1.one i _ hF2.1 hF2.2.1 fT (hF2.st (lt_of_block (H.out.1.fr fd).ob) (lt_of_block (H.out.1.fr fd).sb))⟩
 ·have hbv:baseV (ms.map (·.1)) i m.1 = .iface 124 (.string (str m.1.base)):=by unfold baseV;rw[if_neg (by omega),if_pos hk]
  rw[hbv]at hbase;have y3:w.cell? ⟨S,i*4+3,none⟩=some (.iface 124 (.string (str m.1.base))):=by rw[cell_of H.out.1.sb];exact hbase
  have hT7:T=onto m.1 ((W.find? (idIs m.1.base)).getD none):=by rw[hT];unfold try1;rw[if_neg (by omega)]
  obtain⟨sb,hsb⟩:=zex (str m.1.base);rw[<-hsb]at y3;have hta:∀w:World,(Instr.typeAssert (.iface 124 (.string sb)) 98 123 true).run Tryz.prog w = .ok (.tuple #[.int .i64 0,.bool false]) w:=λ_=>by kernel_rfl
  have htb:∀w:World,(Instr.typeAssert (.iface 124 (.string sb)) 98 124 false).run Tryz.prog w = .ok (.string sb) w:=λ_=>by kernel_rfl
  have H7:=zhd2 hT7 hsb;clear hbase hbv hk hT hwl hT7 hsb;go_enter Tryz.func48,Tryz.ntmps48;go_wp2;clear y3 hta htb;go_loopg [5,9,38] n (λk s5 s9 s38 wr=>∃j:Nat,s38 = .int .i64 (j:Nat)∧j+k=n∧s5 = .int .i64 (-1)∧wr=w∧∀t,t<j→∀s,W[t]?=some s→idIs m.1.base s=false);case atStart=>exact⟨0,rfl,by omega,rfl,rfl,λt ht=>by omega⟩
  case round=>
   obtain⟨q,rfl,hqk,rfl,hwr,hno⟩:=hrel;subst hwr;have HN:=zhd hno;clear hno;by_cases hqn:q<n
   ·obtain⟨k,rfl⟩:∃k,gk=k+1:=⟨gk-1,by omega⟩;obtain⟨s,hsq⟩:∃s,W[q]?=some s:=⟨W[q]'(by rw[H.out.2.2.2.2.2.2.2.2];omega),qai _⟩;have hst:=H.out.2.1.st q s hsq;have hnext:idIs m.1.base s=false→∀t,t<q+1→∀s,W[t]?=some s→idIs m.1.base s=false:=λh t ht y hy=>by
     by_cases htq:t=q
     ·subst htq;rw[hsq]at hy;obtain rfl:=qbm hy;exact h
     ·exact HN.out t (by omega) y hy
    match s,hst,hsq,hnext with
    | none,hst,hsq,hnext=>
     have y0:wr.cell? ⟨S,q*4,none⟩=some (.bool false):=by rw[cell_of H.out.1.sb];exact hst.1
     have HX:=zhd (hnext rfl);clear hst hsq hnext;go_wp2;go_roundg k;case measure=>omega
     case rel=>exact⟨q+1,rfl,by omega,rfl,rfl,HX.out⟩
    | some (.error x),hst,hsq,hnext=>
     have y0:wr.cell? ⟨S,q*4,none⟩=some (.bool true):=by rw[cell_of H.out.1.sb];exact hst.1
     have y1:wr.cell? ⟨S,q*4+1,none⟩=some (.int .i64 x):=by rw[cell_of H.out.1.sb];exact hst.2.1
     have hx:=hst.2.2;have gx:((x:Int)==0)=false:=by simp;omega
     have HX:=zhd (hnext rfl);clear hst hsq hnext hx;go_wp2;go_roundg k;case measure=>omega
     case rel=>exact⟨q+1,rfl,by omega,rfl,rfl,HX.out⟩
    | some (.ok (ob,d)),hst,hsq,hnext=>
     have yy0:wr.cell? ⟨S,q*4,none⟩=some (.bool true):=by rw[cell_of H.out.1.sb];exact hst.1
     have yy1:wr.cell? ⟨S,q*4+1,none⟩=some (.int .i64 0):=by rw[cell_of H.out.1.sb];exact hst.2.1
     obtain⟨si,hsi⟩:=zex (str ob.id);have yi:wr.cell? ⟨O,q*5+2,none⟩=some (.string si):=by obtain⟨_,ba,bc,ho,_⟩:=hst.2.2.2;rw[cell_of H.out.1.ob,hsi];exact ho 2 _ rfl
     by_cases hid:ob.id=m.1.base
     ·have gs:(si.toList==sb.toList)=true:=by rw[hsi,H7.l1,hid,str_toList];exact beq_self_eq_true _
      have hTq:T=onto m.1 (some (.ok (ob,d))):=by rw[H7.o0,qzf (idIs m.1.base) W q _ (λt ht y hy=>HN.out t ht y hy) hsq (by simpa[idIs] using hid)];rfl
      clear hid hnext hsi;go_upto_region 13 with fail;clear gs yi yy0 yy1;have gq:decide (((q:Nat):Int)<0)=false:=by simp
      have y0:wr.cell? ⟨S,q*4,none⟩=some (.bool true):=by rw[cell_of H.out.1.sb];exact hst.1
      have y1:wr.cell? ⟨S,q*4+1,none⟩=some (.int .i64 0):=by rw[cell_of H.out.1.sb];exact hst.2.1
      have y2:wr.cell? ⟨S,q*4+2,none⟩=some (.int .i64 d):=by rw[cell_of H.out.1.sb];exact hst.2.2.1
      obtain⟨hd,ba,bc,ho,hrd,hoff,hle⟩:=hst.2.2.2;have o0:wr.cell? ⟨O,q*5,none⟩=some (.int .i64 ob.kind):=by rw[cell_of H.out.1.ob];exact ho 0 _ rfl
      have o1:wr.cell? ⟨O,q*5+1,none⟩=some (.slice ba ob.body.length bc):=by rw[cell_of H.out.1.ob];exact ho 1 _ rfl
      obtain⟨bl,hbl⟩:=zex ob.body.length;obtain⟨kd,hkd⟩:=zex ob.kind;rw[<-hbl]at o1;rw[<-hkd]at o0;have gx:((0:Int)!=0)=false:=by decide
      have fd:=Fr.drew1 [] wr;have hfin:=qkq g O S gv tv la ms C D i m ob.kind ba bc ob.body d wr.drew (H.out.1.fr fd) H.out.2.2.1 (hrd.fr fd) hoff (by omega) (H.out.2.2.2.2.1 _ (fd.mono (by simp))) (H.out.2.1.st i none H.out.2.2.2.1).2 (λw' f=>H.out.2.2.2.2.1 _ ((fd.mono (by simp)).trans f));rw[<-hbl,<-hkd]at hfin;have HT:=zhd4 hTq hfin hkd fd;have ew:wrap64 ((d:Int)+1)=((d+1:Nat):Int):=by unfold wrap64;omega
      clear hst hTq hsq hrd hoff hle hfin hbl hkd fd;go_upto_region 12 with fail;refine qcu 27 (by kernel_rfl) (by kernel_rfl) ?_;simp only[qah,qan,qad,qaj];repeat (go_big_quiet_step (fail))
      refine wpQuiet_nil ?_;clear y0 y1 y2 o0 o1 b1 b2;go_wp2_with (go_at_call 80;refine HT.out.2.1.mono ?_;rintro e w2 ⟨rfl,f2,C2,D2,hR2,hF2⟩;have H2:=zhd3 f2 hR2 hF2;clear f2 hR2 hF2);go_ret;obtain⟨f2,hR2,hF2⟩:=H2.out;obtain⟨hTq,_,hkd,fd⟩:=HT.out;rw[hTq];rw[hkd]at hF2;have fT:=(fd.mono (T:=[O,S]) (by simp)).trans f2;exact⟨rfl,fT,C2,D2,hR2,H.out.2.1.one i _ hF2.1 hF2.2.1 fT (hF2.st (lt_of_block (H.out.1.fr fd).ob) (lt_of_block (H.out.1.fr fd).sb))⟩
     ·have gs:(si.toList==sb.toList)=false:=by rw[hsi,H7.l1,str_toList,str_toList];simpa using hid
      have HX:=zhd (hnext (by simpa[idIs] using hid));clear hst hsq hnext hid hsi;go_wp2;go_roundg k;case measure=>omega
      case rel=>exact⟨q+1,rfl,by omega,rfl,rfl,HX.out⟩
   ·have hT0:T=none:=by
     rw[H7.o0,qle.2 (λx hx=>?_)]
     ·rfl
     ·obtain⟨t,ht⟩:=qdl.1 hx;have:=(qa9.1 ht).1;rw[HN.out t (by rw[H.out.2.2.2.2.2.2.2.2]at this;omega) x ht];simp
    have HX:=zhd hT0;clear hT0;obtain rfl:q=n:=by omega
    go_wp2;go_ret;rw[HX.out];exact⟨rfl,Fr.refl _ _⟩
end Go.Proofs.YtkmpfgpfbmeihaaGreatDoor.pk
namespace Go.Proofs.YtkmpfgpfbmeihaaGreatDoor.pk
def Und (l:List Ent) (W:List St):Prop:=∀i x,l[i]?=some x→W[i]?=some none→(x.kind=6∧∃q,atOf l i x.off=some q)∨x.kind=7
theorem qu6 (l:List Ent):Und l (firsts l):=by
 intro i x hx hW;rw[qok l i x hx]at hW;have h:=qbm hW;unfold first1 at h;split at h
 ·rename_i h6;split at h
  ·cases h
  ·rename_i q hq;exact .inl ⟨h6,q,hq⟩
 ·split at h
  ·rename_i h7;exact .inr h7
  ·cases h
theorem Und.set {l:List Ent} {W:List St} (h:Und l W) (i:Nat) (s:Except Nat (Obj×Nat)):Und l (W.set i (some s)):=by
 intro k x hx hW;rw[List.getElem?_set]at hW;split at hW
 ·split at hW
  ·cases hW
  ·cases hW
 ·exact h k x hx hW
theorem Und.pass {l:List Ent}:∀(n i:Nat) (W:List St) (more:Bool),Und l W→Und l (pass l n i W more).1
 | 0,i,W,more,h=>h
 | n+1,i,W,more,h=>by
  rw[pk.pass];split
  ·split
   ·exact Und.pass n (i+1) W more h
   ·exact Und.pass n (i+1) _ true (h.set i _)
  ·exact Und.pass n (i+1) W more h
theorem Und.ask {l:List Ent} {kn:List Kn}:∀(n i:Nat) (W:List St) {W2:List St},Und l W→ask l kn n i W=some W2→Und l W2
 | 0,i,W,W2,h,e=>by cases e
 | n+1,i,W,W2,h,e=>by
  rw[pk.ask]at e;split at e
  ·split at e
   ·split at e
    ·obtain rfl:=qbm e;exact h.set i _
    ·exact Und.ask n (i+1) W h e
   ·exact Und.ask n (i+1) W h e
  ·exact Und.ask n (i+1) W h e
open Go Go.RowKit lib bm
def pV (q:Option Nat):Value:=.pointer (q.map λb=>⟨b,0,none⟩)
def pD:Option Nat→DataW Unit
 | none=>.nil
 | some b=>.lit (.int .i64 b)
def pR:Value→Option (DataW Unit×List MemPlace)
 | .pointer none=>some (.nil,[])
 | .pointer (some a)=>if a=⟨a.block,0,none⟩ then some (.lit (.int .i64 (a.block:Nat)),[]) else none
 | _=>none
theorem ze1 (q:Option Nat):pR (pV q)=some (pD q,[]):=by
 cases q with
 | none=>rfl
 | some b=>simp[pR,pV,pD]
theorem qt0 {v:Value} {z:DataW Unit×List MemPlace} (h:pR v=some z):∃q,v=pV q∧z=(pD q,[]):=by
 unfold pR at h;split at h
 ·exact⟨none,rfl,(qbm h).symm⟩
 ·rename_i a;split at h
  ·rename_i he;refine⟨some a.block,?_,(qbm h).symm⟩;unfold pV;rw[he];rfl
  ·cases h
 ·cases h
theorem qt1 {a b:Option Nat} (h:pD a=pD b):a=b:=by
 cases a with
 | none=>cases b with
  | none=>rfl
  | some b=>cases h
 | some a=>cases b with
  | none=>cases h
  | some b=>
   simp only[pD,DataW.lit.injEq,Lit.int.injEq,true_and]at h
   rw[Int.ofNat.inj h]
def MapAt (w:World) (b:Nat):Prop:=∃es c,w.heap[b]?=some (.map es c)
theorem MapAt.ne {w:World} {b x:Nat} {c:Array Value} {t:TypeId} {f:Nat×Nat} (h:MapAt w b) (hx:w.heap[x]?=some (.cells c t f)):x≠b:=by rintro rfl;obtain⟨es,c,h⟩:=h;rw[h]at hx;cases hx
theorem _root_.Go.Proofs.YtkmpfgpfbmeihaaGreatDoor.lib.Cs.frM {w w':World} {b:Nat} {a:Option Addr} {vs:List Value} (h:Cs w a vs) (hb:MapAt w b) (f:Fr [b] w w'):Cs w' a vs:=by
 rcases h with h|⟨g,o,rfl,h⟩
 ·exact .inl h
 ·refine .inr ⟨g,o,rfl,λj v hv=>?_⟩;have hc:=h j v hv;refine f.cell hc ?_;simp only[qa2];rintro rfl;obtain⟨es,c,hm⟩:=hb;simp[World.cell?,hm]at hc
theorem _root_.Go.Proofs.YtkmpfgpfbmeihaaGreatDoor.lib.Rd.frM {w w':World} {b:Nat} {a:Option Addr} {c:Nat} {bs:List UInt8} (h:lib.Rd w a c bs) (hb:MapAt w b) (f:Fr [b] w w'):lib.Rd w' a c bs:=⟨h.cs.frM hb f,h.le,h.max,h.nil⟩
theorem Ents.frM {w w':World} {b:Nat} {a:Option Addr} {ms:List EM} (h:Ents w a ms) (hb:MapAt w b) (f:Fr [b] w w'):Ents w' a ms:=⟨h.cs.frM hb f,λm hm=>(h.dat m hm).frM hb f⟩
theorem Rb.frM {w w':World} {b g O S:Nat} {gv tv:Value} {la:Option Addr} {ms:List EM} {C D:Array Value} (h:Rb w g O S gv tv la ms C D) (hb:MapAt w b) (f:Fr [b] w w'):Rb w' g O S gv tv la ms C D:=
 ⟨f.blk h.box (by simp;exact hb.ne h.box),h.ents.frM hb f,f.blk h.ob (by simp;exact hb.ne h.ob),h.oc,f.blk h.sb (by simp;exact hb.ne h.sb),h.sc,h.gO,h.gS,h.OS,h.offl,h.offd,h.few⟩
theorem S1.frM {w w':World} {b O S:Nat} {C D:Array Value} {i:Nat} {s:St} (h:S1 w O S C D i s) (hb:MapAt w b) (f:Fr [b] w w'):S1 w' O S C D i s:=by
 match s,h with
 | none,h=>exact h
 | some (.error x),h=>exact h
 | some (.ok (o,d)),h=>obtain⟨h0,h1,h2,h3,ba,bc,h4,h5,h6,h7⟩:=h;exact⟨h0,h1,h2,h3,ba,bc,h4,h5.frM hb f,h6,h7⟩
theorem Sts.frM {w w':World} {b O S:Nat} {C D:Array Value} {l:List Ent} {W:List St} (h:Sts w O S C D l W) (hb:MapAt w b) (f:Fr [b] w w'):Sts w' O S C D l W:=
 ⟨h.len,λi s hs=>(h.st i s hs).frM hb f,h.base⟩
def kObj (k:Kn) (a:Option Addr) (c:Nat):Array Value:=#[.int .i64 k.kind,.slice a k.body.length c,.string (str k.id),.int .i64 0,.int .u32 0]
def KB (w:World) (O S p:Nat) (k:Kn):Prop:=p≠O∧p≠S∧∃a c,w.heap[p]?=some (.cells (kObj k a c) 34 (0,0))∧lib.Rd w a c k.body∧∀y∈blk a,y≠O∧y≠S
theorem KB.fr {w w':World} {O S p:Nat} {k:Kn} (h:KB w O S p k) (f:Fr [O,S] w w'):KB w' O S p k:=by obtain⟨h1,h2,a,c,h3,h4,h5⟩:=h;exact⟨h1,h2,a,c,f.blk h3 (by simp[h1,h2]),h4.frS f (λx hx=>by have:=h5 x hx;simp[this]),h5⟩
theorem KB.frM {w w':World} {b O S p:Nat} {k:Kn} (h:KB w O S p k) (hb:MapAt w b) (f:Fr [b] w w'):KB w' O S p k:=by obtain⟨h1,h2,a,c,h3,h4,h5⟩:=h;exact⟨h1,h2,a,c,f.blk h3 (by simp;exact hb.ne h3),h4.frM hb f,h5⟩
def KQ (w:World) (O S:Nat):Option Nat→Option Kn→Prop
 | none,none=>True
 | some p,some k=>KB w O S p k
 | _,_=>False
theorem KQ.map {w w':World} {O S:Nat} {q:Option Nat} {r:Option Kn} (h:KQ w O S q r) (m:∀p k,KB w O S p k→KB w' O S p k):KQ w' O S q r:=by
 match q,r,h with
 | none,none,_=>trivial
 | some p,some k,h=>exact m p k h
theorem qek:Maps.Keyed Tryz.prog 9:=Maps.string_keyed Tryz.underlying9
def Told (w:World) (O S bt N:Nat) (kn:List Kn):Prop:=∃D n,n≤N∧w.ownsMap Tryz.prog 9 pR bt n D∧∀id,Maps.has D (.string id)=true→∃q,D.atKey (.string id) .nil=pD q∧KQ w O S q (kfind kn id)
theorem qeg {w w':World} {S:List Nat} {P:Program} {k:TypeId} {R:Value→Option (DataW Unit×List MemPlace)} {b n:Nat} {D:DataW Unit} (h:w.ownsMap P k R b n D) (f:Fr S w w') (hb:b∉S):w'.ownsMap P k R b n D:=by obtain⟨es,clock,h1,h2⟩:=h;exact⟨es,clock,f.blk h1 hb,h2⟩
theorem Told.at_ {w:World} {O S bt N:Nat} {kn:List Kn} (h:Told w O S bt N kn):MapAt w bt:=by obtain⟨D,n,_,⟨es,clock,h1,_⟩,_⟩:=h;exact⟨es,clock,h1⟩
theorem Told.fr {w w':World} {O S bt N:Nat} {kn:List Kn} (h:Told w O S bt N kn) (f:Fr [O,S] w w') (hO:bt≠O) (hS:bt≠S):Told w' O S bt N kn:=by obtain⟨D,n,h1,h2,h3⟩:=h;refine⟨D,n,h1,qeg h2 f (by simp[hO,hS]),λid hi=>?_⟩;obtain⟨q,k1,k2⟩:=h3 id hi;exact⟨q,k1,k2.map λp k hk=>hk.fr f⟩
theorem Told.mono {w:World} {O S bt N N':Nat} {kn:List Kn} (h:Told w O S bt N kn) (hn:N≤N'):Told w O S bt N' kn:=by obtain⟨D,n,h1,h2,h3⟩:=h;exact⟨D,n,qar h1 hn,h2,h3⟩
theorem Told.put {w w':World} {O S bt n:Nat} {kn:List Kn} {D:DataW Unit} {id:List UInt8} {q:Option Nat} (hm:Maps.IsMap D) (h3:∀id,Maps.has D (.string id)=true→∃q,D.atKey (.string id) .nil=pD q∧KQ w O S q (kfind kn id))
  (hb:MapAt w bt) (f:Fr [bt] w w') (h2:w'.ownsMap Tryz.prog 9 pR bt (n+1) (D.put (.string id) (pD q))) (hq:KQ w O S q (kfind kn id)):Told w' O S bt (n+1) kn:=by
 refine⟨_,_,qae _,h2,λid' hi=>?_⟩;by_cases he:id'=id
 ·subst he;refine⟨q,Maps.atKey_put_same hm (by simp[WideAt.IsKeyLit]) _ _,hq.map λp k hk=>hk.frM hb f⟩
 ·have hne:Lit.string id'≠Lit.string id:=by simp[he]
  rw[Maps.has_put_other hne]at hi;obtain⟨q',k1,k2⟩:=h3 id' hi;exact⟨q',by rw[Maps.atKey_put_other hne];exact k1,k2.map λp k hk=>hk.frM hb f⟩
def Got (w:World) (kn:List Kn) (id:List UInt8) (e:Ending) (w':World):Prop:=Fr [] w w'∧match kn.find? λk=>k.id==id with
 | none=>e = .returned (.tuple #[.int .i64 0,.slice none 0 0,.bool false])
 | some k=>∃a c,e = .returned (.tuple #[.int .i64 k.kind,.slice a k.body.length c,.bool true])∧lib.Rd w' a c k.body∧(∀y∈blk a,w.heap.size≤y)∧k.body.length≤140737488355200
def Getter (w:World) (T:List Nat) (gv:Value) (kn:List Kn):Prop:=
 (gv = .nilFunc∧kn=[])∨∃fid cv,gv = .func (.func fid) #[] cv∧(∀args w,(callFunc fid args).run Tryz.prog w = .ok (.enter fid args) w)∧∀id w',id.length≤40→Fr T w w'→Calls Tryz.prog fid (#[.string (str id)]++cv) w' (Got w' kn id)
theorem Getter.fr {w w':World} {T:List Nat} {gv:Value} {kn:List Kn} (h:Getter w T gv kn) (f:Fr T w w'):Getter w' T gv kn:=by
 rcases h with h|⟨fid,cv,h1,h2,h3⟩
 ·exact .inl h
 ·exact .inr ⟨fid,cv,h1,h2,λid w2 hl f2=>h3 id w2 hl (f.trans f2)⟩
theorem zef {kn:List Kn} (h:kn.Pairwise λa b=>a.id≠b.id) (id:List UInt8):kfind kn id=match kn.find? λk=>k.id==id with
  | none=>none
  | some k=>if oid k.kind k.body=id then some k else none:=by
 unfold kfind;induction kn with
 | nil=>rfl
 | cons k t ih=>
  rw[qcp]at h;rw[qhn,qhn];by_cases he:k.id=id
  ·have e1:(k.id==id)=true:=by simpa using he
   rw[e1];by_cases ho:oid k.kind k.body=id
   ·have e2:(oid k.kind k.body==id)=true:=by simpa using ho
    rw[e2];simp[ho]
   ·have e2:(oid k.kind k.body==id)=false:=by simpa using ho
    rw[e2];simp only[Bool.and_false,if_neg ho];rw[qle];intro x hx;have:=h.1 x hx;simp;intro hxi;exact absurd (he.trans hxi.symm) this
  ·have e1:(k.id==id)=false:=by simpa using he
   rw[e1];simp only[zdf];exact ih h.2
theorem qg4:Tryz.prog.underlying 94=some (.map 9 144):=by kernel_rfl
theorem qi7 (w:World):(zeroValue 144).run Tryz.prog w = .ok (.pointer none) w:=by kernel_rfl
theorem zck (w:World):(binOp .neq 57 .nilFunc .nilFunc).run Tryz.prog w = .ok (.bool false) w:=by kernel_rfl
theorem qy9 (fid:FuncId) (cv:Array Value) (w:World):(binOp .neq 57 (.func (.func fid) #[] cv) .nilFunc).run Tryz.prog w = .ok (.bool true) w:=by kernel_rfl
def From (w:World) (O S bt N:Nat) (kn:List Kn) (id:List UInt8) (e:Ending) (w':World):Prop:=Fr [bt] w w'∧Told w' O S bt (N+1) kn∧∃q,e = .returned (pV q)∧KQ w' O S q (kfind kn id)
theorem zcl (g O S bt N:Nat) (gv:Value) (la:Option Addr) (ms:List EM) (C D:Array Value) (kn:List Kn) (id:List UInt8) (w:World) (h:Rb w g O S gv (.map (some bt)) la ms C D) (ht:Told w O S bt N kn) (hg:Getter w [O,S,bt] gv kn)
  (hd:kn.Pairwise λa b=>a.id≠b.id) (hN:N≤100000000) (hid:id.length≤40) (hp:obj.Pw w) :
  Calls Tryz.prog 81 #[.pointer (some ⟨g,0,none⟩),.string (str id)] w (From w O S bt N kn id):=by
 have b3:=cell_of h.box 3;have b4:=cell_of h.box 4;simp only[qag,qac,qaf]at b3 b4;have hat:=ht.at_;have htold:=ht;obtain⟨D0,n,hn,hown,hall⟩:=ht;have hkey:keyOf Tryz.prog 9 (.string (str id))=some (.string id):=by have:=WideMaps.keyOf_string_mk (P:=Tryz.prog) Tryz.underlying9 (s:=str id) (by rw[qtr];unfold maxLen;omega);exact this
 obtain⟨si,hsi⟩:=zex (str id);rw[<-hsi]at hkey ⊢;have hO:=lt_of_block h.ob;have hS:=lt_of_block h.sb;have H:=zhd12 h hat htold hn hown hall hkey hsi hd hp hO hS;clear h hat htold hn hown hall hkey hsi hO hS;by_cases hh:Maps.has D0 (.string id)=true
 ·obtain⟨q,hq,hkq⟩:=H.out.2.2.2.2.2.1 id hh;have HQ:=zhd2 hq hkq;have HH:=zhd hh;clear hq hkq hd hp hg hh;cases q with
  | none=>
   go_enter Tryz.func81,Tryz.ntmps81;go_wp2_with (at_lookup;refine wpList_lookup_own_ok _ rfl _ _ 94 rfl 9 144 qek qg4 pR (qi7 _) .nil [] rfl bt n D0 rfl H.out.2.2.2.2.1 _ (.string id) rfl H.out.2.2.2.2.2.2.1 ?_;intro v ps hv;rw[HH.out];obtain⟨q',rfl,hq'⟩:=qt0 hv;obtain rfl:q'=none:=qt1 ((congrArg Prod.fst hq').symm.trans HQ.out.1);simp only[pV,Option.map_none];clear hv hq');go_ret;exact⟨Fr.refl _ _,H.out.2.2.1.mono (by omega),none,rfl,HQ.out.2⟩
  | some p=>go_enter Tryz.func81,Tryz.ntmps81;go_wp2_with (at_lookup;refine wpList_lookup_own_ok _ rfl _ _ 94 rfl 9 144 qek qg4 pR (qi7 _) .nil [] rfl bt n D0 rfl H.out.2.2.2.2.1 _ (.string id) rfl H.out.2.2.2.2.2.2.1 ?_;intro v ps hv;rw[HH.out];obtain⟨q',rfl,hq'⟩:=qt0 hv;obtain rfl:q'=some p:=qt1 ((congrArg Prod.fst hq').symm.trans HQ.out.1);simp only[pV,qfr];clear hv hq');go_ret;exact⟨Fr.refl _ _,H.out.2.2.1.mono (by omega),some p,rfl,HQ.out.2⟩
 ·have hh':Maps.has D0 (.string id)=false:=by simpa using hh
  have HH:=zhd hh';clear hh hh' hd hp;rcases hg with⟨rfl,rfl⟩|⟨fid,cv,rfl,eg,hcall⟩
  ·have hfn:=zck;go_enter Tryz.func81,Tryz.ntmps81;go_wp2_with (at_lookup;refine wpList_lookup_own_ok _ rfl _ _ 94 rfl 9 144 qek qg4 pR (qi7 _) .nil [] rfl bt n D0 rfl H.out.2.2.2.2.1 _ (.string id) rfl H.out.2.2.2.2.2.2.1 ?_;intro v ps hv;rw[HH.out];obtain⟨q',rfl,hq'⟩:=qt0 hv;obtain rfl:q'=none:=qt1 ((congrArg Prod.fst hq').symm.trans (Maps.atKey_of_not_has HH.out _));simp only[pV,Option.map_none];clear hv hq');go_ret;exact⟨Fr.refl _ _,H.out.2.2.1.mono (by omega),none,rfl,trivial⟩
  ·have hfn:=qy9 fid cv;have HC:=zhd (hcall id);rw[<-H.out.2.2.2.2.2.2.2.1]at HC;clear hcall;go_enter Tryz.func81,Tryz.ntmps81;go_wp2_with (at_lookup;refine wpList_lookup_own_ok _ rfl _ _ 94 rfl 9 144 qek qg4 pR (qi7 _) .nil [] rfl bt n D0 rfl H.out.2.2.2.2.1 _ (.string id) rfl H.out.2.2.2.2.2.2.1 ?_;intro v ps hv;rw[HH.out];obtain⟨q',rfl,hq'⟩:=qt0 hv;obtain rfl:q'=none:=qt1 ((congrArg Prod.fst hq').symm.trans (Maps.atKey_of_not_has HH.out _));simp only[pV,Option.map_none];clear hv hq');refine (HC.out w hid (Fr.refl _ _)).mono ?_;rintro e w1 ⟨f1,hres⟩;have hn:=H.out.2.2.2.1;have htell:=zef H.out.2.2.2.2.2.2.2.2.1 id;have hsome:∀k,(kn.find? λk=>k.id==id)=some k→k.id=id:=λk hk=>by simpa using List.find?_some hk
   have b4:=f1.cell b4 (by simp);generalize (kn.find? λk=>k.id==id)=R at hres htell hsome;have hall1:∀wz,Fr [] w wz→∀id,Maps.has D0 (.string id)=true→∃q,D0.atKey (.string id) .nil=pD q∧KQ wz O S q (kfind kn id):=λwz fz id hi=>by obtain⟨q,k1,k2⟩:=H.out.2.2.2.2.2.1 id hi;exact⟨q,k1,k2.map λp k hk=>hk.fr (fz.mono (by simp))⟩
   have hfin:∀(wz w4:World) (q:Option Nat),Fr [] w wz→KQ wz O S q (kfind kn id)→w4.ownsMap Tryz.prog 9 pR bt (n+1) (D0.put (.string id) (pD q))→wz.grownBy w4 (some bt)→From w O S bt N kn id (.returned (pV q)) w4:=λwz w4 q fz hq ho hg=>by
    have hat:MapAt wz bt:=by obtain⟨es,c,hm⟩:=H.out.2.1;exact⟨es,c,fz.blk hm (by simp)⟩
    have f4:Fr [bt] wz w4:=(Fr.refl [bt] wz).grown hg (λk e=>.inl (by simp only[qaw]at e;simp[e]));exact⟨(fz.mono (by simp)).trans f4,(Told.put (H.out.2.2.2.2.1.isMap) (hall1 wz fz) hat f4 ho hq).mono (by omega),q,rfl,hq.map λp k hk=>hk.frM hat f4⟩
   have HF:=zhd hfin;clear hfin hall1 hfn;match R,hres,htell,hsome with
   | none,hres,htell,_=>
    subst hres;have HO:=zhd (qeg H.out.2.2.2.2.1 f1 (by simp));have HZ:=zhd2 f1 htell;clear f1 htell b3 hsome;go_wp2_with ((at_mapUpdate;refine wpList_mapUpdate_own _ rfl _ _ _ 94 rfl 9 144 qek qg4 pR bt n D0 rfl HO.out (by unfold maxLen;omega) _ _ (.string id) rfl rfl H.out.2.2.2.2.2.2.1 (pD none) [] (ze1 none) ?_;intro w4 hown4 hg4;have H4:=zhd2 hown4 hg4;clear hown4 hg4));go_ret;exact HF.out w1 w4 none HZ.out.1 (by rw[HZ.out.2];trivial) H4.o0 H4.l1
   | some k,hres,htell,hsome=>
    obtain⟨ka,kc,rfl,rd,new,hlen⟩:=hres;have hki:=hsome k rfl;have hidc:=obj.qyy k.kind ka kc k.body w1 rd hlen (H.out.2.2.2.2.2.2.2.2.2.1.fr f1);obtain⟨bl,hbl⟩:=zex k.body.length;obtain⟨sj,hsj⟩:=zex (str (oid k.kind k.body));obtain⟨kd,hkd⟩:=zex k.kind;rw[<-hsj]at hidc;rw[<-hbl,<-hkd]at hidc ⊢;by_cases ho:oid k.kind k.body=id
    ·have gs:(sj.toList==si.toList)=true:=by rw[hsj,H.out.2.2.2.2.2.2.2.1,ho];exact beq_self_eq_true _
     have HZ:=zhd9 f1 htell hidc rd new hki hbl hkd ho;clear f1 htell b3 hsome hidc rd new hlen hki hbl hsj hkd ho;go_upto_region 6 with (go_at_call 63;refine HZ.out.2.2.1.mono ?_;rintro e w2 ⟨rfl,f2⟩;have H2:=zhd f2;clear f2);clear gs;obtain⟨w3,hw3⟩:=zex (w2.alloc (Obj.cells #[.int .i64 kd,.slice ka bl kc,.string si,.int .i64 0,.int .u32 0] 34));obtain⟨p,hp⟩:=zex w2.heap.size;rw[<-hw3,<-hp];have f3:Fr [] w2 w3:=by rw[hw3];exact (Fr.refl [] w2).alloc _
     have hb3:w3.heap[p]?=some (.cells #[.int .i64 kd,.slice ka bl kc,.string si,.int .i64 0,.int .u32 0] 34 (0,0)):=by rw[hw3,hp];exact qay w2 _
     have b4:=(H2.out.trans f3).cell b4 (by simp);have fz:=HZ.out.1.trans (H2.out.trans f3);have HO:=zhd (qeg H.out.2.2.2.2.1 fz (by simp));have hkb:KB w3 O S p k:=by
      obtain⟨f1,htell,hidc,rd,new,hki,hbl,hkd,ho⟩:=HZ.out;have s1:=f1.size;have s2:=H2.out.size;have sO:=H.out.2.2.2.2.2.2.2.2.2.2.1;have sS:=H.out.2.2.2.2.2.2.2.2.2.2.2;refine⟨by omega,by omega,ka,kc,?_,rd.fr (H2.out.trans f3),λy hy=>?_⟩
      ·rw[hb3];unfold kObj;rw[<-hbl,<-hkd,hki,H.out.2.2.2.2.2.2.2.1]
      ·have:=new y hy;exact⟨by omega,by omega⟩
     have hq:KQ w3 O S (some p) (kfind kn id):=by rw[HZ.out.2.1];simp only[if_pos HZ.out.2.2.2.2.2.2.2.2];exact hkb
     have HQ:=zhd2 fz hq;clear fz hq hkb hb3 f3 hw3 hp;go_wp2_with ((at_mapUpdate;refine wpList_mapUpdate_own _ rfl _ _ _ 94 rfl 9 144 qek qg4 pR bt n D0 rfl HO.out (by unfold maxLen;omega) _ _ (.string id) rfl rfl H.out.2.2.2.2.2.2.1 (pD (some p)) [] (ze1 (some p)) ?_;intro w4 hown4 hg4;have H4:=zhd2 hown4 hg4;clear hown4 hg4));go_ret;exact HF.out w3 w4 (some p) HQ.out.1 HQ.out.2 H4.o0 H4.l1
    ·have gs:(sj.toList==si.toList)=false:=by rw[hsj,H.out.2.2.2.2.2.2.2.1,str_toList,str_toList];simpa using ho
     have HZ:=zhd4 f1 htell hidc ho;clear f1 htell b3 hsome hidc rd new hlen hki hbl hsj hkd ho;go_upto_region 6 with (go_at_call 63;refine HZ.out.2.2.1.mono ?_;rintro e w2 ⟨rfl,f2⟩;have H2:=zhd f2;clear f2);clear gs;have b4:=H2.out.cell b4 (by simp);have fz:=HZ.out.1.trans H2.out;have HO:=zhd (qeg H.out.2.2.2.2.1 fz (by simp));have hq:KQ w2 O S none (kfind kn id):=by rw[HZ.out.2.1];simp only[if_neg HZ.out.2.2.2];trivial
     have HQ:=zhd2 fz hq;clear fz hq;go_wp2_with ((at_mapUpdate;refine wpList_mapUpdate_own _ rfl _ _ _ 94 rfl 9 144 qek qg4 pR bt n D0 rfl HO.out (by unfold maxLen;omega) _ _ (.string id) rfl rfl H.out.2.2.2.2.2.2.1 (pD none) [] (ze1 none) ?_;intro w4 hown4 hg4;have H4:=zhd2 hown4 hg4;clear hown4 hg4));go_ret;exact HF.out w2 w4 none HQ.out.1 HQ.out.2 H4.o0 H4.l1
theorem qhp:∀W:List St,undone W=((List.range W.length).map λi=>(match W[i]? with|some none=>1|_=>0)).sum
 | []=>rfl
 | none::t=>by
  rw[undone,qhp t,qao,List.range_succ_eq_map,qak,qhm,List.sum_cons];simp only[qac,Function.comp_def,qaf];omega
 | some x::t=>by rw[undone,qhp t,qao,List.range_succ_eq_map,qak,qhm,List.sum_cons];simp only[qac,Function.comp_def,qaf];omega
def und1 (w:World) (S c o i:Nat):Nat:=match w.cell? ⟨S,i*c+o,none⟩ with
 | some (.bool false)=>1
 | _=>0
def undM (w:World) (S c n:Nat):Nat:=((List.range n).map (und1 w S c 0)).sum
theorem zd8 {w:World} {S c n:Nat} {W:List St} (hl:W.length=n) (h:∀i s,W[i]?=some s→w.cell? ⟨S,i*c,none⟩=some (.bool s.isSome)):undM w S c n=undone W:=by
 rw[qhp,hl];unfold undM;congr 1;refine qf8 λi hi=>?_
 have hi':i<W.length:=by simp at hi;omega
 have:=h i _ (qai hi');rw[qai hi'];unfold und1;rw[qbn,this];cases W[i] with
 | none=>rfl
 | some x=>rfl
theorem S1.done {w:World} {O S:Nat} {C D:Array Value} {i:Nat} {s:St} (h:S1 w O S C D i s):D[i*4]?=some (.bool s.isSome):=by
 match s,h with
 | none,h=>exact h.1
 | some (.error x),h=>exact h.1
 | some (.ok (o,d)),h=>exact h.1
theorem Sts.undM {w:World} {O S:Nat} {C D:Array Value} {l:List Ent} {W:List St} (h:Sts w O S C D l W) (hb:w.heap[S]?=some (.cells D 100 (0,0))):undM w S 4 l.length=undone W:=
 zd8 h.len λi s hs=>by rw[cell_of hb];exact (h.st i s hs).done
theorem qte (l:List Ent) (i:Nat) (x:Ent):∃sb ok,(∀w:World,(Instr.typeAssert (baseV l i x) 98 124 true).run Tryz.prog w = .ok (.tuple #[.string sb,.bool ok]) w)∧((ok=true∧x.kind=7∧sb=str x.base)∨(ok=false∧x.kind≠7)):=by
 unfold baseV;by_cases h6:x.kind=6
 ·rw[if_pos h6];exact⟨⟨#[]⟩,false,λ_=>by kernel_rfl,.inr ⟨rfl,by omega⟩⟩
 ·rw[if_neg h6];by_cases h7:x.kind=7
  ·rw[if_pos h7];exact⟨str x.base,true,λ_=>by kernel_rfl,.inl ⟨rfl,h7,rfl⟩⟩
  ·rw[if_neg h7];exact⟨⟨#[]⟩,false,λ_=>by kernel_rfl,.inr ⟨rfl,h7⟩⟩
theorem KQ.no {w:World} {O S:Nat} {q:Option Nat} (h:KQ w O S q none):q=none:=by
 cases q with
 | none=>rfl
 | some p=>exact h.elim
theorem KQ.yes {w:World} {O S:Nat} {q:Option Nat} {k:Kn} (h:KQ w O S q (some k)):∃p,q=some p∧KB w O S p k:=by
 cases q with
 | none=>exact h.elim
 | some p=>exact⟨p,rfl,h⟩
def Asked (w:World) (g O S bt N:Nat) (gv:Value) (la:Option Addr) (ms:List EM) (kn:List Kn) (R:Option (List St)) (e:Ending) (w':World):Prop:=
 Told w' O S bt (N+ms.length) kn∧match R with
 | none=>e = .returned (.bool false)∧Fr [bt] w w'
 | some W2=>e = .returned (.bool true)∧Fr [O,S,bt] w w'∧∃C' D',Rb w' g O S gv (.map (some bt)) la ms C' D'∧Sts w' O S C' D' (ms.map (·.1)) W2
theorem zf0 (g O S bt N:Nat) (gv:Value) (la:Option Addr) (ms:List EM) (C D:Array Value) (kn:List Kn) (W:List St) (w:World) (h:Rb w g O S gv (.map (some bt)) la ms C D) (hs:Sts w O S C D (ms.map (·.1)) W) (ht:Told w O S bt N kn) (hg:Getter w [O,S,bt] gv kn)
  (hd:kn.Pairwise λa b=>a.id≠b.id) (hN:N≤50000000) (hb:∀m∈ms,m.1.base.length≤40) (hp:∀w',Fr [O,S,bt] w w'→obj.Pw w') :
  Calls Tryz.prog 49 #[.pointer (some ⟨g,0,none⟩)] w (Asked w g O S bt N gv la ms kn (ask (ms.map (·.1)) kn ms.length 0 W)):=by
 obtain⟨n,hn⟩:=zex ms.length;have hfew:n≤4096:=by rw[hn];exact h.few
 have b0:=cell_of h.box 0;simp only[qag,qac,qaf]at b0;rw[<-hn]at b0;obtain⟨R,hR⟩:=zex (ask (ms.map (·.1)) kn n 0 W);rw[<-hn,<-hR];have hat:=ht.at_;have H:=zhd8 h hs hn hg hd hb hp hat;have HT0:=zhd2 ht hR;clear h hs ht hg hd hb hp hR hat hn;go_enter Tryz.func49,Tryz.ntmps49;go_wp2;go_loopg [12] n (λk s12 wr=>∃i:Nat,s12 = .int .i64 (i:Nat)∧i+k=n∧Fr [bt] w wr∧Told wr O S bt (N+i) kn∧R=ask (ms.map (·.1)) kn k i W);case atStart=>exact⟨0,rfl,by omega,Fr.refl _ _,HT0.o0,HT0.l1⟩
 case round=>
  clear b0;obtain⟨i,rfl,hik,hf,hti,hRi⟩:=hrel;by_cases hi:i<n
  ·obtain⟨k,rfl⟩:∃k,gk=k+1:=⟨gk-1,by omega⟩;obtain⟨hR0,hs0,hn,hg,hd,hb,hp,hat⟩:=H.out;obtain⟨m,hm⟩:∃m,ms[i]?=some m:=⟨ms[i]'(by omega),qai _⟩;have hl:(ms.map (·.1))[i]?=some m.1:=by rw[qbl,hm];rfl
   obtain⟨s,hW⟩:∃s,W[i]?=some s:=⟨W[i]'(by rw[hs0.len,qap];omega),qai _⟩;have hRb:=hR0.frM hat hf;have hst:=hs0.frM hat hf;have b2:=cell_of hRb.box 2;simp only[qag,qac,qaf]at b2;rw[<-hn]at b2;have hbase:=hst.base i m.1 hl;obtain⟨sb,ok,hta,hok⟩:=qte (ms.map (·.1)) i m.1;obtain⟨bV,hbV⟩:=zex (baseV (ms.map (·.1)) i m.1);rw[<-hbV]at hta hbase;have y3:wr.cell? ⟨S,i*4+3,none⟩=some bV:=by rw[cell_of hRb.sb];exact hbase
   have y0:wr.cell? ⟨S,i*4,none⟩=some (.bool s.isSome):=by rw[cell_of hRb.sb];exact (hst.st i s hW).done
   rw[ask,hl,hW]at hRi;have HR:=zhd7 hRb hst hm hW hf hti hRi;clear hR0 hs0 hn hg hd hb hp hat hl hRb hst hbase hbV hf hti hRi hm;cases s with
   | some t=>
    simp only[Option.isSome_some]at y0;clear hok hW;go_wp2;clear y0 y3 b2 hta;go_roundg k;case measure=>omega
    case rel=>exact⟨i+1,rfl,by omega,HR.out.2.2.2.2.1,HR.out.2.2.2.2.2.1.mono (by omega),HR.out.2.2.2.2.2.2⟩
   | none=>
    simp only[Option.isSome_none]at y0;have hRi:=HR.out.2.2.2.2.2.2;simp only at hRi;rcases hok with⟨rfl,h7,rfl⟩|⟨rfl,h7⟩
    ·rw[if_pos h7]at hRi;have hfrom:=zcl g O S bt (N+i) gv la ms C D kn m.1.base wr HR.o0 HR.out.2.2.2.2.2.1 (H.out.2.2.2.1.fr (HR.out.2.2.2.2.1.mono (by simp))) H.out.2.2.2.2.1 (by omega) (H.out.2.2.2.2.2.1 m (qa8 HR.l2.1)) (H.out.2.2.2.2.2.2.1 _ (HR.out.2.2.2.2.1.mono (by simp)));obtain⟨sb,hsb⟩:=zex (str m.1.base);rw[<-hsb]at hfrom hta;unfold From at hfrom;generalize kfind kn m.1.base=KR at hRi hfrom;cases KR with
     | none=>
      have HX:=zhd2 hRi hfrom;clear hRi hfrom hsb h7 hW;go_wp2_with (go_at_call 81;refine HX.l1.mono ?_;rintro e w2 ⟨f2,t2,q,rfl,kq⟩;obtain rfl:=kq.no;have H2:=zhd2 f2 t2;clear f2 t2 kq;simp only[pV,Option.map_none]);clear y0 y3 b2 hta;go_roundg k;case measure=>omega
      case rel=>exact⟨i+1,rfl,by omega,HR.out.2.2.2.2.1.trans H2.out.1,H2.out.2,HX.o0⟩
     | some kk=>
      have HX:=zhd2 hRi hfrom;clear hRi hfrom hsb h7 hW;go_upto_region 7 with (go_at_call 81;refine HX.l1.mono ?_;rintro e w2 ⟨f2,t2,q,rfl,kq⟩;obtain⟨p,rfl,kb⟩:=kq.yes;have H2:=zhd3 f2 t2 kb;clear f2 t2 kb kq;simp only[pV,qfr]);clear y0 y3 b2 hta;obtain⟨pO,pS,a,c,hpb,hrd,hoff⟩:=H2.out.2.2;have k0:w2.cell? ⟨p,0,none⟩=some (.int .i64 kk.kind):=by rw[cell_of hpb];rfl
      have k1:w2.cell? ⟨p,1,none⟩=some (.slice a kk.body.length c):=by rw[cell_of hpb];rfl
      have hRb2:=(HR.o0.frM HR.out.2.2.2.2.2.1.at_ H2.out.1).fr (Fr.drew1 [] w2);have hst2:=HR.o1.frM HR.out.2.2.2.2.2.1.at_ H2.out.1;have hfin:Calls Tryz.prog 80 #[.pointer (some ⟨g,0,none⟩),.int .i64 i,.int .i64 kk.kind,.slice a kk.body.length c,.int .i64 1] w2.drew _:=
       qkq g O S gv (.map (some bt)) la ms C D i m kk.kind a c kk.body 0 w2.drew hRb2 HR.l2.1 (hrd.fr (Fr.drew1 [] w2)) hoff (by omega) (H.out.2.2.2.2.2.2.1 _ (((HR.out.2.2.2.2.1.trans H2.out.1).mono (by simp)).trans (Fr.drew1 _ w2))) (HR.o1.st i none HR.out.2.2.2.1).2
        (λw' f=>H.out.2.2.2.2.2.2.1 _ ((((HR.out.2.2.2.2.1.trans H2.out.1).mono (by simp)).trans (Fr.drew1 _ w2)).trans (f.mono (λy hy=>.inl (by simp at hy;rcases hy with rfl|rfl<;>simp)))))
      obtain⟨kl,hkl⟩:=zex kk.body.length;obtain⟨kd,hkd⟩:=zex kk.kind;rw[<-hkl,<-hkd]at hfin;rw[<-hkl]at k1;rw[<-hkd]at k0;have HY:=zhd4 hfin hRb2 hst2 hkd;clear hfin hRb2 hst2 hkl hkd hpb hrd hoff pO pS;go_upto_region 8 with fail;refine qcu 10 (by kernel_rfl) (by kernel_rfl) ?_;simp only[qah,qan,qad,qaj];repeat (go_big_quiet_step (fail))
      refine wpQuiet_nil ?_;clear k0 k1;go_wp2_with (go_at_call 80;refine HY.out.1.mono ?_;rintro e w3 ⟨rfl,f3,C3,D3,hR3,hF3⟩;have H3:=zhd3 f3 hR3 hF3;clear f3 hR3 hF3);go_ret;obtain⟨f3,hR3,hF3⟩:=H3.out;obtain⟨hfin,hRb2,hst2,hkd⟩:=HY.out;rw[hkd]at hF3;have hat2:=H2.out.2.1.at_;have hbO:bt≠O:=qdx (hat2.ne (show w2.heap[O]?=_ from hRb2.ob));have hbS:bt≠S:=qdx (hat2.ne (show w2.heap[S]?=_ from hRb2.sb));have fT:Fr [O,S] w2 w3:=((Fr.drew1 [] w2).mono (by simp)).trans f3;refine⟨(H2.out.2.1.fr fT hbO hbS).mono (by have:=H.out.2.2.1;omega),?_⟩;rw[HX.o0];exact⟨rfl,((HR.out.2.2.2.2.1.trans H2.out.1).mono (by simp)).trans (fT.mono (λy hy=>.inl (by simp at hy;rcases hy with rfl|rfl<;>simp))),C3,D3,hR3,hst2.one i _ hF3.1 hF3.2.1 fT (hF3.st (lt_of_block hRb2.ob) (lt_of_block hRb2.sb))⟩
    ·rw[if_neg h7]at hRi;have HRi:=zhd hRi;clear hRi h7 hW;go_wp2;clear y0 y3 b2 hta;go_roundg k;case measure=>omega
     case rel=>exact⟨i+1,rfl,by omega,HR.out.2.2.2.2.1,HR.out.2.2.2.2.2.1.mono (by omega),HRi.out⟩
  ·obtain rfl:i=n:=by omega
   obtain rfl:gk=0:=by omega
   have HR:=zhd3 hf hti hRi;clear hf hti hRi;go_wp2;go_ret;refine⟨?_,?_⟩
   ·rw[<-H.out.2.2.1];exact HR.o1
   ·rw[HR.l2];exact⟨rfl,HR.o0⟩
end Go.Proofs.YtkmpfgpfbmeihaaGreatDoor.pk
