/-
  Texts of this proof, one behind the other: FsM, LoSave, LoLaw3, LoRead, LoWrite, LoIDs, LoAwake, LoWS, RWords.
-/
import Derived.Test.YtbabjlohkniciaaGreatDoorW20
set_option maxHeartbeats 16000000
set_option maxRecDepth 100000
set_option linter.unusedVariables false
set_option linter.unusedSimpArgs false
namespace Go.Proofs.YtbabjlohkniciaaGreatDoor.fs
open Go Go.RowKit lib pk
set_option maxRecDepth 100000
theorem qtv:SliceTy Tryz.prog 49 9 (.string ⟨#[]⟩) 1 16:=SliceTy.of Tryz.underlying49 (by kernel_rfl) rfl (by decide)
theorem qzq (ao:Option Addr) (len cap:Nat) (w:World) (hle:len≤cap) (hmax:cap≤maxLen) :
  Calls Tryz.prog 44 #[.slice ao len cap] w λe w'=>e = .returned (.slice ao len len)∧w'=w:=by
 go_enter Tryz.func44,Tryz.ntmps44;go_wp2;all_goals go_ret
 all_goals exact⟨by first|rfl|simp,rfl⟩
def StrsP (w w':World) (v:Value) (l:List Nm):Prop:=∃a,v = .slice a l.length l.length∧lib.Cs w' a (l.map encStr)∧∀x∈blk a,w.heap.size≤x∧x<w'.heap.size
theorem qqj {α:Type} (q:α→Bool) (l:List α) (i:Nat) (hi:i<l.length):(l.take (i+1)).filter q=(l.take i).filter q++(if q l[i]=true then [l[i]] else []):=by
 rw[qbm hi,qei];congr 1;by_cases h:q l[i]=true
 ·simp[h]
 ·simp[h]
theorem qye (F n M:Nat) (t:Nm→Option (List UInt8)) (lab:Nat→Option Lb) (p:Nm) (w:World) (h:Fs w F n M t lab) :
  Calls Tryz.prog 40 #[.pointer (some ⟨F,0,none⟩),.string (str p)] w λe w'=>∃v ss,e = .returned v∧Lst t ss∧ss.length≤n∧StrsP w w' v (ss.filter λs=>Lib.hasPrefix s p)∧Fr [] w w':=by
 have hso:=qsj F n M t lab w h;have hfs:∃q B las chg,FsB w F q B las chg:=by obtain⟨⟨B,las,chg,m,vs,g,h1,_⟩,_⟩:=h;exact⟨_,B,las,chg,h1⟩
 obtain⟨q,B,las,chg,hF⟩:=hfs;have hn8:=h.few;obtain⟨pz,hpz⟩:=zex (str p);rw[<-hpz];have H:=zhd3 hso hF hpz;clear hso hF h hpz;go_enter Tryz.func40,Tryz.ntmps40;go_upto_block 0 with (go_at_call 69;refine H.o0.mono ?_;rintro e w1 ⟨v,ss,rfl,hl,hn,ho,f1⟩;obtain⟨a0,c0,rfl,hle,hmax⟩:=qfy ho;have H1:=zhd3 hl ho f1;clear hl ho f1);obtain⟨N,hN⟩:=zex ss.length;rw[<-hN]at hn hle ⊢;have HN:=zhd hN;clear hN;obtain⟨Q,hQ⟩:∃Q:Nat→List Nm,Q=λi=>(ss.take i).filter λs=>Lib.hasPrefix s p:=⟨_,rfl⟩
 have hQ0:Q 0=[]:=by rw[hQ];simp
 have hQN:Q N=ss.filter λs=>Lib.hasPrefix s p:=by rw[hQ,HN.out];simp
 have hQs:∀i (hi:i<ss.length),Q (i+1)=Q i++(if Lib.hasPrefix ss[i] p=true then [ss[i]] else []):=λi hi=>by rw[hQ];exact qqj _ ss i hi
 have hQl:∀i,(Q i).length≤i:=λi=>by rw[hQ];exact qao (qc4 _ _) (List.length_take_le _ _)
 have HQ:=zhd3 hQN hQs hQ0;have HQl:=zhd hQl;clear hQ hQN hQs hQl;go_wp2;go_loopg [5,11] N (λk s5 s11 wr=>∃(i:Nat) (a:Option Addr) (c:Nat),s11 = .int .i64 (i:Nat)∧i+k=N∧s5 = .slice a (Q i).length c∧wr.ownsRow 0 9 1 s5 (Q i).length ((Q i).map encStr)∧(∀x∈blk a,w1.heap.size≤x)∧Fr [] w1 wr);case atStart=>
  refine⟨0,none,0,rfl,by omega,?_,?_,by simp[blk],Fr.refl _ _⟩
  ·rw[hQ0];rfl
  ·rw[hQ0];exact qcl _ _ _ _
 case round=>
  obtain⟨i,a,c,rfl,hik,rfl,ho,hbk,f⟩:=hrel;have HR:=zhd3 ho hbk f;clear ho hbk f hQ0;by_cases hi:i<N
  ·obtain⟨k,rfl⟩:∃k,gk=k+1:=⟨gk-1,by omega⟩;have hil:i<ss.length:=by rw[<-HN.out];exact hi
   have hst:=HQ.o1 i hil;have hli:=HQl.out i;have hcs:=(qc5 H1.o1).belowAll (qf7 HR.l2);rcases hcs with hcs|⟨g0,o0,hg0,hcs⟩
   ·have:=congrArg List.length hcs;rw[qau,qa7]at this;omega
   subst hg0;have hci:=hcs i (encStr ss[i]) (by rw[qbl,qad hil];rfl);rw[qtw]at hci;obtain⟨C,hC⟩:=zex (wr.cell? ⟨g0,o0+i,none⟩);have hx:=λw'=>Tryz.strings_HasPrefix (str ss[i]) pz w'
   rw[show (str ss[i]).data.toList=ss[i] from rfl,show pz.data.toList=p by rw[H.l2];rfl]at hx;obtain⟨M1,hM1⟩:=zex ((Q i).length);rw[<-hM1]at hli ⊢;have hF1:FsB wr F q B las chg:=HR.l2.blk (H1.l2.blk H.o1 (by simp)) (by simp);have c5:wr.cell? ⟨F,5,none⟩=some (.bool false):=by rw[cell_of hF1];rfl
   obtain⟨b,hb⟩:=zex (Lib.hasPrefix ss[i] p);rw[<-hb]at hx hst;cases b with
   | true=>
    rw[if_pos rfl]at hst;obtain⟨z,hz⟩:=zex (str ss[i]);rw[<-hz]at hci hx;have HX:=zhd4 hx hst hM1 hz;clear hx hst hM1 hz hb hF1 hC hcs;go_wp2_with (first
     | (go_at_call 59;refine (HX.o0 _).mono ?_;rintro e w2 ⟨rfl,hw⟩;obtain rfl:=hw.symm)
     | (at_builtin;refine qa6 qtv rfl _ _ rfl (.slice a M1 c) M1 ((Q i).map encStr) (blk a) rfl (qbw _ _ _) ((by rw[HX.out.2.2.1];exact qbb HR.o0 ((Fr.refl [] wr).alloc _) (by simp))) (some ⟨wr.heap.size,0,none⟩) 1 1 [.string z] rfl (qae _) (by simp) (qfj wr _ _ _) rfl (by simp[Value.oneCell']) (by omega) (by unfold maxLen;omega) ?_;intro a3 q3 w3 A3;have H3:=zhd A3;clear A3))
    go_roundg k;case measure=>omega
    case rel=>
     have A3:=H3.out;have e3:(Q (i+1)).length=M1+1:=by rw[HX.l1.1,qaa,<-HX.out.2.2.1];rfl
     have e4:(Q (i+1)).map encStr=(Q i).map encStr++[.string z]:=by rw[HX.l1.1,qbp,HX.out.2.2.2];rfl
     refine⟨i+1,a3,q3,by go_num,by omega,by rw[e3],?_,λx hx=>?_,?_⟩
     ·rw[e3,e4];exact A3.own
     ·rcases A3.at_ x hx with h|h
      ·exact HR.o1 x h
      ·have:=HR.l2.size;have:=(Fr.refl [] wr).alloc (.cells #[.string z] 9) |>.size;omega
     ·exact HR.l2.step (((Fr.refl [] wr).alloc _).mono (T:=blk a) (by simp) |>.trans A3.fr) (λy hy=>.inr (HR.o1 y hy))
   | false=>
    rw[if_neg (by simp),qb1]at hst;obtain⟨z,hz⟩:=zex (str ss[i]);rw[<-hz]at hci hx;have HX:=zhd4 hx hst hM1 hz;clear hx hst hM1 hz hb hF1 hC hcs;go_wp2_with (go_at_call 59;refine (HX.o0 _).mono ?_;rintro e w2 ⟨rfl,hw⟩;obtain rfl:=hw.symm);go_roundg k;case measure=>omega
    case rel=>
     refine⟨i+1,a,c,by go_num,by omega,?_,?_,HR.o1,HR.l2⟩
     ·rw[HX.l1.1,<-HX.out.2.2.1]
     ·rw[HX.l1.1,HX.out.2.2.1];exact HR.o0
  ·obtain rfl:i=N:=by omega
   have hle2:=(qfy HR.o0);obtain⟨a2,c2,he2,hle2,hmax2⟩:=hle2;obtain⟨rfl,_,rfl⟩:=Value.slice.inj he2;obtain⟨R,hR⟩:=zex (Q i);rw[<-hR]at hle2 ⊢;obtain⟨M1,hM1⟩:=zex R.length;rw[<-hM1]at hle2 ⊢;have HX:=zhd2 hR hM1;clear hR hM1 he2;go_wp2_with (go_at_call 44;refine (qzq _ M1 _ _ hle2 hmax2).mono ?_;rintro e w4 ⟨rfl,hw⟩;obtain rfl:=hw.symm);go_ret;have ho:=HR.o0;rw[<-HX.o0]at ho;have f:=H1.l2.trans HR.l2;refine⟨_,ss,rfl,H1.o0,by rw[<-HN.out];exact hn,⟨a,by rw[<-HQ.o0,<-HX.o0,HX.l1];rfl,?_,λx hx=>⟨?_,qen ho (qeg hx)⟩⟩,f⟩
   ·rw[<-HQ.o0,<-HX.o0];exact qc5 ho
   ·have:=HR.o1 x hx;have:=H1.l2.size;omega
set_option maxRecDepth 100000
theorem Stp.refl (w:World) (lab:Nat→Option Lb) {w':World} (f:Fr [] w w'):Stp w lab w' lab:=⟨⟨[],f,by simp⟩,λ_ h=>.inl h⟩
theorem Stp.trans {a b c:World} {la lb lc:Nat→Option Lb} (h:Stp a la b lb) (k:Stp b lb c lc):Stp a la c lc:=by
 obtain⟨⟨T,f,hT⟩,hl⟩:=h;obtain⟨⟨U,g,hU⟩,kl⟩:=k;refine⟨⟨T++U.filter λx=>(la x).isSome,(f.mono (T:=T++U.filter λx=>(la x).isSome) (λx hx=>.inl (List.mem_append_left _ hx))).step g (λx hx=>?_),λx hx=>?_⟩,λx hx=>?_⟩
 ·rcases hl x (hU x hx) with h|h
  ·exact .inl (List.mem_append_right _ (qti.2 ⟨hx,Option.isSome_iff_ne_none.2 h⟩))
  ·exact .inr h
 ·rcases qbe.1 hx with h|h
  ·exact hT x h
  ·exact Option.isSome_iff_ne_none.1 (qti.1 h).2
 ·rcases kl x hx with h|h
  ·exact hl x h
  ·exact .inr (qao f.size h)
theorem Stp.size {a b:World} {la lb:Nat→Option Lb} (h:Stp a la b lb):a.heap.size≤b.heap.size:=by obtain⟨⟨T,f,_⟩,_⟩:=h;exact f.size
theorem Stp.rd {a b:World} {la lb:Nat→Option Lb} (h:Stp a la b lb) {ba:Option Addr} {bc:Nat} {nb:List UInt8} (hb:lib.Rd a ba bc nb) (hn:nb≠[]→∀x∈blk ba,la x=none):lib.Rd b ba bc nb∧(nb≠[]→∀x∈blk ba,lb x=none):=by
 obtain⟨⟨T,f,hT⟩,hl⟩:=h;refine⟨qi9 hb f (λhne x hx hm=>hT x hm (hn hne x hx)),λhne x hx=>?_⟩;cases hlx:lb x with
 | none=>rfl
 | some l=>
  rcases hl x (by rw[hlx];exact qbo _) with h|h
  ·exact absurd (hn hne x hx) h
  ·have hlt:=hb.cs.lt (by simpa using hne);cases ba with
   | none=>simp[blk]at hx
   | some ad=>have h1:=hlt ad rfl;simp only[blk,qa4]at hx;omega
theorem qxn (F n M M':Nat) (t:Nm→Option (List UInt8)) (lab:Nat→Option Lb) (k1 k2:Nm) (ba:Option Addr) (bc:Nat) (nb:List UInt8) (w:World) (h:Fs w F n M t lab) (hk1:NOk k1) (hk2:NOk k2) (hne:k1≠k2) (ht:t k1=none) (hb:lib.Rd w ba bc nb) (hbl:nb≠[]→∀x∈blk ba,lab x=none)
  (hM':M≤M') (hM2:nb.length≤M') (hM3:M'≤100000) (hroom:nb.length+(n+1)*M≤1048576) (hn:n<7) :
  Calls Tryz.prog 38 #[.pointer (some ⟨F,0,none⟩),.string (str k1),.string (str k2),.slice ba nb.length bc] w λe w'=>e = .returned (.int .i64 0)∧∃lab',Fs w' F (n+2) M' (upd t k2 (some nb)) lab'∧Stp w lab w' lab':=by
 obtain⟨z1,hz1⟩:=zex (str k1);obtain⟨z2,hz2⟩:=zex (str k2);obtain⟨L,hL⟩:=zex nb.length;have H:=zhd6 h hb hbl hz1 hz2 hL;rw[<-hz1,<-hz2,<-hL];clear h hb hbl hz1 hz2 hL;go_enter Tryz.func38,Tryz.ntmps38;have c0:=qpt F n M t lab k1 w H.o0 hk1 ht;rw[<-H.o3]at c0;have H0:=zhd c0;clear c0;go_upto_region 4 with (go_at_call 65;refine H0.out.mono ?_;rintro e w1 ⟨rfl,f1⟩;have H1:=zhd f1;clear f1);have c1:=qmg F n M t lab k1 w1 (H.o0.fr H1.out (by simp)) hk1 ht (by omega);rw[<-H.o3]at c1;have H2:=zhd c1;clear c1;go_upto_region 6 with (go_at_call 9;refine H2.out.mono ?_;rintro e w2 ⟨rfl,lab2,h2,s2⟩;have H3:=zhd2 h2 s2;clear h2 s2);have s02:=(Stp.refl w lab H1.out).trans H3.l1;have rd2:=s02.rd H.o1 H.o2;have c2:=qmm F (n+1) M M' (upd t k1 (some [])) lab2 k1 [] ba bc nb w2 H3.o0 hk1 (by unfold upd;rw[if_pos rfl]) rd2.1 rd2.2 hM' (by simpa using hM2) hM3 hroom;rw[<-H.o3,<-H.l5]at c2;have H4:=zhd2 c2 s02;clear c2 s02 rd2;go_upto_region 8 with (go_at_call 11;refine H4.o0.mono ?_;rintro e w3 ⟨rfl,lab3,h3,s3⟩;have H5:=zhd2 h3 s3;clear h3 s3);have c3:=qxd F (n+1) M' _ lab3 k1 ([]++nb) w3 H5.o0 hk1 (by unfold upd;rw[if_pos rfl]);rw[<-H.o3]at c3;have H6:=zhd c3;clear c3;go_upto_region 10 with (go_at_call 66;refine H6.out.mono ?_;rintro e w4 ⟨rfl,h4,s4⟩;have H7:=zhd2 h4 s4;clear h4 s4);have c4:=qsm F (n+1) M' _ lab3 k1 k2 ([]++nb) w4 H7.o0 hk1 hk2 hne (by unfold upd;rw[if_pos rfl]) (by omega);rw[<-H.o3,<-H.o4]at c4;have H8:=zhd c4;clear c4;go_wp2_with (go_at_call 67;refine H8.out.mono ?_;rintro e w5 ⟨rfl,lab5,h5,s5⟩;have H9:=zhd2 h5 s5;clear h5 s5);go_ret;have e5:upd (upd (upd (upd t k1 (some [])) k1 (some ([]++nb))) k2 (some ([]++nb))) k1 none=upd t k2 (some nb):=by
  funext x;unfold upd;by_cases e1:x=k1
  ·rw[if_pos e1,if_neg (by rw[e1];exact hne),e1,ht]
  ·rw[if_neg e1];by_cases e2:x=k2
   ·rw[if_pos e2,if_pos e2];rfl
   ·rw[if_neg e2,if_neg e1,if_neg e1,if_neg e2]
 refine⟨rfl,lab5,?_,((H4.l1.trans H5.l1).trans H7.l1).trans H9.l1⟩;rw[<-e5];exact H9.o0
end Go.Proofs.YtbabjlohkniciaaGreatDoor.fs
namespace Go.Proofs.YtbabjlohkniciaaGreatDoor.lo
open Go Go.RowKit lib bm crc pk
theorem qnx:∀{s r:List UInt8},unhexL s=some r→∀c∈s,c≠0
 | [],r,h=>by simp
 | [_],r,h=>by cases h
 | a::b::t,r,h=>by
  rw[unhexL]at h;split at h
  ·rename_i x y q hx hy hq;have ih:=qnx hq;intro c hc e;simp only[qaz]at hc;rcases hc with rfl|rfl|hc
   ·subst e;cases hx
   ·subst e;cases hy
   ·exact ih c hc e
  ·cases h
theorem qvp {s:List UInt8} (h:hashB s=true):∀c∈s,c≠0:=by
 unfold hashB at h;split at h
 ·exact qnx (by assumption)
 ·cases h
theorem qkn {id:List UInt8} (h:hashB id=true):fs.NOk (pathL id):=by
 have hl:=qdm h;have hz:=qvp h;unfold pathL;rw[if_pos h];refine⟨by simp[objs],by simp[objs];omega,λc hc=>?_⟩;simp only[qbe]at hc;rcases hc with ((hc|hc)|hc)|hc
 ·revert c;decide
 ·exact hz c (qbt hc)
 ·simp only[qa4]at hc;rw[hc];decide
 ·exact hz c (List.mem_of_mem_drop hc)
def tmps:List UInt8:=[116,109,112,47]
theorem za9 {id:List UInt8} (h:hashB id=true):fs.NOk (tmps++id):=by
 have hl:=qdm h;have hz:=qvp h;refine⟨by simp[tmps],by simp[tmps];omega,λc hc=>?_⟩;simp only[qbe]at hc;rcases hc with hc|hc
 ·revert c;decide
 ·exact hz c hc
theorem qx0 {x y:List UInt8} (hx:hashB x=true) (hy:hashB y=true) (h:pathL x=pathL y):x=y:=by have lx:=qdm hx;have ly:=qdm hy;unfold pathL at h;rw[if_pos hx,if_pos hy]at h;obtain⟨h1,h2⟩:=List.append_inj' h (by rw[qav,qav,lx,ly]);obtain⟨h3,_⟩:=List.append_inj' h1 rfl;have h4:=List.append_cancel_left h3;rw[<-qc3 2 x,<-qc3 2 y,h4,h2]
theorem qxb (x:List UInt8) {y:List UInt8} (hy:hashB y=true):tmps++x≠pathL y:=by unfold pathL;rw[if_pos hy];intro h;have:=congrArg List.head? h;simp[tmps,objs]at this
theorem ql3 (bs:List UInt8):(lparse bs).2.1.length≤65568:=by
 unfold lparse;split
 ·exact qbc _
 ·rename_i out used hz;have h1:=qu5 hz;split
  ·split
   ·exact qbc _
   ·split
    ·exact qbc _
    ·show (out.drop _).length≤_;rw[qav];omega
  ·exact qbc _
theorem qlx {k:Nat} (hk:1≤k∧k≤4) {body:List UInt8} (hl:body.length≤60000) {r:List UInt8} (hr:trip.RQ (obj.header k body.length++body) r) :
  lparse (defl.zlibOf 2 r (obj.header k body.length++body))=(k,body,0):=by
 have hh:=obj.qe3 (k:Nat) body.length (by omega);have hz:=trip.qtk (level:=2) hr [] 65568 (by rw[qaa];omega);rw[qb1]at hz;unfold lparse;rw[hz];simp only;rw[if_pos trivial,qsw hk];simp only;rw[qaa,if_neg (by omega),List.drop_left' rfl]
theorem qrz {k:Nat} {body:List UInt8} (hl:body.length≤60000) {r:List UInt8} (hr:trip.RQ (obj.header k body.length++body) r) :
  (defl.zlibOf 2 r (obj.header k body.length++body)).length≤6*body.length+250∧0<(defl.zlibOf 2 r (obj.header k body.length++body)).length:=by
 have hh:=obj.qe3 (k:Nat) body.length (by omega);have h1:=hr.1;rw[qaa]at h1;unfold defl.zlibOf;simp only[qaa,qal,qa7,sums.qc6];omega
set_option maxRecDepth 100000
def lread (t:fs.Nm→Option (List UInt8)) (id:List UInt8):Nat×List UInt8×Nat:=
 if hashB id=true then
  match t (pathL id) with
  | none=>(0,[],61)
  | some bs=>if (lparse bs).2.2=0 then if oid ((lparse bs).1:Nat) (lparse bs).2.1=id then lparse bs else (0,[],6) else (0,[],(lparse bs).2.2)
 else (0,[],1)
theorem qet (F n M:Nat) (t:fs.Nm→Option (List UInt8)) (lab:Nat→Option fs.Lb) (id:List UInt8) (w:World) (h:fs.Fs w F n M t lab) (hlen:id.length≤140737488355328) (hpw:obj.Pw w) :
  Calls Tryz.prog 12 #[.pointer (some ⟨F,0,none⟩),.string (str id)] w (ParseP w (lread t id)):=by
 obtain⟨P,hP⟩:=zex (lread t id);rw[<-hP];have hh:=qru id w hlen;by_cases hb:hashB id=true
 ·rw[hb]at hh;have hfr:∀w',Fr [] w w'→Calls Tryz.prog 29 #[.pointer (some ⟨F,0,none⟩),.string (str (pathL id))] w' (fs.ReadP w' (t (pathL id))):=λw' f=>fs.qet F n M t lab (pathL id) w' (h.fr f (by simp)) (qkn hb)
  have hpp:=λw'=>qgv id w' hlen
  unfold lread at hP;rw[if_pos hb]at hP;cases ht:t (pathL id) with
  | none=>
   rw[ht]at hP hfr;unfold fs.ReadP at hfr;simp only at hP hfr;obtain⟨z,hz⟩:=zex (str id);obtain⟨y,hy⟩:=zex (str (pathL id));rw[<-hz]at hh hpp ⊢;rw[<-hy]at hpp hfr;have H:=zhd4 hh hpp hfr hP;clear hh hpp hfr hP ht hb hz hy h hpw;go_enter Tryz.func12,Tryz.ntmps12;go_wp2_with (first
    | (go_at_call 25;refine H.o0.mono ?_;rintro e w1 ⟨rfl,f1⟩;have H1:=zhd f1;clear f1)
    | (go_at_call 10;refine (H.l1.1 _).mono ?_;rintro e w2 ⟨rfl,f2⟩;have H2:=zhd (H1.out.trans f2);clear f2)
    | (go_at_call 29;refine (H.out.2.2.1 _ H2.out).mono ?_;rintro e w3 ⟨rfl,f3⟩;have H3:=zhd (H2.out.trans f3);clear f3))
   go_ret3;exact ParseP.bad H.out.2.2.2 H3.out rfl
  | some bs=>
   rw[ht]at hP hfr;unfold fs.ReadP at hfr;simp only at hP hfr;have hbs:bs.length≤100000000:=by obtain⟨⟨B,las,chg,m,vs,g,h1,h2,h3,h4,h5,h6,h7,h8,h9,h10⟩,hn8,hM,hlow⟩:=h;have:=(h9 _ bs ht).1;omega
   obtain⟨⟨k,body,c⟩,hQ⟩:∃Q,Q=lparse bs:=⟨_,rfl⟩;rw[<-hQ]at hP;simp only at hP;have hpr:∀w' a,Fr [] w w'→lib.Rd w' a bs.length bs→Calls Tryz.prog 13 #[.slice a bs.length bs.length] w' (ParseP w' (k,body,c)):=λw' a f hr=>by rw[hQ];exact qug a bs.length bs w' hr hbs (hpw.fr f)
   have hid:∀w' a,Fr [] w w'→lib.Rd w' a body.length body→Calls Tryz.prog 30 #[.int .i64 k,.slice a body.length body.length] w' λe w''=>e = .returned (.string (str (oid (k:Nat) body)))∧Fr [] w' w'':=λw' a f hr=>obj.qzj (k:Nat) a body.length body w' hr (by have:=ql3 bs;rw[<-hQ]at this;simp only at this;omega) (hpw.fr f)
   obtain⟨z,hz⟩:=zex (str id);obtain⟨y,hy⟩:=zex (str (pathL id));obtain⟨x,hx⟩:∃x,x=str (oid (k:Nat) body):=⟨_,rfl⟩;have hxz:(x.toList==z.toList)=(oid (k:Nat) body==id):=by rw[hx,hz,str_toList,str_toList]
   rw[<-hz]at hh hpp ⊢;rw[<-hy]at hpp hfr;rw[<-hx]at hid;obtain⟨L,hL⟩:=zex bs.length;rw[<-hL]at hfr hpr;unfold ParseP at hpr;simp only at hpr;obtain⟨N,hN⟩:=zex body.length;rw[<-hN]at hpr hid;have H:=zhd6 hh hpp hfr hpr hid hP;have HN:=zhd hN;clear hh hpp hfr hP ht hb hz hy h hpw hpr hid hQ hbs hL hN;by_cases hc:c=0
   ·subst hc;by_cases ho:oid (k:Nat) body=id
    ·rw[ho,beq_self_eq_true]at hxz;have HO:=zhd ho;clear ho hx;go_enter Tryz.func12,Tryz.ntmps12;go_wp2_with (first
      | (go_at_call 25;refine H.o0.mono ?_;rintro e w1 ⟨rfl,f1⟩;have H1:=zhd f1;clear f1)
      | (go_at_call 10;refine (H.l1.1 _).mono ?_;rintro e w2 ⟨rfl,f2⟩;have H2:=zhd (H1.out.trans f2);clear f2)
      | (go_at_call 29;refine (H.out.2.2.1 _ H2.out).mono ?_;rintro e w3 ⟨⟨a3,rfl,r3,n3⟩,f3⟩;have H3:=zhd2 (H2.out.trans f3) r3;clear f3 r3 n3)
      | (go_at_call 13;refine (H.out.2.2.2.1 _ _ H3.out.1 H3.out.2).mono ?_;rintro e w4 ⟨a4,rfl,r4,n4,f4⟩;have H4:=zhd3 (H3.out.1.trans f4) r4 (λx hx=>⟨qao H3.out.1.size (n4 x hx).1,(n4 x hx).2⟩:∀x∈blk a4,w.heap.size≤x∧x<w4.heap.size);clear f4 r4 n4)
      | (go_at_call 30;refine (H.out.2.2.2.2.1 _ _ H4.o0 H4.o1).mono ?_;rintro e w5 ⟨rfl,f5⟩;have H5:=zhd f5;clear f5))
     go_ret3;have f5:=H4.o0.trans H5.out;have hP:=H.out.2.2.2.2.2;rw[if_pos trivial,if_pos HO.out]at hP;rw[hP];exact⟨a4,by rw[<-HN.out];rfl,by rw[<-HN.out];exact H4.o1.fr H5.out,λx hx=>⟨(H4.l2 x hx).1,qaq (H4.l2 x hx).2 H5.out.size⟩,f5⟩
    ·rw[beq_eq_false_iff_ne.2 ho]at hxz;have HO:=zhd ho;clear ho hx;go_enter Tryz.func12,Tryz.ntmps12;go_wp2_with (first
      | (go_at_call 25;refine H.o0.mono ?_;rintro e w1 ⟨rfl,f1⟩;have H1:=zhd f1;clear f1)
      | (go_at_call 10;refine (H.l1.1 _).mono ?_;rintro e w2 ⟨rfl,f2⟩;have H2:=zhd (H1.out.trans f2);clear f2)
      | (go_at_call 29;refine (H.out.2.2.1 _ H2.out).mono ?_;rintro e w3 ⟨⟨a3,rfl,r3,n3⟩,f3⟩;have H3:=zhd2 (H2.out.trans f3) r3;clear f3 r3 n3)
      | (go_at_call 13;refine (H.out.2.2.2.1 _ _ H3.out.1 H3.out.2).mono ?_;rintro e w4 ⟨a4,rfl,r4,n4,f4⟩;have H4:=zhd3 (H3.out.1.trans f4) r4 (λx hx=>⟨qao H3.out.1.size (n4 x hx).1,(n4 x hx).2⟩:∀x∈blk a4,w.heap.size≤x∧x<w4.heap.size);clear f4 r4 n4)
      | (go_at_call 30;refine (H.out.2.2.2.2.1 _ _ H4.o0 H4.o1).mono ?_;rintro e w5 ⟨rfl,f5⟩;have H5:=zhd f5;clear f5))
     go_ret3;have hP:=H.out.2.2.2.2.2;rw[if_pos trivial,if_neg HO.out]at hP;exact ParseP.bad hP (H4.o0.trans H5.out) rfl
   ·have HC:=zhd hc;have d0:((c:Int)!=0)=true:=by simp;omega
    clear hc hxz hx;go_enter Tryz.func12,Tryz.ntmps12;go_wp2_with (first
     | (go_at_call 25;refine H.o0.mono ?_;rintro e w1 ⟨rfl,f1⟩;have H1:=zhd f1;clear f1)
     | (go_at_call 10;refine (H.l1.1 _).mono ?_;rintro e w2 ⟨rfl,f2⟩;have H2:=zhd (H1.out.trans f2);clear f2)
     | (go_at_call 29;refine (H.out.2.2.1 _ H2.out).mono ?_;rintro e w3 ⟨⟨a3,rfl,r3,n3⟩,f3⟩;have H3:=zhd2 (H2.out.trans f3) r3;clear f3 r3 n3)
     | (go_at_call 13;refine (H.out.2.2.2.1 _ _ H3.out.1 H3.out.2).mono ?_;rintro e w4 ⟨a4,rfl,r4,n4,f4⟩;have H4:=zhd3 (H3.out.1.trans f4) r4 (λx hx=>⟨qao H3.out.1.size (n4 x hx).1,(n4 x hx).2⟩:∀x∈blk a4,w.heap.size≤x∧x<w4.heap.size);clear f4 r4 n4))
    go_ret3;have hP:=H.out.2.2.2.2.2;rw[if_neg HC.out]at hP;exact ParseP.bad hP H4.o0 rfl
 ·have hb:=Bool.eq_false_iff.2 hb;rw[hb]at hh;unfold lread at hP;rw[hb,if_neg (by decide)]at hP;obtain⟨z,hz⟩:=zex (str id);rw[<-hz]at hh ⊢;have H:=zhd2 hh hP;clear hh hP hb hz h hpw;go_enter Tryz.func12,Tryz.ntmps12;go_wp2_with (go_at_call 25;refine H.o0.mono ?_;rintro e w1 ⟨rfl,f1⟩;have H1:=zhd f1;clear f1);go_ret3;exact ParseP.bad H.l1 H1.out rfl
theorem qr3:∀n:_root_.Fin 16,dgv (hexd n.1)=some n.1:=by decide
theorem qlj:∀bs:List UInt8,unhexL (hexb bs)=some bs
 | []=>rfl
 | b::t=>by have hb:=b.toNat_lt;have h1:=qr3 ⟨b.toNat/16,by omega⟩;have h2:=qr3 ⟨b.toNat%16,by omega⟩;have e:hexb (b::t)=hexd (b.toNat/16)::hexd (b.toNat%16)::hexb t:=rfl;rw[e,unhexL,h1,h2,qlj t];simp only[qar,qjg,and_true];rw[show 16*(b.toNat/16)+b.toNat%16=b.toNat by omega,UInt8.ofNat_toNat]
theorem qjo (k:Int) (body:List UInt8):hashB (oid k body)=true:=by unfold hashB oid;rw[qlj];simp only;rw[sha.qhd];rfl
theorem qz0 (s:List UInt8):((⟨#[116,109,112,47]⟩:ByteArray)++str s)=str (tmps++s):=by rw[<-qct];rfl
set_option maxRecDepth 100000
theorem qtn (F n M M':Nat) (t:fs.Nm→Option (List UInt8)) (lab:Nat→Option fs.Lb) (k:Nat) (a:Option Addr) (cap:Nat) (body:List UInt8) (w:World) (h:fs.Fs w F n M t lab) (hk:1≤k∧k≤4) (hb:lib.Rd w a cap body) (hl:body.length≤16000) (hpw:obj.Pw w)
  (ht:t (pathL (oid k body))=none) (ht2:t (tmps++oid k body)=none) (hM':M≤M') (hM2:6*body.length+250≤M') (hM3:M'≤100000) (hn:n<7) :
  Calls Tryz.prog 16 #[.pointer (some ⟨F,0,none⟩),.int .i64 (k:Nat),.slice a body.length cap] w λe w'=>e = .returned (.tuple #[.string (str (oid k body)),.int .i64 0])∧∃lab' r,trip.RQ (obj.header k body.length++body) r∧fs.Fs w' F (n+2) M' (fs.upd t (pathL (oid k body)) (some (defl.zlibOf 2 r (obj.header k body.length++body)))) lab'∧fs.Stp w lab w' lab':=by
 have hho:=qjo k body;have hnm:=obj.qm7 (k:Nat);have hid:∀w',Fr [] w w'→Calls Tryz.prog 30 #[.int .i64 k,.slice a body.length cap] w' λe w''=>e = .returned (.string (str (oid (k:Nat) body)))∧Fr [] w' w'':=λw' f=>obj.qzj (k:Nat) a cap body w' (hb.fr f) (by omega) (hpw.fr f)
 have hpp:=λw'=>qgv (oid k body) w' (by rw[qdm hho];decide)
 have hfr:∀w',Fr [] w w'→Calls Tryz.prog 29 #[.pointer (some ⟨F,0,none⟩),.string (str (pathL (oid k body)))] w' λe w''=>e = .returned (.tuple #[.slice none 0 0,.int .i64 61])∧Fr [] w' w'':=λw' f=>by have:=fs.qet F n M t lab (pathL (oid k body)) w' (h.fr f (by simp)) (qkn hho);rw[ht]at this;exact this
 have hfi:=λw' (f:Fr [] w w')=>qr0 (k:Nat) a cap body w' (hb.fr f) (by omega) (hpw.fr f)
 have hsv:∀w' r a' , Fr [] w w'→trip.RQ (obj.header k body.length++body) r→lib.Rd w' a' (defl.zlibOf 2 r (obj.header k body.length++body)).length (defl.zlibOf 2 r (obj.header k body.length++body))→(∀x∈blk a',w.heap.size≤x)→Calls Tryz.prog 38 #[.pointer (some ⟨F,0,none⟩),.string (str (tmps++oid k body)),.string (str (pathL (oid k body))),.slice a' (defl.zlibOf 2 r (obj.header k body.length++body)).length (defl.zlibOf 2 r (obj.header k body.length++body)).length] w' λe w''=>e = .returned (.int .i64 0)∧∃lab',fs.Fs w'' F (n+2) M' (fs.upd t (pathL (oid k body)) (some (defl.zlibOf 2 r (obj.header k body.length++body)))) lab'∧fs.Stp w lab w'' lab':=λw' r a' f hr hrd hx=>by
  have hlen:=(qrz (k:=k) (body:=body) (by omega) hr).1;refine (fs.qxn F n M M' t lab (tmps++oid k body) (pathL (oid k body)) a' _ _ w' (h.fr f (by simp)) (za9 hho) (qkn hho) (qxb _ hho) ht2 hrd (λ_ x hm=>?_) hM' (by omega) hM3 ?_ hn).mono λe w'' ⟨he,lab',h1,h2⟩=>⟨he,lab',h1,(fs.Stp.refl w lab f).trans h2⟩
  ·cases hlx:lab x with
   | none=>rfl
   | some l=>have:=h.low x (by rw[hlx];exact qbo _);have:=hx x hm;omega
  ·have h1:(n+1)*M≤8*100000:=qhi (by omega) h.most;omega
 have htm:=qz0 (oid k body);obtain⟨I,hI⟩:∃I,I=oid (k:Nat) body:=⟨_,rfl⟩;rw[<-hI]at hid hpp hfr hsv htm ⊢;obtain⟨z,hz⟩:=zex (str I);obtain⟨y,hy⟩:=zex (str (pathL I));obtain⟨x,hx⟩:=zex (str (tmps++I));obtain⟨v,hv⟩:∃v,v=str (obj.kname (k:Nat)):=⟨_,rfl⟩;have hve:v.toList.isEmpty=false:=by rw[hv,str_toList];rcases (show k=1∨k=2∨k=3∨k=4 by omega) with rfl|rfl|rfl|rfl<;>rfl
 rw[<-hz]at hid hpp htm ⊢;rw[<-hy]at hpp hfr hsv;rw[<-hx]at htm hsv;rw[<-hv]at hnm;obtain⟨L,hL⟩:=zex body.length;rw[<-hL]at hl hid hfi ⊢;have hzs:z.size=40:=by rw[hz,str_size,hI];exact qdm hho
 have d0:decide ((65536:Int)<(L:Int))=false:=by simp;omega
 have H:=zhd7 hnm hid hpp hfr hfi hsv htm;have HL:=zhd hL;clear hnm hid hpp hfr hfi hsv htm hI hz hy hx hv hL h hb hpw ht ht2 hho;go_enter Tryz.func16,Tryz.ntmps16;go_wp2_with (first
  | (go_at_call 37;refine (H.o0 _).mono ?_;rintro e w1 ⟨rfl,f1⟩;have H1:=zhd f1;clear f1)
  | (go_at_call 30;refine (H.o1 _ H1.out).mono ?_;rintro e w2 ⟨rfl,f2⟩;have H2:=zhd (H1.out.trans f2);clear f2)
  | (guard_hyp H2;guard_hyp H4;go_at_call 10;refine (H.o2 _).mono ?_;rintro e w5 ⟨rfl,f5⟩;have H5:=zhd (H4.out.trans f5);clear f5)
  | (go_at_call 10;refine (H.o2 _).mono ?_;rintro e w3 ⟨rfl,f3⟩;have H3:=zhd (H2.out.trans f3);clear f3)
  | (go_at_call 29;refine (H.o3 _ H3.out).mono ?_;rintro e w4 ⟨rfl,f4⟩;have H4:=zhd (H3.out.trans f4);clear f4)
  | (go_at_call 8;refine (H.o4 _ H5.out).mono ?_;rintro e w6 ⟨r,hr,a6,rfl,o6,n6,f6⟩;have H6:=zhd3 hr (H5.out.trans f6) (H.o5 _ r a6 (H5.out.trans f6) hr o6.rd (λx hx=>qao H5.out.size (n6 x hx).1));clear hr o6 n6 f6)
  | (rw[H.l6];go_at_call 38;refine H6.l2.mono ?_;rintro e w7 ⟨rfl,lab7,h7,s7⟩;have H7:=zhd3 h7 s7 (fs.qsd F _ _ _ _ w7 h7);clear h7 s7)
  | (go_at_call 39;refine H7.l2.mono ?_;rintro e w8 ⟨rfl,h8,s8⟩;have H8:=zhd2 h8 s8;clear h8 s8))
 go_ret2;rw[HL.out];exact⟨rfl,lab7,r,H6.o0,H8.o0,H7.o1.trans H8.l1⟩
set_option maxRecDepth 100000
def cand (s:List UInt8):List UInt8:=Lib.replace (Lib.trimPrefix s objs) [47] [] 1
def idOf (s:List UInt8):List (List UInt8):=if pathL (cand s)=s then [cand s] else []
theorem qxk (v:Value) (L:Nat) (l:List (List UInt8)) (w:World) (h:w.ownsRow 0 9 1 v L (l.map encStr)) (hL:l.length=L) (hl:L≤1000000) :
  Calls Tryz.prog 43 #[v] w λe w'=>e = .returned (.tuple #[])∧w'.ownsRow 0 9 1 v L ((l.mergeSort λx y=>decide (x≤y)).map encStr)∧Fr v.ownBlock.toList w w':=by
 rcases h.2 with⟨rfl,hz⟩|⟨g,cap,cur,rfl,hbase,hb,h1,h2,h3,h4⟩
 ·have h0:l=[]:=qbs (by omega);subst h0;refine (Any.slices_Sort_string_none Tryz.lays190 none 0 w).mono λe w' ⟨he,hw⟩=>⟨he,?_,by rw[hw];exact Fr.refl _ _⟩
  rw[hw];simpa using h
 ·rw[qdp]at h4;rw[<-hL]at h1 h4 ⊢;refine (Tryz.slices_Sort_string g 0 cap l w (holds_of_block hb h4) (lt_of_block hb) (by omega)).mono λe w' ⟨he,n,os,hw⟩=>⟨he,?_,?_⟩
  ·rw[hw];exact ownsRow_sorted (by simp) hbase hb h1 h2 h3
  ·rw[hw];exact (Fr.refl _ w).grown (grownBy_sorted _) (λk hk=>.inl (by simpa[Value.ownBlock] using hk.symm))
theorem qvt {α β:Type} (q:α→List β) (l:List α) (i:Nat) (hi:i<l.length):(l.take (i+1)).flatMap q=(l.take i).flatMap q++q l[i]:=by rw[qbm hi,qfa];simp
theorem qjq {α β:Type} (q:α→List β) (h:∀x,(q x).length≤1):∀l:List α,(l.flatMap q).length≤l.length
 | []=>qae _
 | x::t=>by have:=h x;have:=qjq q h t;rw[qb8,qaa,qal];omega
theorem zaw (s:List UInt8):(idOf s).length≤1:=by unfold idOf;split<;>simp
theorem qt9 (old:List UInt8):∀(k:Nat) (s:List UInt8),(Lib.replaceK old [] k s).length≤s.length
 | 0,s=>qae _
 | k+1,s=>by
  have:=qt9 old k (s.drop ((Lib.index s old).toNat+old.length));rw[qav]at this;unfold Lib.replaceK;split
  ·exact qae _
  ·rw[qaa,qaa,qas,qa7];omega
theorem za4 (s:List UInt8):(cand s).length≤s.length:=by
 have h1:(Lib.trimPrefix s objs).length≤s.length:=by
  unfold Lib.trimPrefix;split
  ·rw[qav];omega
  ·exact qae _
 unfold cand Lib.replace;split
 ·exact h1
 ·exact qao (qt9 _ _ _) h1
theorem zau (F n M:Nat) (t:fs.Nm→Option (List UInt8)) (lab:Nat→Option fs.Lb) (m:Int) (w:World) (h:fs.Fs w F n M t lab) (hnm:∀x,t x≠none→x.length≤200) (hm:w.cell? ⟨0,0,none⟩=some (.int .i64 m)) :
  Calls Tryz.prog 17 #[.pointer (some ⟨F,0,none⟩)] w λe w'=>∃v ss,e = .returned v∧fs.Lst t ss∧fs.StrsP w w' v (((ss.filter λs=>Lib.hasPrefix s objs).flatMap idOf).mergeSort λx y=>decide (x≤y))∧Fr [] w w':=by
 have hls:=fs.qye F n M t lab objs w h;have hn8:=h.few;have H:=zhd3 hls hnm hm;clear hls hnm hm h;go_enter Tryz.func17,Tryz.ntmps17;go_upto_block 0 with (go_at_call 40;refine H.o0.mono ?_;rintro e w1 ⟨v,ss,rfl,hl,hn,⟨a0,rfl,hcs,hfresh⟩,f1⟩;have H1:=zhd4 hl hcs hfresh f1;clear hl hcs hfresh f1);obtain⟨ls,hls⟩:=zex (ss.filter λs=>Lib.hasPrefix s objs);have hlen:ls.length≤ss.length:=by rw[hls];exact qc4 _ _
 have hmem:∀x∈ls,x.length≤200:=λx hx=>by rw[hls]at hx;exact H.o1 x ((H1.o0.2.2 x).1 (qti.1 hx).1)
 have hcs:=H1.o1;rw[<-hls]at hcs ⊢;obtain⟨N,hN⟩:=zex ls.length;rw[<-hN]at hlen ⊢;have HN:=zhd4 hN hmem hcs hls;clear hN hmem hcs hls;obtain⟨Q,hQ⟩:∃Q:Nat→List (List UInt8),Q=λi=>(ls.take i).flatMap idOf:=⟨_,rfl⟩
 have hQ0:Q 0=[]:=by rw[hQ];simp
 have hQN:Q N=ls.flatMap idOf:=by rw[hQ,HN.o0];simp
 have hQs:∀i (hi:i<ls.length),Q (i+1)=Q i++idOf ls[i]:=λi hi=>by rw[hQ];exact qvt _ ls i hi
 have hQl:∀i,(Q i).length≤i:=λi=>by rw[hQ];exact qao (qjq _ zaw _) (List.length_take_le _ _)
 have HQ:=zhd3 hQN hQs hQ0;have HQl:=zhd hQl;clear hQ hQN hQs hQl;go_wp2;go_loopg [3,10] N (λk s3 s10 wr=>∃(i:Nat) (a:Option Addr) (c:Nat),s10 = .int .i64 (i:Nat)∧i+k=N∧s3 = .slice a (Q i).length c∧wr.ownsRow 0 9 1 s3 (Q i).length ((Q i).map encStr)∧(∀x∈blk a,w1.heap.size≤x)∧Fr [] w1 wr);case atStart=>
  refine⟨0,none,0,rfl,by omega,?_,?_,by simp[blk],Fr.refl _ _⟩
  ·rw[hQ0];rfl
  ·rw[hQ0];exact qcl _ _ _ _
 case round=>
  obtain⟨i,a,c,rfl,hik,rfl,ho,hbk,f⟩:=hrel;have HR:=zhd3 ho hbk f;clear ho hbk f hQ0;by_cases hi:i<N
  ·obtain⟨k,rfl⟩:∃k,gk=k+1:=⟨gk-1,by omega⟩;have hil:i<ls.length:=by rw[<-HN.o0];exact hi
   have hst:=HQ.o1 i hil;have hli:=HQl.out i;have hcs:=HN.o2.belowAll (qf7 HR.l2);rcases hcs with hcs|⟨g0,o0,hg0,hcs⟩
   ·have:=congrArg List.length hcs;rw[qau,qa7]at this;omega
   subst hg0;have hci:=hcs i (encStr ls[i]) (by rw[qbl,qad hil];rfl);rw[fs.qtw]at hci;have hsl:=HN.o1 ls[i] (qci hil);have hx1:=λw'=>Tryz.strings_TrimPrefix (str ls[i]) (str objs) w'
   have hx2:∀w',w'.cell? ⟨0,0,none⟩=some (.int .i64 m)→Calls Tryz.prog 41 #[.string (str (Lib.trimPrefix ls[i] objs)),.string ⟨#[47]⟩,.string ⟨#[]⟩,.int .i64 1] w' λe w''=>e = .returned (.string (str (cand ls[i])))∧Below w'.heap.size w' w'':=λw' hmw=>by
    have htl:(Lib.trimPrefix ls[i] objs).length≤200:=by
     unfold Lib.trimPrefix;split
     ·rw[qav];omega
     ·exact hsl
    exact Tryz.strings_Replace (str (Lib.trimPrefix ls[i] objs)) ⟨#[47]⟩ ⟨#[]⟩ 1 m w' (by rw[str_size];omega) hmw (by decide) (by rw[str_size];show _+_*0≤_;omega)
   have hx3:=λw'=>qgv (cand ls[i]) w' (by have:=za4 ls[i];omega)
   obtain⟨M1,hM1⟩:=zex ((Q i).length);rw[<-hM1]at hli ⊢;have hmw:wr.cell? ⟨0,0,none⟩=some (.int .i64 m):=(H1.l3.trans HR.l2).cell H.l2 (by simp);by_cases hp:pathL (cand ls[i])=ls[i]
   ·unfold idOf at hst;rw[if_pos hp]at hst;obtain⟨z,hz⟩:=zex (str ls[i]);obtain⟨y,hy⟩:=zex (str (cand ls[i]));obtain⟨x,hx⟩:=zex (str (Lib.trimPrefix ls[i] objs));have hx1:∀w',Calls Tryz.prog 42 #[.string (str ls[i]),.string ⟨#[111,98,106,101,99,116,115,47]⟩] w' λe w''=>e = .returned (.string (str (Lib.trimPrefix ls[i] objs)))∧w''=w':=hx1
    rw[hp]at hx3;rw[<-hz]at hci hx1 hx3;rw[<-hx]at hx1 hx2;rw[<-hy]at hx2 hx3;have HX:=zhd7 hx1 hx2 hx3 hst hM1 hy hmw;have hzz:(z.toList==z.toList)=true:=beq_self_eq_true _;clear hx1 hx2 hx3 hst hM1 hz hy hx hsl hcs hp hmw;go_wp2_with (first
     | (go_at_call 42;refine (HX.o0 _).mono ?_;rintro e w2 ⟨rfl,hw⟩;obtain rfl:=hw.symm)
     | (go_at_call 41;refine (HX.o1 _ HX.out.2.2.2.2.2.2).mono ?_;rintro e w3 ⟨rfl,f3⟩;have H3:=zhd (Fr.of_below f3 []);clear f3)
     | (go_at_call 10;refine (HX.l2.1 _).mono ?_;rintro e w4 ⟨rfl,f4⟩;have H4:=zhd (H3.out.trans f4);clear f4)
     | (at_builtin;refine qa6 fs.qtv rfl _ _ rfl (.slice a M1 c) M1 ((Q i).map encStr) (blk a) rfl (qbw _ _ _) ((by rw[HX.out.2.2.2.2.1];exact qbb HR.o0 (H4.out.trans ((Fr.refl [] _).alloc _)) (by simp))) (some ⟨w4.heap.size,0,none⟩) 1 1 [.string y] rfl (qae _) (by simp) (qfj w4 _ _ _) rfl (by simp[Value.oneCell']) (by omega) (by unfold maxLen;omega) ?_;intro a3 q3 w5 A3;have H5:=zhd A3;clear A3))
    go_roundg k;case measure=>omega
    case rel=>
     have A3:=H5.out;have e3:(Q (i+1)).length=M1+1:=by rw[HX.out.2.2.2.1,qaa,<-HX.out.2.2.2.2.1];rfl
     have e4:(Q (i+1)).map encStr=(Q i).map encStr++[.string y]:=by rw[HX.out.2.2.2.1,qbp,HX.out.2.2.2.2.2.1];rfl
     have fa:=HR.l2.trans (H4.out.trans ((Fr.refl [] w4).alloc (.cells #[.string y] 9)));refine⟨i+1,a3,q3,by go_num,by omega,by rw[e3],?_,λx hx=>?_,?_⟩
     ·rw[e3,e4];exact A3.own
     ·rcases A3.at_ x hx with h|h
      ·exact HR.o1 x h
      ·have:=fa.size;omega
     ·exact fa.step A3.fr (λy hy=>.inr (HR.o1 y hy))
   ·unfold idOf at hst;rw[if_neg hp,qb1]at hst;have hzz:((str (pathL (cand ls[i]))).toList==(str ls[i]).toList)=false:=by rw[str_toList,str_toList];exact beq_eq_false_iff_ne.2 hp
    obtain⟨z,hz⟩:=zex (str ls[i]);obtain⟨y,hy⟩:=zex (str (cand ls[i]));obtain⟨x,hx⟩:=zex (str (Lib.trimPrefix ls[i] objs));obtain⟨v,hv⟩:=zex (str (pathL (cand ls[i])));have hx1:∀w',Calls Tryz.prog 42 #[.string (str ls[i]),.string ⟨#[111,98,106,101,99,116,115,47]⟩] w' λe w''=>e = .returned (.string (str (Lib.trimPrefix ls[i] objs)))∧w''=w':=hx1
    rw[<-hz]at hci hx1 hzz;rw[<-hv]at hx3 hzz;rw[<-hx]at hx1 hx2;rw[<-hy]at hx2 hx3;have HX:=zhd7 hx1 hx2 hx3 hst hM1 hy hmw;clear hx1 hx2 hx3 hst hM1 hz hy hx hv hsl hcs hp hmw;go_wp2_with (first
     | (go_at_call 42;refine (HX.o0 _).mono ?_;rintro e w2 ⟨rfl,hw⟩;obtain rfl:=hw.symm)
     | (go_at_call 41;refine (HX.o1 _ HX.out.2.2.2.2.2.2).mono ?_;rintro e w3 ⟨rfl,f3⟩;have H3:=zhd (Fr.of_below f3 []);clear f3)
     | (go_at_call 10;refine (HX.l2.1 _).mono ?_;rintro e w4 ⟨rfl,f4⟩;have H4:=zhd (H3.out.trans f4);clear f4))
    go_roundg k;case measure=>omega
    case rel=>
     refine⟨i+1,a,c,by go_num,by omega,?_,?_,HR.o1,HR.l2.trans H4.out⟩
     ·rw[HX.out.2.2.2.1,<-HX.out.2.2.2.2.1]
     ·rw[HX.out.2.2.2.1,HX.out.2.2.2.2.1];exact qbb HR.o0 H4.out (by simp)
  ·obtain rfl:i=N:=by omega
   have hlq:=HQl.out i;have hso:=qxk _ _ (Q i) wr HR.o0 rfl (by omega);obtain⟨R,hR⟩:=zex (Q i);rw[<-hR]at hso hlq ⊢;obtain⟨M1,hM1⟩:=zex R.length;rw[<-hM1]at hso hlq ⊢;have HX:=zhd3 hR hM1 hso;clear hR hM1 hso;go_wp2_with (first
    | (go_at_call 43;refine HX.l2.mono ?_;rintro e w4 ⟨rfl,o4,f4⟩;obtain⟨a2,c2,he2,hle2,hmax2⟩:=qfy o4;obtain⟨rfl,_,rfl⟩:=Value.slice.inj he2;have H4:=zhd2 o4 f4;clear o4 f4 he2)
    | (go_at_call 44;refine (fs.qzq _ M1 _ _ hle2 hmax2).mono ?_;rintro e w5 ⟨rfl,hw⟩;obtain rfl:=hw.symm))
   go_ret;have f:=H1.l3.trans (HR.l2.step H4.out.2 (λy hy=>.inr (HR.o1 y (by rw[qbw]at hy;exact hy))));refine⟨_,ss,rfl,H1.o0,⟨a,?_,?_,λx hx=>⟨?_,qen H4.out.1 (qeg hx)⟩⟩,f⟩
   ·rw[<-HN.l3,<-HQ.o0,<-HX.o0,List.length_mergeSort,<-HX.o1];rfl
   ·rw[<-HN.l3,<-HQ.o0,<-HX.o0];exact qc5 H4.out.1
   ·have:=HR.o1 x hx;have:=H1.l3.size;omega
set_option maxRecDepth 100000
def id0:List UInt8:=[101,54,57,100,101,50,57,98,98,50,100,49,100,54,52,51,52,98,56,98,50,57,97,101,55,55,53,97,100,56,99,50,101,52,56,99,53,51,57,49]
theorem oid0:oid 3 []=id0:=by decide +kernel
theorem _root_.Go.Proofs.YtbabjlohkniciaaGreatDoor.fs.Stp.fr0 {w0 a b:World} {la lb:Nat→Option fs.Lb} (h:fs.Stp a la b lb) (f:Fr [] w0 a) (hl:∀x,la x≠none→w0.heap.size≤x):Fr [] w0 b∧∀x,lb x≠none→w0.heap.size≤x:=by
 obtain⟨⟨T,g,hT⟩,k⟩:=h;refine⟨f.step g (λx hx=>.inr (hl x (hT x hx))),λx hx=>?_⟩;rcases k x hx with h|h
 ·exact hl x h
 ·exact qao f.size h
theorem zai {p:List UInt8} {v:List UInt8} {ss:List (List UInt8)} (h:fs.Lst (fs.upd (λ_=>none) p (some v)) ss):ss=[p]:=by
 obtain⟨h1,_,h3⟩:=h;have hp:p∈ss:=(h3 p).2 (by unfold fs.upd;rw[if_pos rfl];simp);have ho:∀x∈ss,x=p:=λx hx=>by
  have:=(h3 x).1 hx;unfold fs.upd at this;split at this
  ·assumption
  ·exact absurd rfl this
 match ss,h1,hp,ho with
 | [],_,hp,_=>cases hp
 | [x],_,_,ho=>rw[ho x (by simp)]
 | x::y::t,h1,_,ho=>have:=ho x (by simp);have:=ho y (by simp);simp_all
theorem ids0:((([pathL id0].filter λs=>Lib.hasPrefix s objs).flatMap idOf).mergeSort λx y=>decide (x≤y)).length=1:=by rw[List.length_mergeSort];decide +kernel
theorem qld (m:Int) (w:World) (hpw:obj.Pw w) (hm:w.cell? ⟨0,0,none⟩=some (.int .i64 m)):Calls Tryz.prog 6 #[] w λe w'=>e = .returned (.bool true)∧Fr [] w w':=by
 have H:=zhd2 hpw hm;clear hpw hm;go_enter Tryz.func6,Tryz.ntmps6;go_upto_region 2 with (go_at_call 5;refine (fs.qm5 w).mono ?_;rintro e w1 ⟨F,lab,rfl,h1,hlab,f1⟩;have H1:=zhd3 h1 hlab f1;clear h1 hlab f1);have c2:=qtn F 0 0 300 (λ_=>none) lab 3 none 0 [] w1 H1.o0 (by decide) (Rd.none w1) (by decide) (H.o0.fr H1.l2) rfl rfl (by decide) (by decide) (by decide) (by decide);rw[show (((3:Nat):Int))=3 from rfl,oid0]at c2;have H2:=zhd c2;clear c2;go_upto_region 3 with (go_at_call 16;refine H2.out.mono ?_;rintro e w2 ⟨rfl,lab2,r,hr,h2,s2⟩;have H3:=zhd3 hr h2 (s2.fr0 H1.l2 H1.o1);clear hr h2 s2);have hh:hashB id0=true:=by rw[<-oid0];exact qjo _ _
 have c3:=qet F _ _ _ lab2 id0 w2 H3.o1 (by decide) (H.o0.fr H3.l2.1);have hrd:lread (fs.upd (λ_=>none) (pathL id0) (some (defl.zlibOf 2 r (obj.header 3 ([]:List UInt8).length++[])))) id0=(3,[],0):=by have hp:=qlx (k:=3) (by decide) (body:=[]) (by decide) H3.o0;unfold lread;rw[if_pos hh];unfold fs.upd;rw[if_pos rfl];simp only;have hp:lparse (defl.zlibOf 2 r (obj.header 3 ([]:List UInt8).length++[]))=(3,[],0):=hp;rw[hp];simp only;rw[if_pos trivial,if_pos (show oid ((3:Nat):Int) []=id0 from oid0)]
 have c3:Calls Tryz.prog 12 #[.pointer (some ⟨F,0,none⟩),.string (str id0)] w2 (ParseP w2 (3,[],0)):=by rw[<-hrd];exact c3
 unfold ParseP at c3;have H4:=zhd c3;clear c3 hrd;go_upto_region 4 with (go_at_call 12;refine H4.out.mono ?_;rintro e w3 ⟨a3,rfl,_,_,f3⟩;have H5:=zhd2 (H3.l2.1.trans f3) (H3.o1.fr f3 (by simp));clear f3);have c5:=λw' (f:Fr [] w3 w')=>zau F _ _ _ lab2 m w' (H5.l1.fr f (by simp)) (λx hx=>by
  unfold fs.upd at hx
  split at hx
  ·rename_i e
   rw[e]
   decide
  ·exact absurd rfl hx) ((H5.o0.trans f).cell H.l1 (by simp))
 have c4:=λw'=>qgv id0 w' (by decide)
 have e0:str id0=⟨#[101,54,57,100,101,50,57,98,98,50,100,49,100,54,52,51,52,98,56,98,50,57,97,101,55,55,53,97,100,56,99,50,101,52,56,99,53,51,57,49]⟩:=rfl;have e1:str (pathL id0)=⟨#[111,98,106,101,99,116,115,47,101,54,47,57,100,101,50,57,98,98,50,100,49,100,54,52,51,52,98,56,98,50,57,97,101,55,55,53,97,100,56,99,50,101,52,56,99,53,51,57,49]⟩:=by rfl
 rw[e0,e1]at c4;rw[e0];have HC:=zhd2 c4 c5;clear c4 c5 e0 e1 hh;go_wp2_with (first
  | (go_at_call 10;refine (HC.o0 _).mono ?_;rintro e w4 ⟨rfl,f4⟩;have H6:=zhd f4;clear f4)
  | (go_at_call 17;refine (HC.l1 _ H6.out).mono ?_;rintro e w5 ⟨v,ss,rfl,hl,⟨a5,rfl,_,_⟩,f5⟩;rw[zai hl,ids0];have H7:=zhd (H5.o0.trans (H6.out.trans f5));clear f5 hl))
 go_ret;exact⟨rfl,H7.out⟩
theorem _root_.Go.Proofs.YtbabjlohkniciaaGreatDoor.fs.Stp.own {a b:World} {la lb:Nat→Option fs.Lb} (h:fs.Stp a la b lb) {e:TypeId} {ad:Option Addr} {cap:Nat} {xs:List Value} (ho:Own a e ad cap xs) (hn:∀x∈blk ad,la x=none):Own b e ad cap xs∧∀x∈blk ad,lb x=none:=by
 obtain⟨⟨T,f,hT⟩,hl⟩:=h;refine⟨ho.fr f (λx hx hm=>hT x hm (hn x hx)),λx hx=>?_⟩;cases hlx:lb x with
 | none=>rfl
 | some l=>
  rcases hl x (by rw[hlx];exact qbo _) with h|h
  ·exact absurd (hn x hx) h
  ·have:=ho.lt x hx;omega
structure WS (w0:World) (F n M:Nat) (t:fs.Nm→Option (List UInt8)) (ad:Option Addr) (fb:List UInt8) (w:World) (lab:Nat→Option fs.Lb):Prop where
 fs:fs.Fs w F n M t lab
 fr:Fr [] w0 w
 hi:∀x,lab x≠none→w0.heap.size≤x
 own:Own w 5 ad fb.length (fb.map bv)
 off:∀x∈blk ad,lab x=none
theorem WS.step {w0 w w':World} {F n M:Nat} {t:fs.Nm→Option (List UInt8)} {ad:Option Addr} {fb:List UInt8} {lab:Nat→Option fs.Lb} (h:WS w0 F n M t ad fb w lab) (f:Fr [] w w'):WS w0 F n M t ad fb w' lab:=
 ⟨h.fs.fr f (by simp),h.fr.trans f,h.hi,h.own.fr f (by simp),h.off⟩
theorem WS.stp {w0 w w':World} {F n M n' M':Nat} {t t':fs.Nm→Option (List UInt8)} {ad:Option Addr} {fb:List UInt8} {lab lab':Nat→Option fs.Lb} (h:WS w0 F n M t ad fb w lab) (k:fs.Fs w' F n' M' t' lab') (s:fs.Stp w lab w' lab'):WS w0 F n' M' t' ad fb w' lab':=
 ⟨k,(s.fr0 h.fr h.hi).1,(s.fr0 h.fr h.hi).2,(s.own h.own h.off).1,(s.own h.own h.off).2⟩
theorem qnt {w0 w:World} {F n M:Nat} {t:fs.Nm→Option (List UInt8)} {ad:Option Addr} {fb:List UInt8} {lab:Nat→Option fs.Lb} (h:WS w0 F n M t ad fb w lab) (k:fs.Nm) (hk:fs.NOk k) (ht:t k=none) (hn:n<8) :
  Calls Tryz.prog 9 #[.pointer (some ⟨F,0,none⟩),.string (str k)] w λe w'=>e = .returned (.int .i64 0)∧∃lab',WS w0 F (n+1) M (fs.upd t k (some [])) ad fb w' lab':=
 (fs.qmg F n M t lab k w h.fs hk ht hn).mono λ_ _ ⟨he,lab',k1,k2⟩=>⟨he,lab',h.stp k1 k2⟩
theorem qnu {w0 w:World} {F n M:Nat} {t:fs.Nm→Option (List UInt8)} {ad:Option Addr} {fb:List UInt8} {lab:Nat→Option fs.Lb} (h:WS w0 F n M t ad fb w lab) (k:fs.Nm) (hk:fs.NOk k) (bs:List UInt8) (ht:t k=some bs) (M':Nat) (hM:M≤M') (hM2:bs.length+fb.length≤M') (hM3:M'≤100000) :
  Calls Tryz.prog 11 #[.pointer (some ⟨F,0,none⟩),.string (str k),.slice ad fb.length fb.length] w λe w'=>e = .returned (.int .i64 0)∧∃lab',WS w0 F n M' (fs.upd t k (some (bs++fb))) ad fb w' lab':=
 (fs.qmm F n M M' t lab k bs ad fb.length fb w h.fs hk ht h.own.rd (λ_=>h.off) hM hM2 hM3 (by
  have h1:n*M≤8*100000:=qhi h.fs.few h.fs.most
  omega)).mono λ_ _ ⟨he,lab',k1,k2⟩=>⟨he,lab',h.stp k1 k2⟩
theorem WS.put {w0 w:World} {F n M:Nat} {t:fs.Nm→Option (List UInt8)} {ad:Option Addr} {fb:List UInt8} {lab:Nat→Option fs.Lb} (h:WS w0 F n M t ad fb w lab) (hb:∀x∈blk ad,w0.heap.size≤x) (K:Nat) (hK:K<fb.length) :
  ∃g o b,ad=some ⟨g,o,none⟩∧fb[K]?=some b∧w.cell? ⟨g,o+K,none⟩=some (bv b)∧w.frozen? ⟨g,o+K,none⟩=false∧∀c:UInt8,WS w0 F n M t ad (fb.set K c) (w.setCell ⟨g,o+K,none⟩ (bv c)) lab:=by
 rcases h.own with⟨_,_,h3⟩|⟨g,o,cur,rfl,h2,h3,h4,h5,h6⟩
 ·have:=congrArg List.length h3;rw[qau,qa7]at this;omega
 ·rw[qau]at h3 h6;have hcell:∀j,j<fb.length→cur[o+j]?=(fb.map bv)[j]?:=λj hj=>by rw[<-h6,qew hj,qck,qb2]
  have hbK:fb[K]?=some fb[K]:=qad hK;refine⟨g,o,fb[K],rfl,hbK,?_,qaw h2 _,λc=>?_⟩
  ·rw[cell_of h2,hcell K hK,qbl,hbK];rfl
  ·have f:Fr [g] w (w.setCell ⟨g,o+K,none⟩ (bv c)):=(Fr.refl [g] w).setCell (by simp) _;have hg:lab g=none:=h.off g (by simp[blk]);refine⟨h.fs.fr f (λx hx=>by simp only[qa4]at hx;rw[hx];exact hg),h.fr.step f (λx hx=>.inr (by simp only[qa4]at hx;rw[hx];exact hb g (by simp[blk]))),h.hi,?_,h.off⟩;refine .inr ⟨g,o,_,rfl,qax h2 _,by rw[qau];exact qae _,by rw[qje];exact h4,by rw[qje];simpa using h5,?_⟩;apply qex;intro j;rw[qau,qje];by_cases hj:j<fb.length
   ·rw[qew hj,qck,qb2,qbl,List.getElem?_set];by_cases hjk:K=j
    ·subst hjk;rw[if_pos rfl,if_pos hK,qap (by omega)];rfl
    ·rw[if_neg hjk,qab (by omega),hcell j hj,qbl]
   ·rw[List.getElem?_take_eq_none (by omega),qbi (by rw[qau,qje];omega)]
theorem qyc {t:fs.Nm→Option (List UInt8)} {id:List UInt8} (h:(lread t id).2.2=0):oid ((lread t id).1:Nat) (lread t id).2.1=id∧(lread t id).2.1.length≤65568:=by
 unfold lread at h ⊢;split
 ·rename_i hh;rw[if_pos hh]at h;split
  ·rename_i ht;rw[ht]at h;cases h
  ·rename_i bs ht;rw[ht]at h;simp only at h;by_cases h1:(lparse bs).2.2=0
   ·rw[if_pos h1]at h ⊢;by_cases h2:oid ((lparse bs).1:Nat) (lparse bs).2.1=id
    ·rw[if_pos h2]at h ⊢;exact⟨h2,ql3 bs⟩
    ·rw[if_neg h2]at h;cases h
   ·rw[if_neg h1]at h;exact absurd h h1
 ·rename_i hh;rw[if_neg hh]at h;cases h
theorem quz {t:fs.Nm→Option (List UInt8)} {id:List UInt8} (h:(lread t id).2.2≠0):(lread t id).2.1=[]:=by
 unfold lread at h ⊢;split
 ·rename_i hh;rw[if_pos hh]at h;split
  ·rfl
  ·rename_i bs ht;rw[ht]at h;simp only at h;by_cases h1:(lparse bs).2.2=0
   ·rw[if_pos h1]at h ⊢;by_cases h2:oid ((lparse bs).1:Nat) (lparse bs).2.1=id
    ·rw[if_pos h2]at h;exact absurd h1 h
    ·rw[if_neg h2]
   ·rw[if_neg h1]
 ·rfl
theorem ql2 {t:fs.Nm→Option (List UInt8)} {id:List UInt8} (hid:hashB id=true) {k:Nat} (hk:1≤k∧k≤4) {body:List UInt8} (hl:body.length≤60000) {r:List UInt8} (hr:trip.RQ (obj.header k body.length++body) r)
  (ht:t (pathL id)=some (defl.zlibOf 2 r (obj.header k body.length++body))):lread t id=if oid (k:Nat) body=id then (k,body,0) else (0,[],6):=by
 unfold lread;rw[if_pos hid,ht];simp only;rw[qlx hk hl hr];simp only;rw[if_pos trivial]
end Go.Proofs.YtbabjlohkniciaaGreatDoor.lo
namespace Go.Proofs.YtbabjlohkniciaaGreatDoor.sha
open Go Go.RowKit lib bm pk
def wv (v:Nat):Value:=.int .u32 v
def be4s (vs:List Nat):List UInt8:=vs.flatMap sums.be4
theorem be4s_len:∀vs:List Nat,(be4s vs).length=4*vs.length
 | []=>rfl
 | v::t=>by have:be4s (v::t)=sums.be4 v++be4s t:=rfl;rw[this,qaa,sums.qc6,be4s_len t,qal];omega
theorem qwr (vs:List Nat) (v:Nat):be4s (vs++[v])=be4s vs++sums.be4 v:=by unfold be4s;rw[qfa];simp
theorem qnw (ao:Option Addr) (cap:Nat) (vs:List Nat) (w:World) (h:Cs w ao (vs.map wv)) (hv:∀v∈vs,v<4294967296) (hlen:vs.length≤5) (hlc:vs.length≤cap) (hcm:cap≤maxLen) :
  Calls Tryz.prog 45 #[.slice ao vs.length cap] w λe w'=>∃a c,e = .returned (.slice a (4*vs.length) c)∧lib.Rd w' a c (be4s vs)∧(∀x∈blk a,w.heap.size≤x∧x<w'.heap.size)∧Fr [] w w':=by
 obtain⟨L,hL⟩:=zex vs.length;unfold maxLen at hcm;rw[<-hL]at hlen hlc ⊢;have HI:=zhd3 h hL hv;clear h hL hv;go_enter Tryz.func45,Tryz.ntmps45;go_wp2;go_loopg [3,4] L (λk s3 s4 wr=>∃i a c out,s4 = .int .i64 (i:Nat)∧s3 = .slice a out.length c∧i+k=L∧out=be4s (vs.take i)∧Wr w wr a c out);case atStart=>exact⟨0,none,0,[],rfl,rfl,by omega,rfl,qqz w w (Fr.refl _ _)⟩
 case round=>
  obtain⟨i,a,c,out,rfl,rfl,hik,ho,hw⟩:=hrel;have H:=zhd2 hw ho;have hol:out.length≤20:=by rw[ho,be4s_len,qas];omega
  clear hw ho;by_cases hi:i<L
  ·obtain⟨k,rfl⟩:∃k,gk=k+1:=⟨gk-1,by omega⟩;have hil:i<vs.length:=by rw[<-HI.out.2.1];exact hi
   obtain⟨g,o,rfl,hc⟩:=HI.out.1.at (by rw[qau];omega);have hci:=hc i (wv vs[i]) (by rw[qbl,qad hil];rfl);have hglt:g<w.heap.size:=World.block_lt_of_cell? w _ hci;have hvb:=HI.out.2.2 vs[i] (qci hil);have HT:=zhd (show vs.take (i+1)=vs.take i++[vs[i]] from qbm hil);obtain⟨v,hvv⟩:=zex (vs[i]);rw[<-hvv]at hci hvb HT;have hb4:=sums.qqv v hvb;have HB:=zhd hb4;unfold wv at hci;have hcr:=H.out.1.fr.cell hci (by simp);obtain⟨S,hS⟩:=zex (blk a);have hgS:g∉S:=λhm=>by rw[hS]at hm;have:=H.out.1.new g hm;omega
   have q0:∀x,(sup S wr.drew x).cell? ⟨g,o+i,none⟩=some (.int .u32 v):=λx=>(qcx S wr.drew x).cell (show wr.drew.cell? _=_ from hcr) hgS
   have HS:=zhd hS;clear hc hci hil hvv hb4 hcr hS hglt;go_upto_region 5 with fail;refine qb5 26 [(false,0),(false,1),(false,2),(false,3),(false,4),(false,5),(false,6),(false,7),(false,8),(false,9),(false,10),(false,11),(false,12),(false,13),(false,14),(false,15),(false,16),(false,17),(false,18),(false,19),(false,20),(false,21),(false,22),(false,23),(true,24),(true,25)] S (by kernel_rfl) (by kernel_rfl) (λ_ _ d _ _ h=>by cases d<;>exact h) ?_;simp only[qaj,qam,qa8,qa9,qac,qai,qby];refine qb0 24 rfl ?_;simp only[qag,qan,qac,qai,qaj,qam];repeat (go_big_quiet_step (fail))
   refine wpQuiet_nil ?_;clear q0;refine qcg rfl ?_;intro X hX;go_wp2;refine hX.out _ _ ((Fr.refl _ wr.drew).alloc _) ?_;clear hX X;have fr0:Fr [] wr (wr.drew.alloc (.cells #[.int .u8 ((v:Int)/16777216),.int .u8 ((v:Int)/65536%256),.int .u8 ((v:Int)/256%256),.int .u8 ((v:Int)%256)] 5)):=(Fr.drew1 [] wr).alloc _;have ownA:=qbb H.out.1.own fr0 (by simp);have cA:Cs (wr.drew.alloc (.cells #[.int .u8 ((v:Int)/16777216),.int .u8 ((v:Int)/65536%256),.int .u8 ((v:Int)/256%256),.int .u8 ((v:Int)%256)] 5)) (some ⟨wr.drew.heap.size,0,none⟩) ((sums.be4 v).map bv):=by rw[HB.out];exact .inr ⟨wr.drew.heap.size,0,rfl,λj u hj=>by rw[cell_of (qa3 wr.drew _)];simpa using hj⟩
   refine qcg rfl ?_;intro X hX;refine qfs sliceU8 _ _ rfl (.slice a out.length c) out.length (out.map bv) S rfl (by rw[qbw,HS.out]) ownA (some ⟨wr.drew.heap.size,0,none⟩) 4 4 ((sums.be4 v).map bv) rfl (by decide) (by simp) cA (by rfl) (qeb _) (by omega) (by unfold maxLen;omega) ?_;intro a2 c2 w2 A1;refine hX.out _ _ A1.fr ?_;clear hX X;refine qco ?_;have HA:=zhd2 fr0 A1;clear fr0 A1 ownA cA;go_wp2;go_roundg k;case measure=>omega
   case rel=>have A1:=HA.l1;rw[HS.out]at A1;exact⟨i+1,a2,c2,out++sums.be4 v,by go_num,by rw[qaa];rfl,by omega,by rw[HT.out,qwr,<-H.out.2],H.out.1.step2 HA.o0 A1⟩
  ·obtain rfl:i=L:=by omega
   have ho:out=be4s vs:=by rw[H.out.2,HI.out.2.1,List.take_length]
   have hn:out.length=4*i:=by rw[ho,be4s_len,<-HI.out.2.1]
   have HO:=zhd2 ho hn;clear ho hn;go_wp2;go_ret;obtain⟨r1,_⟩:=qgu H.out.1.own;exact⟨a,c,by rw[<-HO.l1];rfl,by rw[<-HO.o0];exact r1,λx hx=>⟨H.out.1.new x hx,qen H.out.1.own (qeg hx)⟩,H.out.1.fr⟩
theorem qf3 (x:Int) (n:Nat) (w:World) (hn:n=1∨n=5∨n=30) :
  Calls Tryz.prog 46 #[.int .u32 x,.int .i64 n] w λe w'=>e = .returned (.int .u32 (rol x n))∧Fr [] w w':=by
 rcases hn with rfl|rfl|rfl
 all_goals
  go_enter Tryz.func46,Tryz.ntmps46
  go_upto_region 1 with fail
  go_quiet (fail)
  go_wp2
  go_ret
  exact⟨rfl,Fr.drewN _ _ _⟩
end Go.Proofs.YtbabjlohkniciaaGreatDoor.sha
