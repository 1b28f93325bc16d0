/-
  Texts of this proof, one behind the other: FsM, LoSave, LoLaw3, LoRead, LoWrite, LoIDs, LoAwake, Ref5, RfB.
-/
import Derived.Test.YtbabjlohkniciaaGreatDoorV20
set_option maxHeartbeats 16000000
set_option maxRecDepth 100000
set_option linter.unusedVariables false
set_option linter.unusedSimpArgs false
namespace Go.Proofs.YtbabjlohkniciaaGreatDoor.fs
open Go Go.RowKit lib pk
set_option maxRecDepth 100000
theorem qvc:SliceTy Tryz.prog 49 9 (.string ⟨#[]⟩) 1 16:=SliceTy.of Tryz.underlying49 (by kernel_rfl) rfl (by decide)
theorem zbq (ao:Option Addr) (len cap:Nat) (w:World) (hle:len≤cap) (hmax:cap≤maxLen) :
  Calls Tryz.prog 44 #[.slice ao len cap] w λe w'=>e = .returned (.slice ao len len)∧w'=w:=by
 go_enter Tryz.func44,Tryz.ntmps44;go_wp2;all_goals go_ret
 all_goals exact⟨by first|rfl|simp,rfl⟩
def StrsP (w w':World) (v:Value) (l:List Nm):Prop:=∃a,v = .slice a l.length l.length∧lib.Cs w' a (l.map encStr)∧∀x∈blk a,w.heap.size≤x∧x<w'.heap.size
theorem qq8 {α:Type} (q:α→Bool) (l:List α) (i:Nat) (hi:i<l.length):(l.take (i+1)).filter q=(l.take i).filter q++(if q l[i]=true then [l[i]] else []):=by
 rw[qbc hi,qeq];congr 1;by_cases h:q l[i]=true
 ·simp[h]
 ·simp[h]
theorem qz0 (F n M:Nat) (t:Nm→Option (List UInt8)) (lab:Nat→Option Lb) (p:Nm) (w:World) (h:Fs w F n M t lab) :
  Calls Tryz.prog 40 #[.pointer (some ⟨F,0,none⟩),.string (str p)] w λe w'=>∃v ss,e = .returned v∧Lst t ss∧ss.length≤n∧StrsP w w' v (ss.filter λs=>Lib.hasPrefix s p)∧Fr [] w w':=by
 have hso:=qti F n M t lab w h;have hfs:∃q B las chg,FsB w F q B las chg:=by obtain⟨⟨B,las,chg,m,vs,g,h1,_⟩,_⟩:=h;exact⟨_,B,las,chg,h1⟩
 obtain⟨q,B,las,chg,hF⟩:=hfs;have hn8:=h.few;obtain⟨pz,hpz⟩:=zex (str p);rw[<-hpz];have H:=zhd3 hso hF hpz;clear hso hF h hpz;go_enter Tryz.func40,Tryz.ntmps40;go_upto_block 0 with (go_at_call 69;refine H.o0.mono ?_;rintro e w1 ⟨v,ss,rfl,hl,hn,ho,f1⟩;obtain⟨a0,c0,rfl,hle,hmax⟩:=qfx ho;have H1:=zhd3 hl ho f1;clear hl ho f1);obtain⟨N,hN⟩:=zex ss.length;rw[<-hN]at hn hle ⊢;have HN:=zhd hN;clear hN;obtain⟨Q,hQ⟩:∃Q:Nat→List Nm,Q=λi=>(ss.take i).filter λs=>Lib.hasPrefix s p:=⟨_,rfl⟩
 have hQ0:Q 0=[]:=by rw[hQ];simp
 have hQN:Q N=ss.filter λs=>Lib.hasPrefix s p:=by rw[hQ,HN.out];simp
 have hQs:∀i (hi:i<ss.length),Q (i+1)=Q i++(if Lib.hasPrefix ss[i] p=true then [ss[i]] else []):=λi hi=>by rw[hQ];exact qq8 _ ss i hi
 have hQl:∀i,(Q i).length≤i:=λi=>by rw[hQ];exact qan (qc7 _ _) (List.length_take_le _ _)
 have HQ:=zhd3 hQN hQs hQ0;have HQl:=zhd hQl;clear hQ hQN hQs hQl;go_wp2;go_loopg [5,11] N (λk s5 s11 wr=>∃(i:Nat) (a:Option Addr) (c:Nat),s11 = .int .i64 (i:Nat)∧i+k=N∧s5 = .slice a (Q i).length c∧wr.ownsRow 0 9 1 s5 (Q i).length ((Q i).map encStr)∧(∀x∈blk a,w1.heap.size≤x)∧Fr [] w1 wr);case atStart=>
  refine⟨0,none,0,rfl,by omega,?_,?_,by simp[blk],Fr.refl _ _⟩
  ·rw[hQ0];rfl
  ·rw[hQ0];exact qch _ _ _ _
 case round=>
  obtain⟨i,a,c,rfl,hik,rfl,ho,hbk,f⟩:=hrel;have HR:=zhd3 ho hbk f;clear ho hbk f hQ0;by_cases hi:i<N
  ·obtain⟨k,rfl⟩:∃k,gk=k+1:=⟨gk-1,by omega⟩;have hil:i<ss.length:=by rw[<-HN.out];exact hi
   have hst:=HQ.o1 i hil;have hli:=HQl.out i;have hcs:=(qcm H1.o1).belowAll (qgd HR.l2);rcases hcs with hcs|⟨g0,o0,hg0,hcs⟩
   ·have:=congrArg List.length hcs;rw[qa8,qbb]at this;omega
   subst hg0;have hci:=hcs i (encStr ss[i]) (by rw[qbx,qaf hil];rfl);rw[qvd]at hci;obtain⟨C,hC⟩:=zex (wr.cell? ⟨g0,o0+i,none⟩);have hx:=λw'=>Tryz.strings_HasPrefix (str ss[i]) pz w'
   rw[show (str ss[i]).data.toList=ss[i] from rfl,show pz.data.toList=p by rw[H.l2];rfl]at hx;obtain⟨M1,hM1⟩:=zex ((Q i).length);rw[<-hM1]at hli ⊢;have hF1:FsB wr F q B las chg:=HR.l2.blk (H1.l2.blk H.o1 (by simp)) (by simp);have c5:wr.cell? ⟨F,5,none⟩=some (.bool false):=by rw[cell_of hF1];rfl
   obtain⟨b,hb⟩:=zex (Lib.hasPrefix ss[i] p);rw[<-hb]at hx hst;cases b with
   | true=>
    rw[if_pos rfl]at hst;obtain⟨z,hz⟩:=zex (str ss[i]);rw[<-hz]at hci hx;have HX:=zhd4 hx hst hM1 hz;clear hx hst hM1 hz hb hF1 hC hcs;go_wp2_with (first
     | (go_at_call 59;refine (HX.o0 _).mono ?_;rintro e w2 ⟨rfl,hw⟩;obtain rfl:=hw.symm)
     | (at_builtin;refine qa5 qvc rfl _ _ rfl (.slice a M1 c) M1 ((Q i).map encStr) (blk a) rfl (qbp _ _ _) ((by rw[HX.out.2.2.1];exact qa7 HR.o0 ((Fr.refl [] wr).alloc _) (by simp))) (some ⟨wr.heap.size,0,none⟩) 1 1 [.string z] rfl (qag _) (by simp) (qgx wr _ _ _) rfl (by simp[Value.oneCell']) (by omega) (by unfold maxLen;omega) ?_;intro a3 q3 w3 A3;have H3:=zhd A3;clear A3))
    go_roundg k;case measure=>omega
    case rel=>
     have A3:=H3.out;have e3:(Q (i+1)).length=M1+1:=by rw[HX.l1.1,qab,<-HX.out.2.2.1];rfl
     have e4:(Q (i+1)).map encStr=(Q i).map encStr++[.string z]:=by rw[HX.l1.1,qbt,HX.out.2.2.2];rfl
     refine⟨i+1,a3,q3,by go_num,by omega,by rw[e3],?_,λx hx=>?_,?_⟩
     ·rw[e3,e4];exact A3.own
     ·rcases A3.at_ x hx with h|h
      ·exact HR.o1 x h
      ·have:=HR.l2.size;have:=(Fr.refl [] wr).alloc (.cells #[.string z] 9) |>.size;omega
     ·exact HR.l2.step (((Fr.refl [] wr).alloc _).mono (T:=blk a) (by simp) |>.trans A3.fr) (λy hy=>.inr (HR.o1 y hy))
   | false=>
    rw[if_neg (by simp),qb0]at hst;obtain⟨z,hz⟩:=zex (str ss[i]);rw[<-hz]at hci hx;have HX:=zhd4 hx hst hM1 hz;clear hx hst hM1 hz hb hF1 hC hcs;go_wp2_with (go_at_call 59;refine (HX.o0 _).mono ?_;rintro e w2 ⟨rfl,hw⟩;obtain rfl:=hw.symm);go_roundg k;case measure=>omega
    case rel=>
     refine⟨i+1,a,c,by go_num,by omega,?_,?_,HR.o1,HR.l2⟩
     ·rw[HX.l1.1,<-HX.out.2.2.1]
     ·rw[HX.l1.1,HX.out.2.2.1];exact HR.o0
  ·obtain rfl:i=N:=by omega
   have hle2:=(qfx HR.o0);obtain⟨a2,c2,he2,hle2,hmax2⟩:=hle2;obtain⟨rfl,_,rfl⟩:=Value.slice.inj he2;obtain⟨R,hR⟩:=zex (Q i);rw[<-hR]at hle2 ⊢;obtain⟨M1,hM1⟩:=zex R.length;rw[<-hM1]at hle2 ⊢;have HX:=zhd2 hR hM1;clear hR hM1 he2;go_wp2_with (go_at_call 44;refine (zbq _ M1 _ _ hle2 hmax2).mono ?_;rintro e w4 ⟨rfl,hw⟩;obtain rfl:=hw.symm);go_ret;have ho:=HR.o0;rw[<-HX.o0]at ho;have f:=H1.l2.trans HR.l2;refine⟨_,ss,rfl,H1.o0,by rw[<-HN.out];exact hn,⟨a,by rw[<-HQ.o0,<-HX.o0,HX.l1];rfl,?_,λx hx=>⟨?_,qd3 ho (qdv hx)⟩⟩,f⟩
   ·rw[<-HQ.o0,<-HX.o0];exact qcm ho
   ·have:=HR.o1 x hx;have:=H1.l2.size;omega
set_option maxRecDepth 100000
theorem Stp.refl (w:World) (lab:Nat→Option Lb) {w':World} (f:Fr [] w w'):Stp w lab w' lab:=⟨⟨[],f,by simp⟩,λ_ h=>.inl h⟩
theorem Stp.trans {a b c:World} {la lb lc:Nat→Option Lb} (h:Stp a la b lb) (k:Stp b lb c lc):Stp a la c lc:=by
 obtain⟨⟨T,f,hT⟩,hl⟩:=h;obtain⟨⟨U,g,hU⟩,kl⟩:=k;refine⟨⟨T++U.filter λx=>(la x).isSome,(f.mono (T:=T++U.filter λx=>(la x).isSome) (λx hx=>.inl (List.mem_append_left _ hx))).step g (λx hx=>?_),λx hx=>?_⟩,λx hx=>?_⟩
 ·rcases hl x (hU x hx) with h|h
  ·exact .inl (List.mem_append_right _ (quv.2 ⟨hx,Option.isSome_iff_ne_none.2 h⟩))
  ·exact .inr h
 ·rcases qbd.1 hx with h|h
  ·exact hT x h
  ·exact Option.isSome_iff_ne_none.1 (quv.1 h).2
 ·rcases kl x hx with h|h
  ·exact hl x h
  ·exact .inr (qan f.size h)
theorem Stp.size {a b:World} {la lb:Nat→Option Lb} (h:Stp a la b lb):a.heap.size≤b.heap.size:=by obtain⟨⟨T,f,_⟩,_⟩:=h;exact f.size
theorem Stp.rd {a b:World} {la lb:Nat→Option Lb} (h:Stp a la b lb) {ba:Option Addr} {bc:Nat} {nb:List UInt8} (hb:lib.Rd a ba bc nb) (hn:nb≠[]→∀x∈blk ba,la x=none):lib.Rd b ba bc nb∧(nb≠[]→∀x∈blk ba,lb x=none):=by
 obtain⟨⟨T,f,hT⟩,hl⟩:=h;refine⟨qji hb f (λhne x hx hm=>hT x hm (hn hne x hx)),λhne x hx=>?_⟩;cases hlx:lb x with
 | none=>rfl
 | some l=>
  rcases hl x (by rw[hlx];exact qbv _) with h|h
  ·exact absurd (hn hne x hx) h
  ·have hlt:=hb.cs.lt (by simpa using hne);cases ba with
   | none=>simp[blk]at hx
   | some ad=>have h1:=hlt ad rfl;simp only[blk,qaz]at hx;omega
theorem qzb (F n M M':Nat) (t:Nm→Option (List UInt8)) (lab:Nat→Option Lb) (k1 k2:Nm) (ba:Option Addr) (bc:Nat) (nb:List UInt8) (w:World) (h:Fs w F n M t lab) (hk1:NOk k1) (hk2:NOk k2) (hne:k1≠k2) (ht:t k1=none) (hb:lib.Rd w ba bc nb) (hbl:nb≠[]→∀x∈blk ba,lab x=none)
  (hM':M≤M') (hM2:nb.length≤M') (hM3:M'≤100000) (hroom:nb.length+(n+1)*M≤1048576) (hn:n<7) :
  Calls Tryz.prog 38 #[.pointer (some ⟨F,0,none⟩),.string (str k1),.string (str k2),.slice ba nb.length bc] w λe w'=>e = .returned (.int .i64 0)∧∃lab',Fs w' F (n+2) M' (upd t k2 (some nb)) lab'∧Stp w lab w' lab':=by
 obtain⟨z1,hz1⟩:=zex (str k1);obtain⟨z2,hz2⟩:=zex (str k2);obtain⟨L,hL⟩:=zex nb.length;have H:=zhd6 h hb hbl hz1 hz2 hL;rw[<-hz1,<-hz2,<-hL];clear h hb hbl hz1 hz2 hL;go_enter Tryz.func38,Tryz.ntmps38;have c0:=qqg F n M t lab k1 w H.o0 hk1 ht;rw[<-H.o3]at c0;have H0:=zhd c0;clear c0;go_upto_region 4 with (go_at_call 65;refine H0.out.mono ?_;rintro e w1 ⟨rfl,f1⟩;have H1:=zhd f1;clear f1);have c1:=quj F n M t lab k1 w1 (H.o0.fr H1.out (by simp)) hk1 ht (by omega);rw[<-H.o3]at c1;have H2:=zhd c1;clear c1;go_upto_region 6 with (go_at_call 9;refine H2.out.mono ?_;rintro e w2 ⟨rfl,lab2,h2,s2⟩;have H3:=zhd2 h2 s2;clear h2 s2);have s02:=(Stp.refl w lab H1.out).trans H3.l1;have rd2:=s02.rd H.o1 H.o2;have c2:=quq F (n+1) M M' (upd t k1 (some [])) lab2 k1 [] ba bc nb w2 H3.o0 hk1 (by unfold upd;rw[if_pos rfl]) rd2.1 rd2.2 hM' (by simpa using hM2) hM3 hroom;rw[<-H.o3,<-H.l5]at c2;have H4:=zhd2 c2 s02;clear c2 s02 rd2;go_upto_region 8 with (go_at_call 11;refine H4.o0.mono ?_;rintro e w3 ⟨rfl,lab3,h3,s3⟩;have H5:=zhd2 h3 s3;clear h3 s3);have c3:=qy1 F (n+1) M' _ lab3 k1 ([]++nb) w3 H5.o0 hk1 (by unfold upd;rw[if_pos rfl]);rw[<-H.o3]at c3;have H6:=zhd c3;clear c3;go_upto_region 10 with (go_at_call 66;refine H6.out.mono ?_;rintro e w4 ⟨rfl,h4,s4⟩;have H7:=zhd2 h4 s4;clear h4 s4);have c4:=qtr F (n+1) M' _ lab3 k1 k2 ([]++nb) w4 H7.o0 hk1 hk2 hne (by unfold upd;rw[if_pos rfl]) (by omega);rw[<-H.o3,<-H.o4]at c4;have H8:=zhd c4;clear c4;go_wp2_with (go_at_call 67;refine H8.out.mono ?_;rintro e w5 ⟨rfl,lab5,h5,s5⟩;have H9:=zhd2 h5 s5;clear h5 s5);go_ret;have e5:upd (upd (upd (upd t k1 (some [])) k1 (some ([]++nb))) k2 (some ([]++nb))) k1 none=upd t k2 (some nb):=by
  funext x;unfold upd;by_cases e1:x=k1
  ·rw[if_pos e1,if_neg (by rw[e1];exact hne),e1,ht]
  ·rw[if_neg e1];by_cases e2:x=k2
   ·rw[if_pos e2,if_pos e2];rfl
   ·rw[if_neg e2,if_neg e1,if_neg e1,if_neg e2]
 refine⟨rfl,lab5,?_,((H4.l1.trans H5.l1).trans H7.l1).trans H9.l1⟩;rw[<-e5];exact H9.o0
end Go.Proofs.YtbabjlohkniciaaGreatDoor.fs
namespace Go.Proofs.YtbabjlohkniciaaGreatDoor.lo
open Go Go.RowKit lib bm crc pk
theorem qog:∀{s r:List UInt8},unhexL s=some r→∀c∈s,c≠0
 | [],r,h=>by simp
 | [_],r,h=>by cases h
 | a::b::t,r,h=>by
  rw[unhexL]at h;split at h
  ·rename_i x y q hx hy hq;have ih:=qog hq;intro c hc e;simp only[qaw]at hc;rcases hc with rfl|rfl|hc
   ·subst e;cases hx
   ·subst e;cases hy
   ·exact ih c hc e
  ·cases h
theorem qxc {s:List UInt8} (h:hashB s=true):∀c∈s,c≠0:=by
 unfold hashB at h;split at h
 ·exact qog (by assumption)
 ·cases h
theorem qql {id:List UInt8} (h:hashB id=true):fs.NOk (pathL id):=by
 have hl:=qf1 h;have hz:=qxc h;unfold pathL;rw[if_pos h];refine⟨by simp[objs],by simp[objs];omega,λc hc=>?_⟩;simp only[qbd]at hc;rcases hc with ((hc|hc)|hc)|hc
 ·revert c;decide
 ·exact hz c (qbu hc)
 ·simp only[qaz]at hc;rw[hc];decide
 ·exact hz c (List.mem_of_mem_drop hc)
def tmps:List UInt8:=[116,109,112,47]
theorem zc5 {id:List UInt8} (h:hashB id=true):fs.NOk (tmps++id):=by
 have hl:=qf1 h;have hz:=qxc h;refine⟨by simp[tmps],by simp[tmps];omega,λc hc=>?_⟩;simp only[qbd]at hc;rcases hc with hc|hc
 ·revert c;decide
 ·exact hz c hc
theorem qyz (x:List UInt8) {y:List UInt8} (hy:hashB y=true):tmps++x≠pathL y:=by unfold pathL;rw[if_pos hy];intro h;have:=congrArg List.head? h;simp[tmps,objs]at this
theorem qt4 (bs:List UInt8):(lparse bs).2.1.length≤65568:=by
 unfold lparse;split
 ·exact qba _
 ·rename_i out used hz;have h1:=qq2 hz;split
  ·split
   ·exact qba _
   ·split
    ·exact qba _
    ·show (out.drop _).length≤_;rw[qau];omega
  ·exact qba _
theorem qmf {k:Nat} (hk:1≤k∧k≤4) {body:List UInt8} (hl:body.length≤60000) {r:List UInt8} (hr:trip.RQ (obj.header k body.length++body) r) :
  lparse (defl.zlibOf 2 r (obj.header k body.length++body))=(k,body,0):=by
 have hh:=obj.qe5 (k:Nat) body.length (by omega);have hz:=trip.qu0 (level:=2) hr [] 65568 (by rw[qab];omega);rw[qb0]at hz;unfold lparse;rw[hz];simp only;rw[if_pos trivial,qt5 hk];simp only;rw[qab,if_neg (by omega),List.drop_left' rfl]
theorem qsx {k:Nat} {body:List UInt8} (hl:body.length≤60000) {r:List UInt8} (hr:trip.RQ (obj.header k body.length++body) r) :
  (defl.zlibOf 2 r (obj.header k body.length++body)).length≤6*body.length+250∧0<(defl.zlibOf 2 r (obj.header k body.length++body)).length:=by
 have hh:=obj.qe5 (k:Nat) body.length (by omega);have h1:=hr.1;rw[qab]at h1;unfold defl.zlibOf;simp only[qab,qam,qbb,sums.qdg];omega
set_option maxRecDepth 100000
def lread (t:fs.Nm→Option (List UInt8)) (id:List UInt8):Nat×List UInt8×Nat:=
 if hashB id=true then
  match t (pathL id) with
  | none=>(0,[],61)
  | some bs=>if (lparse bs).2.2=0 then if oid ((lparse bs).1:Nat) (lparse bs).2.1=id then lparse bs else (0,[],6) else (0,[],(lparse bs).2.2)
 else (0,[],1)
theorem qf8 (F n M:Nat) (t:fs.Nm→Option (List UInt8)) (lab:Nat→Option fs.Lb) (id:List UInt8) (w:World) (h:fs.Fs w F n M t lab) (hlen:id.length≤140737488355328) (hpw:obj.Pw w) :
  Calls Tryz.prog 12 #[.pointer (some ⟨F,0,none⟩),.string (str id)] w (ParseP w (lread t id)):=by
 obtain⟨P,hP⟩:=zex (lread t id);rw[<-hP];have hh:=qss id w hlen;by_cases hb:hashB id=true
 ·rw[hb]at hh;have hfr:∀w',Fr [] w w'→Calls Tryz.prog 29 #[.pointer (some ⟨F,0,none⟩),.string (str (pathL id))] w' (fs.ReadP w' (t (pathL id))):=λw' f=>fs.qf8 F n M t lab (pathL id) w' (h.fr f (by simp)) (qql hb)
  have hpp:=λw'=>qh5 id w' hlen
  unfold lread at hP;rw[if_pos hb]at hP;cases ht:t (pathL id) with
  | none=>
   rw[ht]at hP hfr;unfold fs.ReadP at hfr;simp only at hP hfr;obtain⟨z,hz⟩:=zex (str id);obtain⟨y,hy⟩:=zex (str (pathL id));rw[<-hz]at hh hpp ⊢;rw[<-hy]at hpp hfr;have H:=zhd4 hh hpp hfr hP;clear hh hpp hfr hP ht hb hz hy h hpw;go_enter Tryz.func12,Tryz.ntmps12;go_wp2_with (first
    | (go_at_call 25;refine H.o0.mono ?_;rintro e w1 ⟨rfl,f1⟩;have H1:=zhd f1;clear f1)
    | (go_at_call 10;refine (H.l1.1 _).mono ?_;rintro e w2 ⟨rfl,f2⟩;have H2:=zhd (H1.out.trans f2);clear f2)
    | (go_at_call 29;refine (H.out.2.2.1 _ H2.out).mono ?_;rintro e w3 ⟨rfl,f3⟩;have H3:=zhd (H2.out.trans f3);clear f3))
   go_ret3;exact ParseP.bad H.out.2.2.2 H3.out rfl
  | some bs=>
   rw[ht]at hP hfr;unfold fs.ReadP at hfr;simp only at hP hfr;have hbs:bs.length≤100000000:=by obtain⟨⟨B,las,chg,m,vs,g,h1,h2,h3,h4,h5,h6,h7,h8,h9,h10⟩,hn8,hM,hlow⟩:=h;have:=(h9 _ bs ht).1;omega
   obtain⟨⟨k,body,c⟩,hQ⟩:∃Q,Q=lparse bs:=⟨_,rfl⟩;rw[<-hQ]at hP;simp only at hP;have hpr:∀w' a,Fr [] w w'→lib.Rd w' a bs.length bs→Calls Tryz.prog 13 #[.slice a bs.length bs.length] w' (ParseP w' (k,body,c)):=λw' a f hr=>by rw[hQ];exact qky a bs.length bs w' hr hbs (hpw.fr f)
   have hid:∀w' a,Fr [] w w'→lib.Rd w' a body.length body→Calls Tryz.prog 30 #[.int .i64 k,.slice a body.length body.length] w' λe w''=>e = .returned (.string (str (oid (k:Nat) body)))∧Fr [] w' w'':=λw' a f hr=>obj.zbi (k:Nat) a body.length body w' hr (by have:=qt4 bs;rw[<-hQ]at this;simp only at this;omega) (hpw.fr f)
   obtain⟨z,hz⟩:=zex (str id);obtain⟨y,hy⟩:=zex (str (pathL id));obtain⟨x,hx⟩:∃x,x=str (oid (k:Nat) body):=⟨_,rfl⟩;have hxz:(x.toList==z.toList)=(oid (k:Nat) body==id):=by rw[hx,hz,str_toList,str_toList]
   rw[<-hz]at hh hpp ⊢;rw[<-hy]at hpp hfr;rw[<-hx]at hid;obtain⟨L,hL⟩:=zex bs.length;rw[<-hL]at hfr hpr;unfold ParseP at hpr;simp only at hpr;obtain⟨N,hN⟩:=zex body.length;rw[<-hN]at hpr hid;have H:=zhd6 hh hpp hfr hpr hid hP;have HN:=zhd hN;clear hh hpp hfr hP ht hb hz hy h hpw hpr hid hQ hbs hL hN;by_cases hc:c=0
   ·subst hc;by_cases ho:oid (k:Nat) body=id
    ·rw[ho,beq_self_eq_true]at hxz;have HO:=zhd ho;clear ho hx;go_enter Tryz.func12,Tryz.ntmps12;go_wp2_with (first
      | (go_at_call 25;refine H.o0.mono ?_;rintro e w1 ⟨rfl,f1⟩;have H1:=zhd f1;clear f1)
      | (go_at_call 10;refine (H.l1.1 _).mono ?_;rintro e w2 ⟨rfl,f2⟩;have H2:=zhd (H1.out.trans f2);clear f2)
      | (go_at_call 29;refine (H.out.2.2.1 _ H2.out).mono ?_;rintro e w3 ⟨⟨a3,rfl,r3,n3⟩,f3⟩;have H3:=zhd2 (H2.out.trans f3) r3;clear f3 r3 n3)
      | (go_at_call 13;refine (H.out.2.2.2.1 _ _ H3.out.1 H3.out.2).mono ?_;rintro e w4 ⟨a4,rfl,r4,n4,f4⟩;have H4:=zhd3 (H3.out.1.trans f4) r4 (λx hx=>⟨qan H3.out.1.size (n4 x hx).1,(n4 x hx).2⟩:∀x∈blk a4,w.heap.size≤x∧x<w4.heap.size);clear f4 r4 n4)
      | (go_at_call 30;refine (H.out.2.2.2.2.1 _ _ H4.o0 H4.o1).mono ?_;rintro e w5 ⟨rfl,f5⟩;have H5:=zhd f5;clear f5))
     go_ret3;have f5:=H4.o0.trans H5.out;have hP:=H.out.2.2.2.2.2;rw[if_pos trivial,if_pos HO.out]at hP;rw[hP];exact⟨a4,by rw[<-HN.out];rfl,by rw[<-HN.out];exact H4.o1.fr H5.out,λx hx=>⟨(H4.l2 x hx).1,qal (H4.l2 x hx).2 H5.out.size⟩,f5⟩
    ·rw[beq_eq_false_iff_ne.2 ho]at hxz;have HO:=zhd ho;clear ho hx;go_enter Tryz.func12,Tryz.ntmps12;go_wp2_with (first
      | (go_at_call 25;refine H.o0.mono ?_;rintro e w1 ⟨rfl,f1⟩;have H1:=zhd f1;clear f1)
      | (go_at_call 10;refine (H.l1.1 _).mono ?_;rintro e w2 ⟨rfl,f2⟩;have H2:=zhd (H1.out.trans f2);clear f2)
      | (go_at_call 29;refine (H.out.2.2.1 _ H2.out).mono ?_;rintro e w3 ⟨⟨a3,rfl,r3,n3⟩,f3⟩;have H3:=zhd2 (H2.out.trans f3) r3;clear f3 r3 n3)
      | (go_at_call 13;refine (H.out.2.2.2.1 _ _ H3.out.1 H3.out.2).mono ?_;rintro e w4 ⟨a4,rfl,r4,n4,f4⟩;have H4:=zhd3 (H3.out.1.trans f4) r4 (λx hx=>⟨qan H3.out.1.size (n4 x hx).1,(n4 x hx).2⟩:∀x∈blk a4,w.heap.size≤x∧x<w4.heap.size);clear f4 r4 n4)
      | (go_at_call 30;refine (H.out.2.2.2.2.1 _ _ H4.o0 H4.o1).mono ?_;rintro e w5 ⟨rfl,f5⟩;have H5:=zhd f5;clear f5))
     go_ret3;have hP:=H.out.2.2.2.2.2;rw[if_pos trivial,if_neg HO.out]at hP;exact ParseP.bad hP (H4.o0.trans H5.out) rfl
   ·have HC:=zhd hc;have d0:((c:Int)!=0)=true:=by simp;omega
    clear hc hxz hx;go_enter Tryz.func12,Tryz.ntmps12;go_wp2_with (first
     | (go_at_call 25;refine H.o0.mono ?_;rintro e w1 ⟨rfl,f1⟩;have H1:=zhd f1;clear f1)
     | (go_at_call 10;refine (H.l1.1 _).mono ?_;rintro e w2 ⟨rfl,f2⟩;have H2:=zhd (H1.out.trans f2);clear f2)
     | (go_at_call 29;refine (H.out.2.2.1 _ H2.out).mono ?_;rintro e w3 ⟨⟨a3,rfl,r3,n3⟩,f3⟩;have H3:=zhd2 (H2.out.trans f3) r3;clear f3 r3 n3)
     | (go_at_call 13;refine (H.out.2.2.2.1 _ _ H3.out.1 H3.out.2).mono ?_;rintro e w4 ⟨a4,rfl,r4,n4,f4⟩;have H4:=zhd3 (H3.out.1.trans f4) r4 (λx hx=>⟨qan H3.out.1.size (n4 x hx).1,(n4 x hx).2⟩:∀x∈blk a4,w.heap.size≤x∧x<w4.heap.size);clear f4 r4 n4))
    go_ret3;have hP:=H.out.2.2.2.2.2;rw[if_neg HC.out]at hP;exact ParseP.bad hP H4.o0 rfl
 ·have hb:=Bool.eq_false_iff.2 hb;rw[hb]at hh;unfold lread at hP;rw[hb,if_neg (by decide)]at hP;obtain⟨z,hz⟩:=zex (str id);rw[<-hz]at hh ⊢;have H:=zhd2 hh hP;clear hh hP hb hz h hpw;go_enter Tryz.func12,Tryz.ntmps12;go_wp2_with (go_at_call 25;refine H.o0.mono ?_;rintro e w1 ⟨rfl,f1⟩;have H1:=zhd f1;clear f1);go_ret3;exact ParseP.bad H.l1 H1.out rfl
theorem qs1:∀n:_root_.Fin 16,dgv (hexd n.1)=some n.1:=by decide
theorem qlx:∀bs:List UInt8,unhexL (hexb bs)=some bs
 | []=>rfl
 | b::t=>by have hb:=b.toNat_lt;have h1:=qs1 ⟨b.toNat/16,by omega⟩;have h2:=qs1 ⟨b.toNat%16,by omega⟩;have e:hexb (b::t)=hexd (b.toNat/16)::hexd (b.toNat%16)::hexb t:=rfl;rw[e,unhexL,h1,h2,qlx t];simp only[qas,qux,and_true];rw[show 16*(b.toNat/16)+b.toNat%16=b.toNat by omega,UInt8.ofNat_toNat]
theorem qsr (k:Int) (body:List UInt8):hashB (oid k body)=true:=by unfold hashB oid;rw[qlx];simp only;rw[sha.qko];rfl
theorem zb0 (s:List UInt8):((⟨#[116,109,112,47]⟩:ByteArray)++str s)=str (tmps++s):=by rw[<-qcz];rfl
set_option maxRecDepth 100000
theorem qu3 (F n M M':Nat) (t:fs.Nm→Option (List UInt8)) (lab:Nat→Option fs.Lb) (k:Nat) (a:Option Addr) (cap:Nat) (body:List UInt8) (w:World) (h:fs.Fs w F n M t lab) (hk:1≤k∧k≤4) (hb:lib.Rd w a cap body) (hl:body.length≤16000) (hpw:obj.Pw w)
  (ht:t (pathL (oid k body))=none) (ht2:t (tmps++oid k body)=none) (hM':M≤M') (hM2:6*body.length+250≤M') (hM3:M'≤100000) (hn:n<7) :
  Calls Tryz.prog 16 #[.pointer (some ⟨F,0,none⟩),.int .i64 (k:Nat),.slice a body.length cap] w λe w'=>e = .returned (.tuple #[.string (str (oid k body)),.int .i64 0])∧∃lab' r,trip.RQ (obj.header k body.length++body) r∧fs.Fs w' F (n+2) M' (fs.upd t (pathL (oid k body)) (some (defl.zlibOf 2 r (obj.header k body.length++body)))) lab'∧fs.Stp w lab w' lab':=by
 have hho:=qsr k body;have hnm:=obj.qnq (k:Nat);have hid:∀w',Fr [] w w'→Calls Tryz.prog 30 #[.int .i64 k,.slice a body.length cap] w' λe w''=>e = .returned (.string (str (oid (k:Nat) body)))∧Fr [] w' w'':=λw' f=>obj.zbi (k:Nat) a cap body w' (hb.fr f) (by omega) (hpw.fr f)
 have hpp:=λw'=>qh5 (oid k body) w' (by rw[qf1 hho];decide)
 have hfr:∀w',Fr [] w w'→Calls Tryz.prog 29 #[.pointer (some ⟨F,0,none⟩),.string (str (pathL (oid k body)))] w' λe w''=>e = .returned (.tuple #[.slice none 0 0,.int .i64 61])∧Fr [] w' w'':=λw' f=>by have:=fs.qf8 F n M t lab (pathL (oid k body)) w' (h.fr f (by simp)) (qql hho);rw[ht]at this;exact this
 have hfi:=λw' (f:Fr [] w w')=>qsy (k:Nat) a cap body w' (hb.fr f) (by omega) (hpw.fr f)
 have hsv:∀w' r a' , Fr [] w w'→trip.RQ (obj.header k body.length++body) r→lib.Rd w' a' (defl.zlibOf 2 r (obj.header k body.length++body)).length (defl.zlibOf 2 r (obj.header k body.length++body))→(∀x∈blk a',w.heap.size≤x)→Calls Tryz.prog 38 #[.pointer (some ⟨F,0,none⟩),.string (str (tmps++oid k body)),.string (str (pathL (oid k body))),.slice a' (defl.zlibOf 2 r (obj.header k body.length++body)).length (defl.zlibOf 2 r (obj.header k body.length++body)).length] w' λe w''=>e = .returned (.int .i64 0)∧∃lab',fs.Fs w'' F (n+2) M' (fs.upd t (pathL (oid k body)) (some (defl.zlibOf 2 r (obj.header k body.length++body)))) lab'∧fs.Stp w lab w'' lab':=λw' r a' f hr hrd hx=>by
  have hlen:=(qsx (k:=k) (body:=body) (by omega) hr).1;refine (fs.qzb F n M M' t lab (tmps++oid k body) (pathL (oid k body)) a' _ _ w' (h.fr f (by simp)) (zc5 hho) (qql hho) (qyz _ hho) ht2 hrd (λ_ x hm=>?_) hM' (by omega) hM3 ?_ hn).mono λe w'' ⟨he,lab',h1,h2⟩=>⟨he,lab',h1,(fs.Stp.refl w lab f).trans h2⟩
  ·cases hlx:lab x with
   | none=>rfl
   | some l=>have:=h.low x (by rw[hlx];exact qbv _);have:=hx x hm;omega
  ·have h1:(n+1)*M≤8*100000:=qm3 (by omega) h.most;omega
 have htm:=zb0 (oid k body);obtain⟨I,hI⟩:∃I,I=oid (k:Nat) body:=⟨_,rfl⟩;rw[<-hI]at hid hpp hfr hsv htm ⊢;obtain⟨z,hz⟩:=zex (str I);obtain⟨y,hy⟩:=zex (str (pathL I));obtain⟨x,hx⟩:=zex (str (tmps++I));obtain⟨v,hv⟩:∃v,v=str (obj.kname (k:Nat)):=⟨_,rfl⟩;have hve:v.toList.isEmpty=false:=by rw[hv,str_toList];rcases (show k=1∨k=2∨k=3∨k=4 by omega) with rfl|rfl|rfl|rfl<;>rfl
 rw[<-hz]at hid hpp htm ⊢;rw[<-hy]at hpp hfr hsv;rw[<-hx]at htm hsv;rw[<-hv]at hnm;obtain⟨L,hL⟩:=zex body.length;rw[<-hL]at hl hid hfi ⊢;have hzs:z.size=40:=by rw[hz,str_size,hI];exact qf1 hho
 have d0:decide ((65536:Int)<(L:Int))=false:=by simp;omega
 have H:=zhd7 hnm hid hpp hfr hfi hsv htm;have HL:=zhd hL;clear hnm hid hpp hfr hfi hsv htm hI hz hy hx hv hL h hb hpw ht ht2 hho;go_enter Tryz.func16,Tryz.ntmps16;go_wp2_with (first
  | (go_at_call 37;refine (H.o0 _).mono ?_;rintro e w1 ⟨rfl,f1⟩;have H1:=zhd f1;clear f1)
  | (go_at_call 30;refine (H.o1 _ H1.out).mono ?_;rintro e w2 ⟨rfl,f2⟩;have H2:=zhd (H1.out.trans f2);clear f2)
  | (guard_hyp H2;guard_hyp H4;go_at_call 10;refine (H.o2 _).mono ?_;rintro e w5 ⟨rfl,f5⟩;have H5:=zhd (H4.out.trans f5);clear f5)
  | (go_at_call 10;refine (H.o2 _).mono ?_;rintro e w3 ⟨rfl,f3⟩;have H3:=zhd (H2.out.trans f3);clear f3)
  | (go_at_call 29;refine (H.o3 _ H3.out).mono ?_;rintro e w4 ⟨rfl,f4⟩;have H4:=zhd (H3.out.trans f4);clear f4)
  | (go_at_call 8;refine (H.o4 _ H5.out).mono ?_;rintro e w6 ⟨r,hr,a6,rfl,o6,n6,f6⟩;have H6:=zhd3 hr (H5.out.trans f6) (H.o5 _ r a6 (H5.out.trans f6) hr o6.rd (λx hx=>qan H5.out.size (n6 x hx).1));clear hr o6 n6 f6)
  | (rw[H.l6];go_at_call 38;refine H6.l2.mono ?_;rintro e w7 ⟨rfl,lab7,h7,s7⟩;have H7:=zhd3 h7 s7 (fs.qtc F _ _ _ _ w7 h7);clear h7 s7)
  | (go_at_call 39;refine H7.l2.mono ?_;rintro e w8 ⟨rfl,h8,s8⟩;have H8:=zhd2 h8 s8;clear h8 s8))
 go_ret2;rw[HL.out];exact⟨rfl,lab7,r,H6.o0,H8.o0,H7.o1.trans H8.l1⟩
set_option maxRecDepth 100000
def cand (s:List UInt8):List UInt8:=Lib.replace (Lib.trimPrefix s objs) [47] [] 1
def idOf (s:List UInt8):List (List UInt8):=if pathL (cand s)=s then [cand s] else []
theorem qy8 (v:Value) (L:Nat) (l:List (List UInt8)) (w:World) (h:w.ownsRow 0 9 1 v L (l.map encStr)) (hL:l.length=L) (hl:L≤1000000) :
  Calls Tryz.prog 43 #[v] w λe w'=>e = .returned (.tuple #[])∧w'.ownsRow 0 9 1 v L ((l.mergeSort λx y=>decide (x≤y)).map encStr)∧Fr v.ownBlock.toList w w':=by
 rcases h.2 with⟨rfl,hz⟩|⟨g,cap,cur,rfl,hbase,hb,h1,h2,h3,h4⟩
 ·have h0:l=[]:=qbs (by omega);subst h0;refine (Any.slices_Sort_string_none Tryz.lays190 none 0 w).mono λe w' ⟨he,hw⟩=>⟨he,?_,by rw[hw];exact Fr.refl _ _⟩
  rw[hw];simpa using h
 ·rw[qdi]at h4;rw[<-hL]at h1 h4 ⊢;refine (Tryz.slices_Sort_string g 0 cap l w (holds_of_block hb h4) (lt_of_block hb) (by omega)).mono λe w' ⟨he,n,os,hw⟩=>⟨he,?_,?_⟩
  ·rw[hw];exact ownsRow_sorted (by simp) hbase hb h1 h2 h3
  ·rw[hw];exact (Fr.refl _ w).grown (grownBy_sorted _) (λk hk=>.inl (by simpa[Value.ownBlock] using hk.symm))
theorem qxg {α β:Type} (q:α→List β) (l:List α) (i:Nat) (hi:i<l.length):(l.take (i+1)).flatMap q=(l.take i).flatMap q++q l[i]:=by rw[qbc hi,qik];simp
theorem qj1 {α β:Type} (q:α→List β) (h:∀x,(q x).length≤1):∀l:List α,(l.flatMap q).length≤l.length
 | []=>qag _
 | x::t=>by have:=h x;have:=qj1 q h t;rw[qca,qab,qam];omega
theorem zcu (s:List UInt8):(idOf s).length≤1:=by unfold idOf;split<;>simp
theorem qvv (old:List UInt8):∀(k:Nat) (s:List UInt8),(Lib.replaceK old [] k s).length≤s.length
 | 0,s=>qag _
 | k+1,s=>by
  have:=qvv old k (s.drop ((Lib.index s old).toNat+old.length));rw[qau]at this;unfold Lib.replaceK;split
  ·exact qag _
  ·rw[qab,qab,qar,qbb];omega
theorem zc3 (s:List UInt8):(cand s).length≤s.length:=by
 have h1:(Lib.trimPrefix s objs).length≤s.length:=by
  unfold Lib.trimPrefix;split
  ·rw[qau];omega
  ·exact qag _
 unfold cand Lib.replace;split
 ·exact h1
 ·exact qan (qvv _ _ _) h1
theorem zcs (F n M:Nat) (t:fs.Nm→Option (List UInt8)) (lab:Nat→Option fs.Lb) (m:Int) (w:World) (h:fs.Fs w F n M t lab) (hnm:∀x,t x≠none→x.length≤200) (hm:w.cell? ⟨0,0,none⟩=some (.int .i64 m)) :
  Calls Tryz.prog 17 #[.pointer (some ⟨F,0,none⟩)] w λe w'=>∃v ss,e = .returned v∧fs.Lst t ss∧fs.StrsP w w' v (((ss.filter λs=>Lib.hasPrefix s objs).flatMap idOf).mergeSort λx y=>decide (x≤y))∧Fr [] w w':=by
 have hls:=fs.qz0 F n M t lab objs w h;have hn8:=h.few;have H:=zhd3 hls hnm hm;clear hls hnm hm h;go_enter Tryz.func17,Tryz.ntmps17;go_upto_block 0 with (go_at_call 40;refine H.o0.mono ?_;rintro e w1 ⟨v,ss,rfl,hl,hn,⟨a0,rfl,hcs,hfresh⟩,f1⟩;have H1:=zhd4 hl hcs hfresh f1;clear hl hcs hfresh f1);obtain⟨ls,hls⟩:=zex (ss.filter λs=>Lib.hasPrefix s objs);have hlen:ls.length≤ss.length:=by rw[hls];exact qc7 _ _
 have hmem:∀x∈ls,x.length≤200:=λx hx=>by rw[hls]at hx;exact H.o1 x ((H1.o0.2.2 x).1 (quv.1 hx).1)
 have hcs:=H1.o1;rw[<-hls]at hcs ⊢;obtain⟨N,hN⟩:=zex ls.length;rw[<-hN]at hlen ⊢;have HN:=zhd4 hN hmem hcs hls;clear hN hmem hcs hls;obtain⟨Q,hQ⟩:∃Q:Nat→List (List UInt8),Q=λi=>(ls.take i).flatMap idOf:=⟨_,rfl⟩
 have hQ0:Q 0=[]:=by rw[hQ];simp
 have hQN:Q N=ls.flatMap idOf:=by rw[hQ,HN.o0];simp
 have hQs:∀i (hi:i<ls.length),Q (i+1)=Q i++idOf ls[i]:=λi hi=>by rw[hQ];exact qxg _ ls i hi
 have hQl:∀i,(Q i).length≤i:=λi=>by rw[hQ];exact qan (qj1 _ zcu _) (List.length_take_le _ _)
 have HQ:=zhd3 hQN hQs hQ0;have HQl:=zhd hQl;clear hQ hQN hQs hQl;go_wp2;go_loopg [3,10] N (λk s3 s10 wr=>∃(i:Nat) (a:Option Addr) (c:Nat),s10 = .int .i64 (i:Nat)∧i+k=N∧s3 = .slice a (Q i).length c∧wr.ownsRow 0 9 1 s3 (Q i).length ((Q i).map encStr)∧(∀x∈blk a,w1.heap.size≤x)∧Fr [] w1 wr);case atStart=>
  refine⟨0,none,0,rfl,by omega,?_,?_,by simp[blk],Fr.refl _ _⟩
  ·rw[hQ0];rfl
  ·rw[hQ0];exact qch _ _ _ _
 case round=>
  obtain⟨i,a,c,rfl,hik,rfl,ho,hbk,f⟩:=hrel;have HR:=zhd3 ho hbk f;clear ho hbk f hQ0;by_cases hi:i<N
  ·obtain⟨k,rfl⟩:∃k,gk=k+1:=⟨gk-1,by omega⟩;have hil:i<ls.length:=by rw[<-HN.o0];exact hi
   have hst:=HQ.o1 i hil;have hli:=HQl.out i;have hcs:=HN.o2.belowAll (qgd HR.l2);rcases hcs with hcs|⟨g0,o0,hg0,hcs⟩
   ·have:=congrArg List.length hcs;rw[qa8,qbb]at this;omega
   subst hg0;have hci:=hcs i (encStr ls[i]) (by rw[qbx,qaf hil];rfl);rw[fs.qvd]at hci;have hsl:=HN.o1 ls[i] (qb7 hil);have hx1:=λw'=>Tryz.strings_TrimPrefix (str ls[i]) (str objs) w'
   have hx2:∀w',w'.cell? ⟨0,0,none⟩=some (.int .i64 m)→Calls Tryz.prog 41 #[.string (str (Lib.trimPrefix ls[i] objs)),.string ⟨#[47]⟩,.string ⟨#[]⟩,.int .i64 1] w' λe w''=>e = .returned (.string (str (cand ls[i])))∧Below w'.heap.size w' w'':=λw' hmw=>by
    have htl:(Lib.trimPrefix ls[i] objs).length≤200:=by
     unfold Lib.trimPrefix;split
     ·rw[qau];omega
     ·exact hsl
    exact Tryz.strings_Replace (str (Lib.trimPrefix ls[i] objs)) ⟨#[47]⟩ ⟨#[]⟩ 1 m w' (by rw[str_size];omega) hmw (by decide) (by rw[str_size];show _+_*0≤_;omega)
   have hx3:=λw'=>qh5 (cand ls[i]) w' (by have:=zc3 ls[i];omega)
   obtain⟨M1,hM1⟩:=zex ((Q i).length);rw[<-hM1]at hli ⊢;have hmw:wr.cell? ⟨0,0,none⟩=some (.int .i64 m):=(H1.l3.trans HR.l2).cell H.l2 (by simp);by_cases hp:pathL (cand ls[i])=ls[i]
   ·unfold idOf at hst;rw[if_pos hp]at hst;obtain⟨z,hz⟩:=zex (str ls[i]);obtain⟨y,hy⟩:=zex (str (cand ls[i]));obtain⟨x,hx⟩:=zex (str (Lib.trimPrefix ls[i] objs));have hx1:∀w',Calls Tryz.prog 42 #[.string (str ls[i]),.string ⟨#[111,98,106,101,99,116,115,47]⟩] w' λe w''=>e = .returned (.string (str (Lib.trimPrefix ls[i] objs)))∧w''=w':=hx1
    rw[hp]at hx3;rw[<-hz]at hci hx1 hx3;rw[<-hx]at hx1 hx2;rw[<-hy]at hx2 hx3;have HX:=zhd7 hx1 hx2 hx3 hst hM1 hy hmw;have hzz:(z.toList==z.toList)=true:=beq_self_eq_true _;clear hx1 hx2 hx3 hst hM1 hz hy hx hsl hcs hp hmw;go_wp2_with (first
     | (go_at_call 42;refine (HX.o0 _).mono ?_;rintro e w2 ⟨rfl,hw⟩;obtain rfl:=hw.symm)
     | (go_at_call 41;refine (HX.o1 _ HX.out.2.2.2.2.2.2).mono ?_;rintro e w3 ⟨rfl,f3⟩;have H3:=zhd (Fr.of_below f3 []);clear f3)
     | (go_at_call 10;refine (HX.l2.1 _).mono ?_;rintro e w4 ⟨rfl,f4⟩;have H4:=zhd (H3.out.trans f4);clear f4)
     | (at_builtin;refine qa5 fs.qvc rfl _ _ rfl (.slice a M1 c) M1 ((Q i).map encStr) (blk a) rfl (qbp _ _ _) ((by rw[HX.out.2.2.2.2.1];exact qa7 HR.o0 (H4.out.trans ((Fr.refl [] _).alloc _)) (by simp))) (some ⟨w4.heap.size,0,none⟩) 1 1 [.string y] rfl (qag _) (by simp) (qgx w4 _ _ _) rfl (by simp[Value.oneCell']) (by omega) (by unfold maxLen;omega) ?_;intro a3 q3 w5 A3;have H5:=zhd A3;clear A3))
    go_roundg k;case measure=>omega
    case rel=>
     have A3:=H5.out;have e3:(Q (i+1)).length=M1+1:=by rw[HX.out.2.2.2.1,qab,<-HX.out.2.2.2.2.1];rfl
     have e4:(Q (i+1)).map encStr=(Q i).map encStr++[.string y]:=by rw[HX.out.2.2.2.1,qbt,HX.out.2.2.2.2.2.1];rfl
     have fa:=HR.l2.trans (H4.out.trans ((Fr.refl [] w4).alloc (.cells #[.string y] 9)));refine⟨i+1,a3,q3,by go_num,by omega,by rw[e3],?_,λx hx=>?_,?_⟩
     ·rw[e3,e4];exact A3.own
     ·rcases A3.at_ x hx with h|h
      ·exact HR.o1 x h
      ·have:=fa.size;omega
     ·exact fa.step A3.fr (λy hy=>.inr (HR.o1 y hy))
   ·unfold idOf at hst;rw[if_neg hp,qb0]at hst;have hzz:((str (pathL (cand ls[i]))).toList==(str ls[i]).toList)=false:=by rw[str_toList,str_toList];exact beq_eq_false_iff_ne.2 hp
    obtain⟨z,hz⟩:=zex (str ls[i]);obtain⟨y,hy⟩:=zex (str (cand ls[i]));obtain⟨x,hx⟩:=zex (str (Lib.trimPrefix ls[i] objs));obtain⟨v,hv⟩:=zex (str (pathL (cand ls[i])));have hx1:∀w',Calls Tryz.prog 42 #[.string (str ls[i]),.string ⟨#[111,98,106,101,99,116,115,47]⟩] w' λe w''=>e = .returned (.string (str (Lib.trimPrefix ls[i] objs)))∧w''=w':=hx1
    rw[<-hz]at hci hx1 hzz;rw[<-hv]at hx3 hzz;rw[<-hx]at hx1 hx2;rw[<-hy]at hx2 hx3;have HX:=zhd7 hx1 hx2 hx3 hst hM1 hy hmw;clear hx1 hx2 hx3 hst hM1 hz hy hx hv hsl hcs hp hmw;go_wp2_with (first
     | (go_at_call 42;refine (HX.o0 _).mono ?_;rintro e w2 ⟨rfl,hw⟩;obtain rfl:=hw.symm)
     | (go_at_call 41;refine (HX.o1 _ HX.out.2.2.2.2.2.2).mono ?_;rintro e w3 ⟨rfl,f3⟩;have H3:=zhd (Fr.of_below f3 []);clear f3)
     | (go_at_call 10;refine (HX.l2.1 _).mono ?_;rintro e w4 ⟨rfl,f4⟩;have H4:=zhd (H3.out.trans f4);clear f4))
    go_roundg k;case measure=>omega
    case rel=>
     refine⟨i+1,a,c,by go_num,by omega,?_,?_,HR.o1,HR.l2.trans H4.out⟩
     ·rw[HX.out.2.2.2.1,<-HX.out.2.2.2.2.1]
     ·rw[HX.out.2.2.2.1,HX.out.2.2.2.2.1];exact qa7 HR.o0 H4.out (by simp)
  ·obtain rfl:i=N:=by omega
   have hlq:=HQl.out i;have hso:=qy8 _ _ (Q i) wr HR.o0 rfl (by omega);obtain⟨R,hR⟩:=zex (Q i);rw[<-hR]at hso hlq ⊢;obtain⟨M1,hM1⟩:=zex R.length;rw[<-hM1]at hso hlq ⊢;have HX:=zhd3 hR hM1 hso;clear hR hM1 hso;go_wp2_with (first
    | (go_at_call 43;refine HX.l2.mono ?_;rintro e w4 ⟨rfl,o4,f4⟩;obtain⟨a2,c2,he2,hle2,hmax2⟩:=qfx o4;obtain⟨rfl,_,rfl⟩:=Value.slice.inj he2;have H4:=zhd2 o4 f4;clear o4 f4 he2)
    | (go_at_call 44;refine (fs.zbq _ M1 _ _ hle2 hmax2).mono ?_;rintro e w5 ⟨rfl,hw⟩;obtain rfl:=hw.symm))
   go_ret;have f:=H1.l3.trans (HR.l2.step H4.out.2 (λy hy=>.inr (HR.o1 y (by rw[qbp]at hy;exact hy))));refine⟨_,ss,rfl,H1.o0,⟨a,?_,?_,λx hx=>⟨?_,qd3 H4.out.1 (qdv hx)⟩⟩,f⟩
   ·rw[<-HN.l3,<-HQ.o0,<-HX.o0,List.length_mergeSort,<-HX.o1];rfl
   ·rw[<-HN.l3,<-HQ.o0,<-HX.o0];exact qcm H4.out.1
   ·have:=HR.o1 x hx;have:=H1.l3.size;omega
set_option maxRecDepth 100000
def id0:List UInt8:=[101,54,57,100,101,50,57,98,98,50,100,49,100,54,52,51,52,98,56,98,50,57,97,101,55,55,53,97,100,56,99,50,101,52,56,99,53,51,57,49]
theorem oid0:oid 3 []=id0:=by decide +kernel
theorem _root_.Go.Proofs.YtbabjlohkniciaaGreatDoor.fs.Stp.fr0 {w0 a b:World} {la lb:Nat→Option fs.Lb} (h:fs.Stp a la b lb) (f:Fr [] w0 a) (hl:∀x,la x≠none→w0.heap.size≤x):Fr [] w0 b∧∀x,lb x≠none→w0.heap.size≤x:=by
 obtain⟨⟨T,g,hT⟩,k⟩:=h;refine⟨f.step g (λx hx=>.inr (hl x (hT x hx))),λx hx=>?_⟩;rcases k x hx with h|h
 ·exact hl x h
 ·exact qan f.size h
theorem zcf {p:List UInt8} {v:List UInt8} {ss:List (List UInt8)} (h:fs.Lst (fs.upd (λ_=>none) p (some v)) ss):ss=[p]:=by
 obtain⟨h1,_,h3⟩:=h;have hp:p∈ss:=(h3 p).2 (by unfold fs.upd;rw[if_pos rfl];simp);have ho:∀x∈ss,x=p:=λx hx=>by
  have:=(h3 x).1 hx;unfold fs.upd at this;split at this
  ·assumption
  ·exact absurd rfl this
 match ss,h1,hp,ho with
 | [],_,hp,_=>cases hp
 | [x],_,_,ho=>rw[ho x (by simp)]
 | x::y::t,h1,_,ho=>have:=ho x (by simp);have:=ho y (by simp);simp_all
theorem ids0:((([pathL id0].filter λs=>Lib.hasPrefix s objs).flatMap idOf).mergeSort λx y=>decide (x≤y)).length=1:=by rw[List.length_mergeSort];decide +kernel
theorem qyj (m:Int) (w:World) (hpw:obj.Pw w) (hm:w.cell? ⟨0,0,none⟩=some (.int .i64 m)):Calls Tryz.prog 6 #[] w λe w'=>e = .returned (.bool true)∧Fr [] w w':=by
 have H:=zhd2 hpw hm;clear hpw hm;go_enter Tryz.func6,Tryz.ntmps6;go_upto_region 2 with (go_at_call 5;refine (fs.qqo w).mono ?_;rintro e w1 ⟨F,lab,rfl,h1,hlab,f1⟩;have H1:=zhd3 h1 hlab f1;clear h1 hlab f1);have c2:=qu3 F 0 0 300 (λ_=>none) lab 3 none 0 [] w1 H1.o0 (by decide) (Rd.none w1) (by decide) (H.o0.fr H1.l2) rfl rfl (by decide) (by decide) (by decide) (by decide);rw[show (((3:Nat):Int))=3 from rfl,oid0]at c2;have H2:=zhd c2;clear c2;go_upto_region 3 with (go_at_call 16;refine H2.out.mono ?_;rintro e w2 ⟨rfl,lab2,r,hr,h2,s2⟩;have H3:=zhd3 hr h2 (s2.fr0 H1.l2 H1.o1);clear hr h2 s2);have hh:hashB id0=true:=by rw[<-oid0];exact qsr _ _
 have c3:=qf8 F _ _ _ lab2 id0 w2 H3.o1 (by decide) (H.o0.fr H3.l2.1);have hrd:lread (fs.upd (λ_=>none) (pathL id0) (some (defl.zlibOf 2 r (obj.header 3 ([]:List UInt8).length++[])))) id0=(3,[],0):=by have hp:=qmf (k:=3) (by decide) (body:=[]) (by decide) H3.o0;unfold lread;rw[if_pos hh];unfold fs.upd;rw[if_pos rfl];simp only;have hp:lparse (defl.zlibOf 2 r (obj.header 3 ([]:List UInt8).length++[]))=(3,[],0):=hp;rw[hp];simp only;rw[if_pos trivial,if_pos (show oid ((3:Nat):Int) []=id0 from oid0)]
 have c3:Calls Tryz.prog 12 #[.pointer (some ⟨F,0,none⟩),.string (str id0)] w2 (ParseP w2 (3,[],0)):=by rw[<-hrd];exact c3
 unfold ParseP at c3;have H4:=zhd c3;clear c3 hrd;go_upto_region 4 with (go_at_call 12;refine H4.out.mono ?_;rintro e w3 ⟨a3,rfl,_,_,f3⟩;have H5:=zhd2 (H3.l2.1.trans f3) (H3.o1.fr f3 (by simp));clear f3);have c5:=λw' (f:Fr [] w3 w')=>zcs F _ _ _ lab2 m w' (H5.l1.fr f (by simp)) (λx hx=>by
  unfold fs.upd at hx
  split at hx
  ·rename_i e
   rw[e]
   decide
  ·exact absurd rfl hx) ((H5.o0.trans f).cell H.l1 (by simp))
 have c4:=λw'=>qh5 id0 w' (by decide)
 have e0:str id0=⟨#[101,54,57,100,101,50,57,98,98,50,100,49,100,54,52,51,52,98,56,98,50,57,97,101,55,55,53,97,100,56,99,50,101,52,56,99,53,51,57,49]⟩:=rfl;have e1:str (pathL id0)=⟨#[111,98,106,101,99,116,115,47,101,54,47,57,100,101,50,57,98,98,50,100,49,100,54,52,51,52,98,56,98,50,57,97,101,55,55,53,97,100,56,99,50,101,52,56,99,53,51,57,49]⟩:=by rfl
 rw[e0,e1]at c4;rw[e0];have HC:=zhd2 c4 c5;clear c4 c5 e0 e1 hh;go_wp2_with (first
  | (go_at_call 10;refine (HC.o0 _).mono ?_;rintro e w4 ⟨rfl,f4⟩;have H6:=zhd f4;clear f4)
  | (go_at_call 17;refine (HC.l1 _ H6.out).mono ?_;rintro e w5 ⟨v,ss,rfl,hl,⟨a5,rfl,_,_⟩,f5⟩;rw[zcf hl,ids0];have H7:=zhd (H5.o0.trans (H6.out.trans f5));clear f5 hl))
 go_ret;exact⟨rfl,H7.out⟩
end Go.Proofs.YtbabjlohkniciaaGreatDoor.lo
namespace Go.Proofs.YtbabjlohkniciaaGreatDoor.bits
open Go Go.RowKit lib bm
abbrev Rf (w:World) (p:Nat) (F:List Nat) (bs:List UInt8) (at_:Nat):Prop:=RdT 160 w p F bs at_
theorem qjx (p:Nat) (F:List Nat) (bs:List UInt8) (at_:Nat) (w:World) (hR:Rf w p F bs at_) :
  Calls Tryz.prog 184 #[.pointer (some ⟨p,0,none⟩)] w λe w'=>e = .returned (.int .i64 (8*bs.length-at_))∧∃n,w'=w.drewN n:=by
 obtain⟨ao,cap,hr,hcs,rfl,hpb,hlen,hat,hcap,hmax⟩:=hR;have c0:=cell_of hr 0;have c1:=cell_of hr 1;simp only[qae,qaa,qad]at c0 c1;clear hr;go_enter Tryz.func184,Tryz.ntmps184;go_wp2;go_quiet (fail);go_wp2;go_ret;exact⟨rfl,_,rfl⟩
theorem qvm (p:Nat) (F:List Nat) (bs:List UInt8) (at_:Nat) (w:World) (hR:Rf w p F bs at_) :
  Calls Tryz.prog 104 #[.pointer (some ⟨p,0,none⟩)] w λe w'=>e = .returned (.int .i64 ((at_+7)/8:Nat))∧w=w':=by
 obtain⟨ao,cap,hr,hcs,rfl,hpb,hlen,hat,hcap,hmax⟩:=hR;have c1:=cell_of hr 1;simp only[qae,qaa,qad]at c1;clear hr;go_enter Tryz.func104,Tryz.ntmps104;go_wp2;go_ret;exact⟨qmb (int_eq (by omega)),rfl⟩
theorem qtu (p:Nat) (F:List Nat) (bs:List UInt8) (at_:Nat) (w:World) (hR:Rf w p F bs at_) :
  Calls Tryz.prog 147 #[.pointer (some ⟨p,0,none⟩)] w λe w'=>e = .returned (.tuple #[])∧Rf w' p F bs ((at_+7)/8*8)∧Fr [p] w w':=by
 have hR':=zhd hR;obtain⟨ao,cap,hr,hcs,rfl,hpb,hlen,hat,hcap,hmax⟩:=hR;have c1:=cell_of hr 1;have f1:=qay hr 1;simp only[qae,qaa,qad]at c1;clear hr;go_enter Tryz.func147,Tryz.ntmps147;go_wp2;go_end0;refine⟨rfl,zda hR'.out ((Fr.refl _ w).setCell (by simp) _) (λao cap h=>(qa0 h _).trans ?_) (by omega),(Fr.refl _ w).setCell (by simp) _⟩;have e:((at_:Int)+7)/8*8=((at_+7)/8*8:Nat):=by omega
 rw[e];rfl
theorem zcg (bs:List UInt8) (a bn:Nat) (hlt:a/8<bs.length) (hb:(bs.getD (a/8) 0).toNat=bn) :
  bits .and .u32 ((bn:Int)/2^(a%8)%4294967296) 1=((num bs/2^a%2:Nat):Int):=by
 have hbn:bn<256:=by rw[<-hb];exact qbo _
 have hbd:bn/2^(a%8)<4294967296:=qf3 (Nat.div_le_self _ _) (by omega);have hc:=chunk bs a 1 hlt (by omega);rw[hb]at hc;have h:=u32_and_nat (bn/2^(a%8)) 1 hbd (by decide);rw[Nat.and_one_is_mod]at h;have hm:((bn/2^(a%8):Nat):Int)%4294967296=((bn/2^(a%8):Nat):Int):=Int.emod_eq_of_lt (Int.natCast_nonneg _) (Int.ofNat_lt.2 hbd);rw[qd2,<-Int.natCast_ediv,hm];rw[show (2:Nat)^1=2 from rfl]at hc;rw[hc];exact h
theorem qr1 (p:Nat) (F:List Nat) (bs:List UInt8) (at_:Nat) (w:World) (hR:Rf w p F bs at_) (h8:at_<8*bs.length) :
  Calls Tryz.prog 185 #[.pointer (some ⟨p,0,none⟩)] w λe w'=>e = .returned (.int .u32 (num bs/2^at_%2:Nat))∧Rf w' p F bs (at_+1)∧Fr [p] w w':=by
 obtain⟨ao,cap,hr,hcs,rfl,hpb,hlen,hat,hcap,hmax⟩:=hR;have hHcs:=zhd hcs;obtain⟨g,o,rfl,hc⟩:=hcs.at (by simp;omega);have hq:at_/8<bs.length:=by omega
 have cd:w.cell? ⟨g,o+at_/8,none⟩=some (bv (bs.getD (at_/8) 0)):=hc _ _ (by simp[List.getD,hq]);unfold bv at cd;have c0:=cell_of hr 0;have c1:=cell_of hr 1;have f1:=qay hr 1;simp only[qae,qaa,qad]at c0 c1;have Hr:=zhd hr;have hby:(bs.getD (at_/8) 0).toNat<256:=qbo _;generalize hbn:(bs.getD (at_/8) 0).toNat=bn at cd hby;have Hbn:=zhd hbn;clear hr hbn hc;go_enter Tryz.func185,Tryz.ntmps185;go_wp2;go_quiet (fail);go_wp2;go_ret;have fr:=((Fr.refl [p] w).drewsN nq).setCell (p:=⟨p,1,none⟩) (by simp) (.int .i64 (at_+1));refine⟨qmb (int_eq (zcg bs at_ bn hq Hbn.out)),⟨_,cap,(qa0 (w:=w.drewN nq) Hr.out _).trans rfl,hHcs.out.fr fr (by intro x hx;simp;rintro rfl;exact hpb hx),rfl,hpb,hlen,by omega,hcap,hmax⟩,fr⟩
theorem qtl (x vn a k:Nat) (hk:k<32) (hv:x/2^a%2^k=vn) :
  bits .or .u32 (vn:Int) (((x/2^(a+k)%2:Nat):Int)*2^k%4294967296)=((x/2^a%2^(k+1):Nat):Int):=by
 rw[more,hv,qm8 vn _ k 1 (by rw[<-hv];exact qd4 _ (qbj _)) (qd4 _ (by decide)) (by omega)]
theorem ql8 (p:Nat) (F:List Nat) (bs:List UInt8) (at_:Nat) (n:Int) (w:World) (hR:Rf w p F bs at_) (hn0:0≤n) (hn2:n≤32) (hn3:at_+n≤8*bs.length) :
  Calls Tryz.prog 146 #[.pointer (some ⟨p,0,none⟩),.int .i64 n] w λe w'=>
   e = .returned (.tuple #[.int .u32 (num bs/2^at_%2^n.toNat:Nat),.bool true])∧Rf w' p F bs (at_+n.toNat)∧Fr [p] w w':=by
 obtain⟨n,rfl⟩:=qcv hn0;have h1:decide ((n:Int)<0)=false:=by simp
 have h2:decide (32<(n:Int))=false:=by simp;omega
 have h3:decide (8*(bs.length:Int)-at_<(n:Int))=false:=by simp;omega
 have hpF:p∈F:=by obtain⟨_,_,_,_,h,_⟩:=hR;rw[h];simp
 go_enter Tryz.func146,Tryz.ntmps146;go_upto_region 1 with fail;go_cut [19] (λs wc=>s = .bool false∧Rf wc p F bs at_∧Fr [p] w wc);case first=>go_wp2_with (go_at_call 184;refine (qjx p F bs at_ _ hR).mono ?_;rintro e w' ⟨rfl,k,rfl⟩);go_meet;exact⟨by first|rfl|simpa using h3,qf9 hR (Fr.drewN [] _ _) (by simp),Fr.drewN _ _ _⟩
 case rest=>
 obtain⟨rfl,hR1,fr1⟩:=hcut;have HR1:=zhd hR1;clear hR hR1;go_wp2;go_loopg [6,7] n (λk s6 s7 wr=>∃i,i+k=n∧s7 = .int .i64 i∧s6 = .int .u32 (num bs/2^at_%2^i:Nat)∧Rf wr p F bs (at_+i)∧Fr [p] w wr);case atStart=>exact⟨0,by omega,rfl,by simp[Nat.mod_one],HR1.out,fr1⟩
 case round=>
  obtain⟨i,hi,rfl,rfl,hR,fr2⟩:=hrel;by_cases hin:i<n
  ·have hlt:at_+i<8*bs.length:=by omega
   have hv:num bs/2^at_%2^i<4294967296:=by refine qal (qd4 _ (qbj _)) ?_;rw[<-p32];exact qjj i 32 (by omega)
   generalize hvn:num bs/2^at_%2^i=vn at hv ⊢;have Hvn:=zhd hvn;clear hvn;have hst:=qtl (num bs) vn at_ i (by omega) Hvn.out;have Hst:=zhd hst;clear hst;go_wp2_with (go_at_call 185;refine (qr1 p F bs _ _ hR hlt).mono ?_;rintro e w' ⟨rfl,hR2,fr3⟩;generalize num bs/2^(at_+i)%2=bit at Hst);go_roundg (n-(i+1));case measure=>omega
   case rel=>exact⟨i+1,by omega,by go_num,int_eq Hst.out,hR2,fr2.trans fr3⟩
  ·obtain rfl:i=n:=by omega
   go_wp2;go_ret2;exact⟨by simp,by simpa using hR,fr2⟩
theorem qou (p:Nat) (F:List Nat) (bs:List UInt8) (at_:Nat) (n:Int) (w:World) (hR:Rf w p F bs at_) (hn:n<0∨32<n∨8*bs.length<at_+n) :
  Calls Tryz.prog 146 #[.pointer (some ⟨p,0,none⟩),.int .i64 n] w λe w'=>
   e = .returned (.tuple #[.int .u32 0,.bool false])∧Rf w' p F bs at_∧Fr [] w w':=by
 have HR:=zhd hR;clear hR;by_cases a1:n<0
 ·have h1:decide (n<0)=true:=by simp;omega
  go_enter Tryz.func146,Tryz.ntmps146;go_wp2;go_ret2;exact⟨rfl,HR.out,Fr.refl _ _⟩
 ·have h1:decide (n<0)=false:=by simp;omega
  by_cases a2:32<n
  ·have h2:decide (32<n)=true:=by simp;omega
   go_enter Tryz.func146,Tryz.ntmps146;go_wp2;go_ret2;exact⟨rfl,HR.out,Fr.refl _ _⟩
  ·have h2:decide (32<n)=false:=by simp;omega
   have h3:decide (8*(bs.length:Int)-at_<n)=true:=by simp;omega
   go_enter Tryz.func146,Tryz.ntmps146;go_wp2_with (go_at_call 184;refine (qjx p F bs at_ _ HR.out).mono ?_;rintro e w' ⟨rfl,k,rfl⟩);go_ret2;exact⟨rfl,qf9 HR.out (Fr.drewN [] _ _) (by simp),Fr.drewN _ _ _⟩
end Go.Proofs.YtbabjlohkniciaaGreatDoor.bits
namespace Go.Proofs.YtbabjlohkniciaaGreatDoor.huf
open Go Go.RowKit lib bm bl
theorem qlw (a:Option Addr) (cap:Nat) (ls:List Nat) (w:World) (h:Ri w a cap ls) (hle:∀l∈ls,l≤15) (hlen:ls.length≤100000) :
  Calls Tryz.prog 188 #[.slice a ls.length cap] w λe w'=>e = .returned (.int .i64 (weight ls:Nat))∧w=w':=by
 obtain⟨L,hL⟩:=zex ls.length;rw[<-hL]at hlen ⊢;have H:=zhd3 h hle hL;clear h hle hL;go_enter Tryz.func188,Tryz.ntmps188;go_upto_block 0 with fail;go_wp2;go_loopg [3,4] L (λk s3 s4 wr=>∃i:Nat,s4 = .int .i64 (i:Nat)∧s3 = .int .i64 (weight (ls.take i):Nat)∧i+k=L∧w=wr);case atStart=>exact⟨0,rfl,rfl,by omega,rfl⟩
 case round=>
  obtain⟨i,rfl,rfl,hik,rfl⟩:=hrel;by_cases hi:i<L
  ·obtain⟨k,rfl⟩:∃k,gk=k+1:=⟨gk-1,by omega⟩;have hil:i<ls.length:=by rw[<-H.out.2.2];exact hi
   obtain⟨g,o,rfl,hc⟩:=H.out.1.at hil;have h15:=H.out.2.1 _ (qb7 hil);have hw:=qdr (ls.take i) [ls[i]];rw[<-qbc hil]at hw;have hwl:=qhy (ls.take i);rw[qar]at hwl;generalize ls[i]=x at *;generalize hW:weight (ls.take i)=W at *;generalize hW2:weight (ls.take (i+1))=W2 at *;have hWb:W≤1638400000:=by omega
   by_cases h0:x=0
   ·subst h0;have e:W2=W:=by rw[hw];simp[weight]
    have HE:=zhd2 e hW2;clear e hw hwl hW hW2;go_wp2;go_roundg k;case measure=>omega
    case rel=>exact⟨i+1,by go_num,by rw[HE.l1,HE.o0],by omega,rfl⟩
   ·have hx:1≤x:=by omega
    obtain⟨y,hy⟩:=zex (15-x);have e1:(15:Int)-(x:Int)=(y:Int):=by omega
    have hp:2^y≤16384:=qan (qax (by decide) (show y≤14 by omega)) (by decide);have e:W2=W+2^y:=by rw[hw,hy];simp[weight,h0]
    obtain⟨z,hz⟩:=zex (2^y);rw[<-hz]at hp e;have e2:(2:Int)^y=(z:Int):=by rw[hz];exact qd2 y
    have HE:=zhd2 e hW2;have hy14:y≤14:=by omega
    clear e hw hwl hW hW2 hz hy;go_wp2;go_roundg k;case measure=>omega
    case rel=>exact⟨i+1,by go_num,by rw[HE.l1,HE.o0];first|go_num|rfl,by omega,rfl⟩
  ·obtain rfl:i=L:=by omega
   have hW:weight (ls.take i)=weight ls:=by rw[qa9 (by rw[<-H.out.2.2];exact qag _)]
   have HW:=zhd hW;clear hW;go_wp2;go_ret;exact⟨by rw[<-HW.out];rfl,rfl⟩
theorem qga (a:Option Addr) (cap:Nat) (ls:List Nat) (w:World) (h:Ri w a cap ls) (hle:∀l∈ls,l≤15) (hlen:ls.length≤100000) :
  Calls Tryz.prog 151 #[.slice a ls.length cap] w λe w'=>e = .returned (.bool (decide (weight ls=32768)))∧w=w':=by
 have hc:=zhd (qlw a cap ls w h hle hlen);clear h hle;go_enter Tryz.func151,Tryz.ntmps151;go_wp2_with (go_at_call 188;refine hc.out.mono ?_;rintro e w' ⟨rfl,rfl⟩);go_ret;refine⟨qmb (qrk ?_),rfl⟩;first
  | (rw[quy];simp;omega)
  | simp
def RCodesGood (w:World) (ls:List Nat) (e:Ending) (w':World):Prop:=
 ∃g,e = .returned (.tuple #[.slice (some ⟨g,0,none⟩) ls.length ls.length,.int .i64 0])∧Cs w' (some ⟨g,0,none⟩) ((codesOf ls).map λx=>.int .u32 (x:Nat))∧w.heap.size≤g∧g<w'.heap.size∧Fr [] w w'
theorem qtt (a:Option Addr) (cap:Nat) (ls:List Nat) (w:World) (h:Ri w a cap ls) (hle:∀l∈ls,l≤15) (hlen:ls.length≤400) (hw:weight ls≤32768) :
  Calls Tryz.prog 204 #[.slice a ls.length cap] w (RCodesGood w ls):=by
 obtain⟨L,hL⟩:=zex ls.length;have hc:=qlw a cap ls w h hle (by omega);rw[<-hL]at hlen hc ⊢;obtain⟨W,hW⟩:=zex (weight ls);rw[<-hW]at hc hw;have H:=zhd5 h hle hL hc hW;obtain⟨hu,⟨ti,hi',hz',hs',hb'⟩,hcz,hp⟩:=u32sTy;clear h hle hL hc hW;have d1:decide ((400:Int)<L)=false:=by simp;omega
 have d2:decide ((32768:Int)<W)=false:=by simp;omega
 go_enter Tryz.func204,Tryz.ntmps204;go_upto_block 1 with (first|(go_at_call 188;refine H.out.2.2.2.1.mono ?_;rintro e w' ⟨rfl,rfl⟩)|(refine wpList_make_full _ rfl _ _ 91 rfl 0 90 ti (.int .u32 0) 1 hu hi' hz' hs' .i64 .i64 (L:Nat) (L:Nat) L rfl rfl rfl rfl (by rw[hb'];omega) (by unfold maxLen;omega) (by omega) ?_;intro w3 own3 grow3;have H3:=zhd2 own3 grow3;clear own3 grow3));obtain⟨Q,hQ⟩:=zex w.heap.size;rw[<-hQ]at H3 ⊢;have hst:Cw w3 ls Q 1 0:=qxu (by rw[<-H.out.2.2.1];exact H3.o0);have f3:Fr [] w w3:=(Fr.refl [] w).grown H3.l1 (λk hk=>by cases hk);have HS:=zhd3 hst f3 hQ;clear hst f3 hQ H3 hu hi' hz' hs' hb' hcz hp d1 d2;go_wp2;go_loopg [5,6,7] 15 (λk s5 s6 s7 wr=>∃l nx:Nat,s6 = .int .i64 (l:Nat)∧s5 = .int .u32 (nx:Nat)∧l+k=16∧1≤l∧2*nx=nxt ls l∧Cw wr ls Q l 0∧Fr [] w wr);case atStart=>exact⟨1,0,rfl,rfl,rfl,qag _,rfl,HS.o0,HS.o1⟩
 case round=>
  obtain⟨l,nx,rfl,rfl,hlk,hl1,hnx,hcw,hf⟩:=hrel;by_cases hl:l≤15
  ·obtain⟨k,rfl⟩:∃k,gk=k+1:=⟨gk-1,by omega⟩;have hb:=qkn ls H.out.2.1 (by rw[<-H.out.2.2.2.2];exact hw) l hl;obtain⟨wo,rfl⟩:∃wo:World,wo=wr:=⟨_,rfl⟩;obtain⟨n2,hn2⟩:=zex (nxt ls l);rw[<-hn2]at hnx hb;have HX:=zhd5 hcw hf hn2 hnx hlk;have hnxb:nx≤16384:=by omega
   have e2:(nx:Int)*2=(n2:Int):=by omega
   clear hcw hf hn2 hnx hlk;go_upto_block 3 with fail;clear e2;go_wp2;go_loopg [5,7] L (λk s5 s7 wr=>∃i y:Nat,s7 = .int .i64 (i:Nat)∧s5 = .int .u32 (y:Nat)∧i+k=L∧y=n2+(ls.take i).count l∧Cw wr ls Q l i∧Fr [] w wr);case atStart=>exact⟨0,n2,rfl,rfl,by omega,by simp,HX.o0,HX.o1⟩
   case round=>
    obtain⟨i,y,rfl,rfl,hik,hy,hcw,hf⟩:=hrel;have hcl:=qhf (a:=l) (l:=ls.take i);rw[qar]at hcl;have hyb:y≤40000:=by omega
    by_cases hi:i<L
    ·obtain⟨k2,rfl⟩:∃k2,gk=k2+1:=⟨gk-1,by omega⟩;have hil:i<ls.length:=by rw[<-H.out.2.2.1];exact hi
     obtain⟨g,o,rfl,hc⟩:=(H.out.1.fr hf).at hil;have hla:lenAt ls i=ls[i]:=by unfold lenAt;rw[qaf hil];rfl
     have hct:=qdp ls i l hil;rw[hla]at hct;obtain⟨A,hA,hAs,hAt⟩:=hcw;have zA:=qay hA i;obtain⟨x0,hx0⟩:∃x,wr.cell? ⟨Q,i,none⟩=some x:=⟨_,by rw[cell_of hA];exact hAt i hil⟩;have f2:Fr [Q] wr (wr.setCell ⟨Q,i,none⟩ (.int .u32 y)):=(Fr.refl [Q] wr).setCell (by simp) _;obtain⟨v,hv⟩:=zex (ls[i]);rw[<-hv]at hc hla hct;have HI:=zhd7 (And.intro hla hct) (And.intro hA (And.intro hAs hAt)) hf hy hik f2 hv;clear hla hct hA hAs hAt hf hy hik f2 hv hcl;by_cases hvl:v=l
     ·have d1:((v:Int)==(l:Int))=true:=by simp;omega
      go_wp2;go_roundg k2;case measure=>have:=HI.out.2.2.2.2.1;omega
      case rel=>
       obtain⟨⟨hla,hct⟩,⟨hA,hAs,hAt⟩,hf,hy,hik,f2,_⟩:=HI.out;rw[if_pos hvl]at hct;refine⟨i+1,y+1,by go_num,by go_num,by omega,by omega,⟨_,qa0 hA _,by simp[hAs],λj hj=>?_⟩,hf.step f2 (λz hz=>.inr (by simp at hz;rw[hz,HS.l2];exact qag _))⟩;by_cases e:j=i
       ·subst e;rw[qaq (by omega),zbm (by omega) (by rw[hla,hvl]),hy,HX.o2]
       ·rw[qac (by omega),qn6 (.inl e)];exact hAt j hj
     ·have d1:((v:Int)==(l:Int))=false:=by simp;omega
      go_wp2;go_roundg k2;case measure=>have:=HI.out.2.2.2.2.1;omega
      case rel=>obtain⟨⟨hla,hct⟩,⟨hA,hAs,hAt⟩,hf,hy,hik,f2,_⟩:=HI.out;rw[if_neg hvl]at hct;exact⟨i+1,y,by go_num,by go_num,by omega,by omega,⟨A,hA,hAs,λj hj=>by rw[qn6 (.inr (by rw[hla];exact hvl))];exact hAt j hj⟩,hf⟩
    ·obtain rfl:i=L:=by omega
     have ht:ls.take i=ls:=qa9 (by rw[<-H.out.2.2.1];exact qag _);rw[ht]at hy;have HI:=zhd3 hcw hf hy;clear hcw hf hy hcl ht hik;go_wp2;go_roundg k;case measure=>have:=HX.l4;omega
     case rel=>
      have hlk:=HX.l4;obtain⟨⟨A,hA,hAs,hAt⟩,hf,hy⟩:=HI.out;refine⟨l+1,y,by go_num,rfl,by omega,by omega,?_,⟨A,hA,hAs,λj hj=>?_⟩,hf⟩
      ·rw[nxt,if_neg (by omega),<-HX.o2,hy]
      ·rw[<-qxt (by omega) hj,<-H.out.2.2.1];exact hAt j hj
  ·obtain rfl:l=16:=by omega
   obtain⟨A,hA,hAs,hAt⟩:=hcw;have HI:=zhd4 hA hAs hAt hf;clear hA hAs hAt hf hnx hlk;go_wp2;go_ret2;obtain⟨hA,hAs,hAt,hf⟩:=HI.out;unfold RCodesGood;rw[<-H.out.2.2.1];refine⟨Q,rfl,.inr ⟨Q,0,rfl,λj v hv=>?_⟩,by rw[HS.l2];exact qag _,lt_of_block hA,hf⟩;have hj:j<ls.length:=by have:=(qbg.1 hv).1;simpa[codesOf] using this
   rw[qbe,cell_of hA,hAt j hj,zbn (H.out.2.1 _ (qdx hj))];rw[<-hv];simp[codesOf,hj]
end Go.Proofs.YtbabjlohkniciaaGreatDoor.huf
