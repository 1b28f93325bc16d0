/-
  Texts of this proof, one behind the other: Lens, Counts, Writer.
-/
import Derived.Test.YtbabjlohkniciaaGreatDoorV7
set_option maxHeartbeats 16000000
set_option maxRecDepth 100000
set_option linter.unusedVariables false
set_option linter.unusedSimpArgs false
namespace Go.Proofs.YtbabjlohkniciaaGreatDoor.huf
open Go Go.RowKit lib bm bl
theorem qgo (l:List Coin) (B C:Nat) (h:∀c∈l,c.1≤B∧c.2.length≤C):∀k,∀c∈row l k,c.1≤B*2^k∧c.2.length≤C*2^k
 | 0,c,hc=>by simp[row]at hc
 | k+1,c,hc=>by
  have ih:=qgo l B C h k;have h2:2^(k+1)=2*2^k:=by rw[qcr];omega
  rcases qqr _ _ _ hc with a|a
  ·have:=h c a;have h1:=qbj (k+1);exact⟨qan this.1 (Nat.le_mul_of_pos_right _ h1),qan this.2 (Nat.le_mul_of_pos_right _ h1)⟩
  ·obtain⟨j,hj⟩:=qdm.1 a;obtain⟨u,v,hu,hv,rfl⟩:=qeg _ _ _ hj;have a1:=ih u (qa6 hu);have a2:=ih v (qa6 hv);rw[h2,qab];refine⟨?_,?_⟩
   ·rw[show B*(2*2^k)=B*2^k+B*2^k from by rw[Nat.mul_left_comm];omega];exact Nat.add_le_add a1.1 a2.1
   ·rw[show C*(2*2^k)=C*2^k+C*2^k from by rw[Nat.mul_left_comm];omega];exact Nat.add_le_add a1.2 a2.2
theorem qnk (l:List Coin) (P:Nat→Prop) (h:∀c∈l,∀x∈c.2,P x):∀k,∀c∈row l k,∀x∈c.2,P x
 | 0,c,hc=>by simp[row]at hc
 | k+1,c,hc=>by
  rcases qqr _ _ _ hc with a|a
  ·exact h c a
  ·obtain⟨j,hj⟩:=qdm.1 a;obtain⟨u,v,hu,hv,rfl⟩:=qeg _ _ _ hj;intro x hx;rcases qbd.1 hx with b|b
   ·exact qnk l P h k u (qa6 hu) x b
   ·exact qnk l P h k v (qa6 hv) x b
def Off (Q:Nat) (ms:List Mc):Prop:=∀m∈ms,∀x∈blk m.ao,x≠Q
theorem Ins.off {Q:Nat} {w w':World} {ms:List Mc} {l:List Coin} (h:Ins w ms l) (f:Fr [Q] w w') (ho:Off Q ms):Ins w' ms l:=
 ⟨h.1,λi m c h1 h2=>by
  have k:=h.2 i m c h1 h2
  refine⟨k.worth,k.len,k.pos,qa7 k.own f λx hx=>?_⟩
  have:x∈blk m.ao:=by
   cases hm:m.ao with
   | none=>rw[hm]at hx;cases hx
   | some a=>rw[hm]at hx;simp only[Value.ownBlock,qas]at hx;subst hx;simp[blk]
  have:=ho m (qa6 h1) x this
  simpa using this⟩
theorem Ins.low {w:World} {ms:List Mc} {l:List Coin} (h:Ins w ms l):∀m∈ms,∀x∈blk m.ao,x<w.heap.size:=λm hm x hx=>by
 obtain⟨i,hi⟩:=qdm.1 hm;have hil:i<l.length:=by rw[<-h.1];exact (qbg.1 hi).1
 exact qd3 (h.2 i m _ hi (qaf hil)).own (qdv hx)
theorem qgb {w:World} {e:TypeId} {size:Nat} {ao:Option Addr} {n cap:Nat} {xs:List Value} (h:w.ownsRow 0 e size (.slice ao n cap) n xs) (hn:0<n):∃g,ao=some ⟨g,0,none⟩∧n≤cap∧cap≤maxLen:=by
 rcases h.2 with⟨_,h2⟩|⟨g,c,cur,h1,_,_,h3,h4,_⟩
 ·omega
 ·simp only[qbn,true_and]at h1;exact⟨g,h1.1,by omega,by omega⟩
theorem zcp (l:List Coin) (C:Nat) (h:∀c∈l,c.2.length≤C):(ins l).length≤l.length*C:=by
 induction l with
 | nil=>simp[ins]
 | cons c l ih=>
  have h1:=ih λx hx=>h x (qbw _ hx)
  have h2:=h c qb1;simp only[ins,qca,qab,qam,qct]at h1 ⊢;omega
theorem row_one (l:List Coin):row l 1=l:=by show mrg l (packs [])=l;exact qei l
theorem qiy (l:List Coin):∀k,(row l k).length≤2*l.length
 | 0=>by simp[row]
 | k+1=>by rw[qix];have:=qiy l k;omega
theorem zbo {w:World} {e:TypeId} {size:Nat} {ao:Option Addr} {n cap:Nat} {xs:List Value} (h:w.ownsRow 0 e size (.slice ao n cap) n xs):Cs w ao xs:=by
 rcases h.2 with⟨h1,h2⟩|⟨g,cap',cur,h1,hb,hg,hn,hm,hs,ht⟩
 ·left;have:=h.1;rw[h2]at this;exact qbs (by simpa using this)
 ·simp only[qbn,true_and]at h1;obtain⟨rfl,rfl⟩:=h1;refine .inr ⟨g,0,rfl,λj v hv=>?_⟩;rw[cell_of hg,qbe];rw[<-ht,qbl]at hv;split at hv
  ·simpa using hv
  ·cases hv
structure RowAt (w:World) (Q g n cp:Nat) (ms:List Mc) (l:List Coin):Prop where
 own:w.ownsRow 0 206 2 (.slice (some ⟨g,0,none⟩) n cp) n (cellsOf ms)
 ins:Ins w ms l
 off:Off Q ms
 ne:g≠Q
theorem RowAt.fr {w w':World} {Q g n cp:Nat} {ms:List Mc} {l:List Coin} (h:RowAt w Q g n cp ms l) (f:Fr [] w w'):RowAt w' Q g n cp ms l:=
 ⟨qa7 h.own f (by simp),h.ins.fr0 f,h.off,h.ne⟩
theorem RowAt.frQ {w w':World} {Q g n cp:Nat} {ms:List Mc} {l:List Coin} (h:RowAt w Q g n cp ms l) (f:Fr [Q] w w'):RowAt w' Q g n cp ms l:=
 ⟨qa7 h.own f (by intro k hk;simp only[Value.ownBlock,qas]at hk;subst hk;simpa using h.ne),h.ins.off f h.off,h.off,h.ne⟩
theorem RowAt.len {w:World} {Q g n cp:Nat} {ms:List Mc} {l:List Coin} (h:RowAt w Q g n cp ms l):ms.length=n∧l.length=n:=by have:=h.own.1;rw[qdj]at this;have:=h.ins.1;omega
def LensGood (L:Nat) (cs:List Nat) (N:Nat) (w:World) (e:Ending) (w':World):Prop:=
 ∃g ls,e = .returned (.tuple #[.slice (some ⟨g,0,none⟩) N N,.int .i64 0])∧LensOk L cs ls∧Cs w' (some ⟨g,0,none⟩) (ints ls)∧w.heap.size≤g∧g<w'.heap.size∧Fr [] w w'
theorem Ow.good {L N:Nat} {cs:List Nat} {w w':World} {Q:Nat} {F:Nat→Nat} (h:Ow w' Q N F) (hN:N=cs.length) (hl:LensOk L cs ((List.range cs.length).map F)) (hQ:w.heap.size≤Q) (hf:Fr [] w w') :
  LensGood L cs N w (.returned (.tuple #[.slice (some ⟨Q,0,none⟩) N N,.int .i64 0])) w':=by
 refine⟨Q,_,rfl,hl,by rw[<-hN];exact h.cs,hQ,?_,hf⟩;obtain⟨A,hA,_⟩:=h;exact lt_of_block hA
theorem qe9 (a:Option Addr) (cap:Nat) (cs:List Nat) (L:Nat) (w:World) (h:Ri w a cap cs) (hL1:1≤L) (hL15:L≤15) (hlen:cs.length≤400) (hle:∀c∈cs,c≤2^30)
  (hn:(symsTo cs cs.length).length≤2^L) :
  Calls Tryz.prog 84 #[.slice a cs.length cap,.int .i64 L] w (LensGood L cs cs.length w):=by
 obtain⟨N,hN⟩:=zex cs.length;rw[<-hN]at hlen hn ⊢;have H:=zhd4 h hle hN hn;clear h hle hN hn;obtain⟨hu,⟨ti,hi',hz',hs',hb'⟩,hcz,hp⟩:=qcn;go_enter Tryz.func84,Tryz.ntmps84;go_upto_block 0 with fail;go_wp2;go_loopg [6,7,8,31] N (λk s6 s7 s8 s31 wr=>∃(i:Nat) (ao:Option Addr) (n cp:Nat) (ms:List Mc),s31 = .int .i64 (i:Nat)∧s6 = .slice ao n cp∧i+k=N∧n=(symsTo cs i).length∧Made w wr 206 2 ao n cp (cellsOf ms)∧Ins wr ms (coinsTo cs i));case atStart=>exact⟨0,none,0,0,[],rfl,rfl,by omega,rfl,.none w _ _,⟨rfl,λi m c h=>by simp at h⟩⟩
 case round=>
  obtain⟨i,ao,n,cp,ms,rfl,rfl,hik,hnn,hm,hIn⟩:=hrel;by_cases hi:i<N
  ·obtain⟨k,rfl⟩:∃k,gk=k+1:=⟨gk-1,by omega⟩;have hil:i<cs.length:=by rw[<-H.out.2.2.1];exact hi
   obtain⟨g,o,rfl,hc⟩:=(H.out.1.fr hm.fr).at hil;have hcl:=H.out.2.1 _ (qb7 hil);have hla:lenAt cs i=cs[i]:=by unfold lenAt;rw[qaf hil];rfl
   obtain⟨c,hcc⟩:=zex (cs[i]);rw[<-hcc]at hc hcl hla;have hc0:=qpq cs i;have hs0:=qho cs i;rw[hla]at hc0 hs0;have hnb:n≤400:=by
    have h2:(symsTo cs i).length≤i:=by have:=qc7 (λs=>decide (0<lenAt cs s)) (List.range i);rw[qgz]at this;exact this
    omega
   by_cases hc1:c=0
   ·subst hc1;rw[if_neg (by omega)]at hc0 hs0;have HI:=zhd6 hc0 hs0 hm hIn hnn hik;clear hc0 hs0 hm hIn hnn hik hla hcc;go_wp2;go_roundg k;case measure=>omega
    case rel=>obtain⟨hc0,hs0,hm,hIn,hnn,hik⟩:=HI.out;exact⟨i+1,ao,n,cp,ms,by go_num,rfl,by omega,by rw[hs0];exact hnn,hm,by rw[hc0];exact hIn⟩
   ·rw[if_pos (by omega)]at hc0 hs0;have HI:=zhd6 hc0 hs0 hm hIn hnn hik;clear hc0 hs0 hm hIn hnn hik hla hcc;obtain⟨W1,hW1⟩:∃W1,W1=wr.alloc (.cells #[.int .i64 (i:Nat)] 3 (0,0)):=⟨_,rfl⟩;obtain⟨W2,hW2⟩:∃W2,W2=W1.alloc (.cells #[.int .i64 (c:Nat),.slice (some ⟨wr.heap.size,0,none⟩) 1 1] 206 (0,0)):=⟨_,rfl⟩;have hz1:W1.heap.size=wr.heap.size+1:=by rw[hW1,qav]
    have fW:Fr [] wr W1:=by rw[hW1];exact (Fr.refl [] wr).alloc _
    have fW2:Fr [] W1 W2:=by rw[hW2];exact (Fr.refl [] W1).alloc _
    have hin2:In W2 ⟨c,some ⟨wr.heap.size,0,none⟩,1,1⟩ (c,[i]):=by refine⟨rfl,rfl,Nat.one_pos,rfl,.inr ⟨wr.heap.size,1,#[.int .i64 i],rfl,qba _,fW2.blk (by rw[hW1];exact qa4 wr _) (by simp),qag _,by unfold maxLen;omega,rfl,rfl⟩⟩
    have hcs2:Cs W2 (some ⟨wr.heap.size+1,0,none⟩) [.int .i64 c,.slice (some ⟨wr.heap.size,0,none⟩) 1 1]:=by refine .inr ⟨_,0,rfl,λj v hv=>?_⟩;rw[hW2,<-hz1,cell_of (qa4 W1 _),qbe];simpa using hv
    have hmW:=HI.out.2.2.1.fr2 (fW.trans fW2);have HJ:=zhd4 hin2 hcs2 hmW (fW.trans fW2);rw[hW1]at hW2;have hW2':=hW2.symm;clear hin2 hcs2 hmW fW fW2 hz1 hW1 hW2;have HWW:=zhd hW2';clear hW2';go_upto_region 10 with fail;go_wp2_with (refine qa5 qh3 rfl _ _ rfl (.slice ao n cp) n (cellsOf ms) (blk ao) rfl (qbp ao n cp) (by rw[HWW.out];exact HJ.out.2.2.1.own) (some ⟨wr.heap.size+1,0,none⟩) 1 1 [.int .i64 c,.slice (some ⟨wr.heap.size,0,none⟩) 1 1] (by first|rfl|simp) (qag _) (λh=>by cases h) (by rw[HWW.out];exact HJ.out.2.1) rfl (by intro u hu;simp only[qaw,qby,or_false]at hu;rcases hu with rfl|rfl<;>rfl) (by omega) (by unfold maxLen;omega) ?_;intro ao5 cp5 w5 hap;rw[HWW.out]at hap;have HA:=zhd hap;clear hap);go_roundg k;case measure=>omega
    case rel=>
     obtain⟨hc0,hs0,hm,hIn,hnn,hik⟩:=HI.out;obtain⟨in2,_,hmW,fW⟩:=HJ.out;refine⟨i+1,ao5,n+1,cp5,ms++[⟨c,some ⟨wr.heap.size,0,none⟩,1,1⟩],by go_num,rfl,by omega,by rw[hs0,qab,hnn];rfl,?_,?_⟩
     ·rw[qfo];exact hmW.app HA.out
     ·rw[hc0];exact (Ins.append (hIn.fr0 fW) (Ins.one in2)).typed HA.out.fr (qk1 hmW.own)
  ·obtain rfl:i=N:=by omega
   have hn2:n≤2^L:=by rw[hnn];exact H.out.2.2.2
   have hn400:n≤400:=by
    have h2:(symsTo cs i).length≤i:=by have:=qc7 (λs=>decide (0<lenAt cs s)) (List.range i);rw[qgz]at this;exact this
    omega
   obtain⟨z,hz⟩:=zex (2^L);have e2:(2:Int)^L=(z:Int):=by rw[hz];exact qd2 L
   have hzb:z≤32768:=by rw[hz];exact qan (qax (by decide) hL15) (by decide)
   have hzn:n≤z:=by omega
   have HI:=zhd5 hnn hm hIn hn2 hz;clear hnn hm hIn hn2 hz hik hi;obtain⟨Q,hQ⟩:=zex wr.heap.size;have HQ:=zhd hQ;clear hQ;go_upto_region 15 with (refine wpList_make_full _ rfl _ _ 128 rfl 0 3 ti (.int .i64 0) 1 hu hi' hz' hs' .i64 .i64 (i:Nat) (i:Nat) i rfl rfl rfl rfl (by rw[hb'];omega) (by unfold maxLen;omega) (by omega) ?_;intro w3 own3 grow3;have H3:=zhd2 own3 grow3;clear own3 grow3);rw[<-HQ.out]at H3 ⊢;have HS:Hid (Ow w3 Q i (λ_=>0)∧Fr [] wr w3∧Ins w3 ms (coinsTo cs i)∧w3.ownsRow 0 206 2 (.slice ao n cp) n (cellsOf ms)∧Off Q ms∧(∀x∈blk ao,x<Q)):=zhd (by
    have f3:Fr [] wr w3:=(Fr.refl [] wr).grown H3.l1 (λk hk=>by cases hk)
    refine⟨qk2 H3.o0,f3,HI.out.2.2.1.fr0 f3,qa7 HI.out.2.1.own f3 (by simp),λm hm x hx=>?_,λx hx=>by rw[HQ.out];exact HI.out.2.1.lt x hx⟩
    have:=HI.out.2.2.1.low m hm x hx
    rw[HQ.out];omega)
   clear H3 hu hi' hz' hs' hb' hcz hp e2 hzn;by_cases hn1:n<2
   ·go_wp2;go_loopg [11,65] n (λk s11 s65 wr=>∃t:Nat,s65 = .int .i64 (t:Nat)∧t+k=n∧Ow wr Q i (λs=>((symsTo cs i).take t).count s)∧Fr [Q] w3 wr);case atStart=>exact⟨0,rfl,by omega,HS.out.1.congr λs _=>by simp,.refl _ _⟩
    case round=>
     obtain⟨t,rfl,htk,how,hf⟩:=hrel;by_cases ht:t<n
     ·obtain rfl:t=0:=by omega
      obtain rfl:n=1:=by omega
      obtain⟨k2,rfl⟩:∃k2,gk=k2+1:=⟨gk-1,by omega⟩;obtain⟨h1,h2,h3,h4,h5,h6⟩:=HS.out;obtain⟨g,rfl,_,_⟩:=qgb h4 (by omega);have hgQ:g≠Q:=by have:=h6 g (by simp[blk]);omega
      obtain⟨m,hm⟩:∃m,ms[0]?=some m:=⟨_,qaf (by rw[h3.1];have:=HI.out.1;simp[coinsTo];omega)⟩;obtain⟨c,hc⟩:∃c,(coinsTo cs i)[0]?=some c:=⟨_,qaf (by have:=HI.out.1;simp[coinsTo];omega)⟩;obtain⟨s0,hs0⟩:∃s0,(symsTo cs i)[0]?=some s0:=⟨_,qaf (by have:=HI.out.1;omega)⟩;have hcs:c=(lenAt cs s0,[s0]):=by unfold coinsTo at hc;rw[qbx,hs0]at hc;simpa using hc.symm
      have hIn:=(h3.off hf h5).2 0 m c hm hc;have h4':=qa7 h4 hf (by simpa[Value.ownBlock] using hgQ);have hd:=qe6 ms 0 m hm;have d0:wr.cell? ⟨g,0,none⟩=some (.int .i64 (m.worth:Nat)):=by rw[<-hd.1];exact qb4 h4' 0 (by omega)
      have d1:wr.cell? ⟨g,1,none⟩=some (.slice m.ao m.len m.cap):=by rw[<-hd.2];exact qb4 h4' 1 (by omega)
      obtain⟨b,A,eb,hb,hbl,hbc⟩:=hIn.shape;have hml:m.len=1:=by rw[hIn.len,hcs];rfl
      have hown:=hIn.own;obtain⟨mw,mao,ml,mc⟩:=m;simp only at eb hml hown hbl hbc d0 d1;subst eb;subst hml;have d2:wr.cell? ⟨b,0,none⟩=some (.int .i64 s0):=by have:=qb4 hown 0 (by omega);rw[this,hcs];rfl
      have hsi:=(qd8.1 (qa6 hs0)).1;have fA:Fr [] wr (wr.alloc (.cells #[.int .i64 mw,.slice (some ⟨b,0,none⟩) 1 mc] 206 (0,0))):=(Fr.refl [] wr).alloc _;have d2':=fA.cell d2 (by simp);have d3:=(how.fr fA (by simp)).cell hsi;have z3:=(how.fr fA (by simp)).frozen s0;have hset:=(how.fr fA (by simp)).set hsi 1;have fS:Fr [Q] w3 ((wr.alloc (.cells #[.int .i64 mw,.slice (some ⟨b,0,none⟩) 1 mc] 206 (0,0))).setCell ⟨Q,s0,none⟩ (.int .i64 1)):=((hf.alloc _).setCell (by simp) _);have HJ:=zhd4 hset fS hs0 htk;clear how hf hs0 hIn h4' hd hb hown hcs hm hc h1 h2 h3 h4 h5 h6 htk fA hset fS d2;go_wp2;go_roundg k2;case measure=>omega
      case rel=>
       obtain⟨hset,fS,hs0,htk⟩:=HJ.out;refine⟨1,by go_num,by omega,hset.congr λs hs=>?_,fS⟩;have:(symsTo cs i).take 1=[s0]:=by
        match hx:symsTo cs i with
        | []=>rw[hx]at hs0;simp at hs0
        | y::ys=>rw[hx]at hs0;simp at hs0;simp[hs0]
       rw[this,qao];by_cases e:s=s0
       ·subst e;simp
       ·simp[e,qgh e]
     ·obtain rfl:t=n:=by omega
      have HJ:=zhd2 how hf;clear how hf htk;go_wp2;go_ret2;have hN:=H.out.2.2.1;have hnn:=HI.out.1;refine (HJ.out.1.congr (G:=λs=>if 0<lenAt cs s then 1 else 0) λs hs=>?_).good hN (qz1 hL1 (by rw[<-hN,<-hnn];exact hn1)) (by rw[HQ.out];exact HI.out.2.1.fr.size) ((HI.out.2.1.fr.trans HS.out.2.1).step HJ.out.2 λx hx=>.inr (by simp at hx;rw[hx,HQ.out];exact HI.out.2.1.fr.size));by_cases h0:0<lenAt cs s
      ·rw[if_pos h0];obtain⟨j,hj⟩:=qdm.1 (qd8.2 ⟨hs,h0⟩);have:=qew _ (qjg cs i) t j s hj;rw[this,if_pos (by rw[hnn];exact (qbg.1 hj).1)]
      ·rw[if_neg h0];exact List.count_eq_zero_of_not_mem λh=>h0 (qd8.1 (qbu h)).2
   ·have hB:∀c∈coinsTo cs i,c.1≤2^30∧c.2.length≤1:=λc hc=>by simp only[coinsTo,qb8]at hc;obtain⟨s,hs,rfl⟩:=hc;refine⟨?_,qag _⟩;have hs':=qd0 (qd8.1 hs).2;exact H.out.2.1 _ (qdx hs')
    obtain⟨h1,h2,h3,h4,h5,h6⟩:=HS.out;obtain⟨g,rfl,_,_⟩:=qgb h4 (by omega);have hgQ:g≠Q:=by have:=h6 g (by simp[blk]);omega
    have hsort:=ql4 g n cp ms (coinsTo cs i) w3 h4 h3 (by omega) (λc hc=>by have:=(hB c hc).1;omega);unfold cmpV at hsort;have HR:=zhd3 hsort hB hgQ;clear hsort hB hgQ h1 h2 h3 h4 h5 h6;obtain⟨L1,hL1'⟩:∃L1,L1=L-1:=⟨_,rfl⟩;have e3:(L:Int)-1=(L1:Int):=by omega
    have HL1:=zhd hL1';clear hL1';go_upto_block 4 with (go_at_call 134;refine HR.o0.mono ?_;rintro e w4 ⟨rfl,ms1,sl,o4,in4,so4,st4,f4,mem4⟩;have H4:=zhd6 o4 in4 so4 st4 f4 mem4;clear o4 in4 so4 st4 f4 mem4);have HA:Hid (RowAt w4 Q g n cp ms1 sl∧Ow w4 Q i (λ_=>0)∧(∀c∈sl,c.1≤2^30∧c.2.length≤1)∧Fr [] w w4):=zhd (by
     obtain⟨o4,in4,so4,st4,f4,mem4⟩:=H4.out
     obtain⟨h1,h2,h3,h4,h5,h6⟩:=HS.out
     have hgl:=h6 g (by simp[blk])
     refine⟨⟨o4,in4,λm hm=>h5 m (mem4 m hm),HR.l2⟩,h1.fr f4 (by simpa using (qgh HR.l2)),λc hc=>HR.o1 c ((st4.mem c).1 hc),(HI.out.2.1.fr.trans h2).step f4 λx hx=>.inr ?_⟩
     simp only[qaz]at hx
     rw[hx]
     exact HI.out.2.1.new g (by simp[blk]))
    go_wp2;go_loopg [13,83] L1 (λk s13 s83 wr=>∃(t g2 n2 cp2:Nat) (ms2:List Mc),s13 = .slice (some ⟨g2,0,none⟩) n2 cp2∧s83 = .int .i64 (t:Nat)∧t+k=L1∧RowAt wr Q g2 n2 cp2 ms2 (row sl (t+1))∧Fr [] w4 wr);case atStart=>exact⟨0,g,n,cp,ms1,rfl,rfl,by omega,by rw[row_one];exact HA.out.1,.refl _ _⟩
    case round=>
     obtain⟨t,g2,n2,cp2,ms2,rfl,rfl,htk,hra,hf⟩:=hrel;by_cases ht:t<L1
     ·obtain⟨k,rfl⟩:∃k,gk=k+1:=⟨gk-1,by omega⟩;have hla:=HA.out.1.fr hf;have hn2:n2≤800:=by have:=qiy sl (t+1);rw[hra.len.2,hla.len.2]at this;omega
      have htL:t+1≤15:=by have:=HL1.out;omega
      have hp15:2^(t+1)≤2^15:=qax (by decide) htL;have hrb:∀c∈row sl (t+1),c.1≤2^50∧c.2.length≤100000:=λc hc=>by have:=qgo sl (2^30) 1 HA.out.2.2.1 (t+1) c hc;omega
      have hpk:=qo2 g2 n2 cp2 ms2 (row sl (t+1)) wr hra.own hra.ins hra.len.1 (by omega) hrb;have hrb2:∀c∈sl++packs (row sl (t+1)),c.1≤2^50:=λc hc=>by
       rcases qbd.1 hc with q|q
       ·have:=HA.out.2.2.1 c q;omega
       ·obtain⟨j,hj⟩:=qdm.1 q;obtain⟨u,v,hu,hv,rfl⟩:=qeg _ _ _ hj;have b1:=qgo sl (2^30) 1 HA.out.2.2.1 (t+1) u (qa6 hu);have b2:=qgo sl (2^30) 1 HA.out.2.2.1 (t+1) v (qa6 hv);show u.1+v.1≤_;omega
      have hpl:(packs (row sl (t+1))).length≤800:=by rw[qda,hra.len.2];omega
      have HJ:=zhd7 hpk hrb2 hla hra hf htk hpl;clear hpk hrb hrb2 hla hra hf htk hp15 hpl;go_upto_region 28 with (first
       | (go_at_call 136;refine HJ.out.1.mono ?_;rintro e w5 ⟨ao3,k3,cp3,ms3,rfl,hk3,md5,in5,nb5⟩;have hk3b:k3≤800:=(by rw[hk3];exact HJ.out.2.2.2.2.2.2);have h6:=qre w5.heap.size (some ⟨g,0,none⟩) ao3 n k3 cp cp3 (cellsOf ms1) (cellsOf ms3) (w5.alloc (.cells #[.slice (some ⟨g,0,none⟩) n cp,.slice ao3 k3 cp3] 204 (0,0))) (qa4 w5 _) (zbo (qa7 HJ.out.2.2.1.own (md5.fr.alloc _) (by simp))) (zbo (qa7 md5.own ((Fr.refl [] w5).alloc _) (by simp))) HJ.out.2.2.1.own.1 md5.own.1 (qgb HJ.out.2.2.1.own (by omega)).choose_spec.2.1 md5.le (λh=>by cases h) md5.nil (qlp _) (qlp _) (by omega) (by omega);have H5:=zhd5 hk3 md5 in5 nb5 h6;clear hk3 md5 in5 nb5 h6)
       | (go_at_call 135;refine H5.l4.mono ?_;rintro e w7 ⟨ao7,cp7,rfl,md7⟩;have H7:=zhd md7;clear md7))
      obtain⟨g7,e7,hg7a,hg7b⟩:=qgb H7.out.own (by omega);subst e7;obtain⟨w6,hw6⟩:=zex (w5.alloc (.cells #[.slice (some ⟨g,0,none⟩) n cp,.slice ao3 k3 cp3] 204 (0,0)));have f56:Fr [] w5 w6:=by rw[hw6];exact (Fr.refl [] w5).alloc _
      have md7:=H7.out;rw[<-hw6]at md7;have fall:Fr [] wr w7:=(H5.o1.fr.trans f56).trans md7.fr;have hQs:Q<wr.heap.size:=by obtain⟨A,hA,_⟩:=HA.out.2.1;exact qal (lt_of_block hA) HJ.out.2.2.2.2.1.size
      have hg7:wr.heap.size≤g7:=qan (H5.o1.fr.trans f56).size (md7.new g7 (by simp[blk]));have hk3b:k3≤800:=by rw[H5.o0];exact HJ.out.2.2.2.2.2.2
      have hs7:=ql4 g7 (n+k3) cp7 (ms1++ms3) (sl++packs (row sl (t+1))) w7 (by rw[qfo];exact md7.own) (Ins.append (HJ.out.2.2.1.ins.fr0 fall) (H5.o2.fr0 (f56.trans md7.fr))) (by omega) HJ.out.2.1;unfold cmpV at hs7;have H8:=zhd4 hs7 fall hQs hg7;clear hs7 fall hQs hg7 md7 f56 hw6;go_wp2_with (go_at_call 134;refine H8.out.1.mono ?_;rintro e w8 ⟨rfl,ms8,l8,o8,in8,so8,st8,f8,mem8⟩;have H9:=zhd6 o8 in8 so8 st8 f8 mem8;clear o8 in8 so8 st8 f8 mem8);go_roundg k;case measure=>omega
      case rel=>
       obtain⟨_,fall,hQs,hg7⟩:=H8.out;obtain⟨o8,in8,so8,st8,f8,mem8⟩:=H9.out;obtain⟨_,_,hla,hra,hf,htk,_⟩:=HJ.out;have el:l8=row sl (t+1+1):=qtf H4.out.2.2.1 (qjk _ (qiw sl H4.out.2.2.1 _)) so8 st8;rw[el]at in8;refine⟨t+1,g7,n+k3,cp7,ms8,rfl,by go_num,by omega,⟨o8,in8,λm hm x hx=>?_,by omega⟩,(hf.trans fall).step f8 λx hx=>.inr ?_⟩
       ·rcases qbd.1 (mem8 m hm) with q|q
        ·exact hla.off m q x hx
        ·have:=H5.o3 m q x hx;omega
       ·simp only[qaz]at hx;rw[hx];exact qan hf.size hg7
     ·obtain rfl:t=L1:=by omega
      have ok:=zcl (cs:=cs) hL1 hL15 H4.out.2.2.1 (by rw[<-H.out.2.2.1];exact H4.out.2.2.2.1) (by rw[<-H.out.2.2.1,<-HI.out.1];omega) (by rw[<-H.out.2.2.1];exact H.out.2.2.2);obtain⟨R,hR⟩:=zex (row sl L);rw[show t+1=L from by have:=HL1.out;omega,<-hR]at hra;rw[<-hR,HA.out.1.len.2]at ok;obtain⟨m,hm⟩:=zex (2*n-2);rw[<-hm]at ok;have hnb2:n2≤800:=by have:=qiy sl L;rw[<-hR,hra.len.2,HA.out.1.len.2]at this;omega
      have hmn:m≤n2:=by have:=ok.1;rw[hra.len.2]at this;exact this
      have e4:2*(n:Int)-2=(m:Int):=by omega
      have hrb:∀c∈R,c.2.length≤32768:=λc hc=>by rw[hR]at hc;have:=(qgo sl (2^30) 1 HA.out.2.2.1 L c hc).2;have h15:2^L≤2^15:=qax (by decide) hL15;omega
      have hcap:n2≤cp2∧cp2≤maxLen:=(qgb hra.own (by omega)).choose_spec.2;have hcapb:n2≤cp2:=hcap.1;have hmc:m≤cp2:=by omega
      have hcp2:cp2≤9223372036854775807:=hcap.2;have hsy:∀c∈R,∀x∈c.2,x<i:=λc hc=>by rw[hR]at hc;refine qnk sl (·<i) (λc hc x hx=>?_) L c hc;have h2:=(H4.out.2.2.2.1.mem c).1 hc;simp only[coinsTo,qb8]at h2;obtain⟨s,hs,rfl⟩:=h2;simp only[qaz]at hx;rw[hx];exact (qd8.1 hs).1
      have HK:=zhd7 ok.2.2 hra (HA.out.2.1.fr hf (by simp)) (HA.out.2.2.2.trans hf) hrb hsy htk;clear ok hra hf htk hrb hR hm hcap hsy;obtain⟨wo,rfl⟩:∃wo:World,wo=wr:=⟨_,rfl⟩;go_wp2;go_loopg [15,17,101,108] m (λk s15 s17 s101 s108 wr=>∃t:Nat,s101 = .int .i64 (t:Nat)∧t+k=m∧Ow wr Q i (λs=>(ins (R.take t)).count s)∧Fr [Q] wo wr);case atStart=>exact⟨0,rfl,by omega,HK.out.2.2.1.congr λs _=>by simp[ins],.refl _ _⟩
      case round=>
       obtain⟨t,rfl,htk,how,hf⟩:=hrel;by_cases ht:t<m
       ·obtain⟨k,rfl⟩:∃k,gk=k+1:=⟨gk-1,by omega⟩;have hra:=HK.out.2.1.frQ hf;obtain⟨mc,hmc⟩:∃mc,ms2[t]?=some mc:=⟨_,qaf (by rw[hra.len.1];omega)⟩;obtain⟨c,hc⟩:∃c,R[t]?=some c:=⟨_,qaf (by rw[hra.len.2];omega)⟩;have hIn:=hra.ins.2 t mc c hmc hc;have hd:=qe6 ms2 t mc hmc;have d0:wr.cell? ⟨g2,t*2,none⟩=some (.int .i64 (mc.worth:Nat)):=by rw[<-hd.1];exact qb4 hra.own _ (by omega)
        have d1:wr.cell? ⟨g2,t*2+1,none⟩=some (.slice mc.ao mc.len mc.cap):=by rw[<-hd.2];exact qb4 hra.own _ (by omega)
        obtain⟨b,A,eb,hb,hbl,hbc⟩:=hIn.shape;have hoff:b≠Q:=hra.off mc (qa6 hmc) b (by rw[eb];simp[blk]);have hml:=hIn.len;have hcl:c.2.length≤32768:=HK.out.2.2.2.2.1 c (qa6 hc);have hcs:=HK.out.2.2.2.2.2.1 c (qa6 hc);have hown:=hIn.own;have htake:ins (R.take (t+1))=ins (R.take t)++c.2:=by rw[List.take_add_one,hc,ins_append];simp[ins]
        have hil:(ins (R.take t)).length≤800*32768:=by
         have h1:=zcp (R.take t) 32768 (λc hc=>HK.out.2.2.2.2.1 c (qbu hc));have h2:(R.take t).length≤800:=by rw[qar];omega
         exact qan h1 (qcy _ h2)
        obtain⟨mw,mao,ml,mcp⟩:=mc;simp only at eb hml hown hbl hbc d0 d1;subst eb;obtain⟨W1,hW1⟩:∃W1,W1=wr.alloc (.cells #[.int .i64 (mw:Nat),.slice (some ⟨b,0,none⟩) ml mcp] 206 (0,0)):=⟨_,rfl⟩;have fA:Fr [] wr W1:=by rw[hW1];exact (Fr.refl [] wr).alloc _
        have hfA:Fr [Q] wo W1:=by rw[hW1];exact hf.alloc _
        have HJ:=zhd8 (how.fr fA (by simp)) (qa7 hown fA (by simp)) hcs htake hil hml htk hfA;have hmlb:ml≤32768:=by omega
        clear how hf hIn hd hb hown hmc hc hcs htake hil htk hra fA hfA hml;have HW1:=zhd hW1.symm;clear hW1;go_upto_block 8 with fail;rw[HW1.out];go_wp2;go_loopg [17,108] ml (λk s17 s108 wr=>∃u:Nat,s108 = .int .i64 (u:Nat)∧u+k=ml∧Ow wr Q i (λs=>(ins (R.take t)++c.2.take u).count s)∧Fr [Q] W1 wr);case atStart=>exact⟨0,rfl,by omega,HJ.out.1.congr λs _=>by simp,.refl _ _⟩
        case round=>
         obtain⟨u,rfl,huk,how,hf⟩:=hrel;by_cases hu:u<ml
         ·obtain⟨k2,rfl⟩:∃k2,gk=k2+1:=⟨gk-1,by omega⟩;have hown:=qa7 HJ.out.2.1 hf (by intro k hk;simp only[Value.ownBlock,qas]at hk;subst hk;simpa using hoff);obtain⟨s,hs⟩:∃s,c.2[u]?=some s:=⟨_,qaf (by have:=HJ.out.2.2.2.2.2.1;omega)⟩;have d2:wr.cell? ⟨b,u,none⟩=some (.int .i64 s):=by have:=qb4 hown u (by omega);rw[this];simp[ints,hs]
          have hsi:=HJ.out.2.2.1 s (qa6 hs);have d3:=how.cell hsi;have z3:=how.frozen s;obtain⟨F,hF⟩:=zex ((ins (R.take t)++c.2.take u).count s);have hFb:F≤30000000:=by rw[hF];have h1:=qhf (a:=s) (l:=ins (R.take t)++c.2.take u);rw[qab,qar]at h1;have:=HJ.out.2.2.2.2.1;omega
          rw[<-hF]at d3;have hset:=how.set hsi (F+1);have fS:=hf.setCell (p:=⟨Q,s,none⟩) (by simp) (.int .i64 ((F+1:Nat):Nat));have HL:=zhd5 hset fS hF hs huk;clear how hf hown hs hset fS hF huk;go_wp2;go_roundg k2;case measure=>omega
          case rel=>
           obtain⟨hset,fS,hF,hs,huk⟩:=HL.out;refine⟨u+1,by go_num,by omega,?_,?_⟩
           ·refine Ow.congr ?_ (F:=λt'=>if t'=s then F+1 else (ins (R.take t)++c.2.take u).count t') λs' _=>?_
            ·first|exact hset|simpa using hset
            ·rw[List.take_add_one,hs,Option.toList_some,<-qat,qe1];by_cases e:s'=s
             ·subst e;rw[if_pos rfl,hF];simp[qcu]
             ·rw[if_neg e];simp[qgh e]
           ·first|exact fS|simpa using fS
         ·obtain rfl:u=ml:=by omega
          have HL:=zhd2 how hf;clear how hf huk;go_wp2;go_roundg k;case measure=>omega
          case rel=>obtain⟨_,_,_,htake,_,hml,htk,hfA⟩:=HJ.out;refine⟨t+1,by go_num,by omega,HL.out.1.congr λs _=>?_,hfA.trans HL.out.2⟩;rw[qa9 (l:=c.2) (by omega),htake]
       ·obtain rfl:t=m:=by omega
        have HJ:=zhd2 how hf;clear how hf htk;go_wp2;go_ret2;obtain⟨ok,hra,_,fw,_⟩:=HK.out;exact HJ.out.1.good H.out.2.2.1 ok (by rw[HQ.out];exact HI.out.2.1.fr.size) (fw.step HJ.out.2 λx hx=>.inr (by simp at hx;rw[hx,HQ.out];exact HI.out.2.1.fr.size))
end Go.Proofs.YtbabjlohkniciaaGreatDoor.huf
namespace Go.Proofs.YtbabjlohkniciaaGreatDoor.defl
open Go Go.RowKit lib bm mat huf
theorem qpa {n:Nat} (h11:11≤n) (h:n<258):∃w,1≤w∧w≤5∧4*2^w≤n-3∧n-3<8*2^w:=by
 obtain h|h:n<19∨19≤n:=by omega
 ·exact⟨1,by omega,by omega,by omega,by omega⟩
 obtain h|h:n<35∨35≤n:=by omega
 ·exact⟨2,by omega,by omega,by omega,by omega⟩
 obtain h|h:n<67∨67≤n:=by omega
 ·exact⟨3,by omega,by omega,by omega,by omega⟩
 obtain h|h:n<131∨131≤n:=by omega
 ·exact⟨4,by omega,by omega,by omega,by omega⟩
 exact⟨5,by omega,by omega,by omega,by omega⟩
theorem qpm {n:Nat} (h5:5≤n) (h:n≤32768):∃w,1≤w∧w≤13∧2*2^w≤n-1∧n-1<4*2^w:=by
 have h0:n-1≠0:=by omega
 have h1:2≤Nat.log2 (n-1):=(Nat.le_log2 h0).2 (by omega);have h2:Nat.log2 (n-1)<15:=(Nat.log2_lt h0).2 (by omega);have h3:=(Nat.le_log2 h0 (k:=Nat.log2 (n-1))).1 (qag _);have h4:=(Nat.log2_lt h0 (k:=Nat.log2 (n-1)+1)).1 (by omega);obtain⟨v,hv⟩:∃v,Nat.log2 (n-1)=v+1:=⟨Nat.log2 (n-1)-1,by omega⟩;rw[hv]at h1 h2 h3 h4;rw[qcr]at h3 h4;rw[qcr]at h4;exact⟨v,by omega,by omega,by omega,by omega⟩
theorem qia {n:Nat} (h3:3≤n) (h258:n≤258):257≤(lcode n).1∧(lcode n).1<286∧(lcode n).2.2≤5∧(lcode n).2.1<2^(lcode n).2.2:=by
 by_cases h11:n<11
 ·unfold lcode;rw[if_pos h11];simp only;omega
 ·by_cases h8:n=258
  ·subst h8;decide
  ·obtain⟨w,h1,h2,h4,h5⟩:=qpa (by omega) (show n<258 by omega);rw[qnt (w:=w) (by omega) h8 h4 h5];have hp:=qbj w;have:(n-3)/2^w<8:=(qdl hp).2 h5;have:4≤(n-3)/2^w:=(Nat.le_div_iff_mul_le hp).2 h4;refine⟨by simp only;omega,by simp only;omega,h2,qd4 _ hp⟩
theorem qig {n:Nat} (h1:1≤n) (h:n≤32768):(dcode n).1<30∧(dcode n).2.2≤13∧(dcode n).2.1<2^(dcode n).2.2:=by
 by_cases h5:n<5
 ·unfold dcode;rw[if_pos h5];simp only;omega
 ·obtain⟨w,k1,k2,k4,k5⟩:=qpm (by omega) h;rw[qn5 (w:=w) (by omega) k4 k5];have hp:=qbj w;have:(n-1)/2^w<4:=(qdl hp).2 k5;exact⟨by simp only;omega,k2,qd4 _ hp⟩
def tsym:Tok→Nat
 | .lit c=>c.toNat
 | .mat n _=>(lcode n).1
def dsym:Tok→Option Nat
 | .lit _=>none
 | .mat _ d=>some (dcode d).1
def lcnt (t:List Tok) (s:Nat):Nat:=(t.map tsym).count s
def dcnt (t:List Tok) (s:Nat):Nat:=(t.filterMap dsym).count s
theorem qlc (t:List Tok) (s:Nat):lcnt t s≤t.length:=by have:=qhf (a:=s) (l:=t.map tsym);rw[qa8]at this;exact this
theorem qxs (t:List Tok) (s:Nat):dcnt t s≤t.length:=by have:=qhf (a:=s) (l:=t.filterMap dsym);exact qan this (List.length_filterMap_le _ _)
theorem qsg (t:List Tok) (x:Tok) (s:Nat):lcnt (t++[x]) s=if s=tsym x then lcnt t s+1 else lcnt t s:=by
 unfold lcnt;rw[qbt,qe1];by_cases h:s=tsym x
 ·subst h;simp
 ·rw[if_neg h];simp[qgh h]
theorem zaq (t:List Tok) (c:UInt8) (s:Nat):dcnt (t++[.lit c]) s=dcnt t s:=by unfold dcnt;rw[List.filterMap_append,show List.filterMap dsym [Tok.lit c]=[] from rfl,qb0]
theorem zap (t:List Tok) (n d s:Nat):dcnt (t++[.mat n d]) s=if s=(dcode d).1 then dcnt t s+1 else dcnt t s:=by
 unfold dcnt;rw[List.filterMap_append,qe1];by_cases h:s=(dcode d).1
 ·subst h;simp[dsym]
 ·rw[if_neg h];simp[dsym,qgh h]
structure Cn (p1 p2 Q1 Q2:Nat) (t:List Tok) (w:World):Prop where
 c1:w.cell? ⟨p1,0,none⟩=some (.slice (some ⟨Q1,0,none⟩) 286 286)
 c2:w.cell? ⟨p2,0,none⟩=some (.slice (some ⟨Q2,0,none⟩) 30 30)
 o1:Ow w Q1 286 (lcnt t)
 o2:Ow w Q2 30 (dcnt t)
 n1:p1≠Q1∧p1≠Q2∧p2≠Q1∧p2≠Q2∧Q1≠Q2
theorem qx0 (p1 p2 Q1 Q2:Nat) (t:List Tok) (c:UInt8) (w:World) (h:Cn p1 p2 Q1 Q2 t w) (ht:t.length≤1000000) :
  Calls Tryz.prog 130 #[.int .u8 c.toNat,.pointer none,.pointer (some ⟨p1,0,none⟩),.pointer (some ⟨p2,0,none⟩)] w λe w'=>e = .returned (.tuple #[])∧Cn p1 p2 Q1 Q2 (t++[.lit c]) w'∧Fr [Q1,Q2] w w':=by
 obtain⟨s,hs⟩:=zex c.toNat;have hs2:s<256:=by rw[hs];exact qbo _
 rw[<-hs];have d1:=h.c1;have d3:=h.o1.cell (show s<286 by omega);have z3:=h.o1.frozen s;have hb:=qlc t s;obtain⟨F,hF⟩:=zex (lcnt t s);rw[<-hF]at d3 hb;have hset:=h.o1.set (show s<286 by omega) (F+1);have H:=zhd4 h hs hF hset;clear h hs hF hset;go_enter Tryz.func130,Tryz.ntmps130;go_wp2;refine bodyPost_ret (results_none rfl _ _ _) rfl ?_;obtain⟨h,hs,hF,hset⟩:=H.out;refine⟨rfl,⟨?_,?_,hset.congr λx _=>?_,?_,h.n1⟩,(Fr.refl _ w).setCell (by simp) _⟩
 ·exact ((Fr.refl [Q1] w).setCell (by simp) _).cell h.c1 (by simpa using h.n1.1)
 ·exact ((Fr.refl [Q1] w).setCell (by simp) _).cell h.c2 (by simpa using h.n1.2.2.1)
 ·rw[qsg,hF];show (if x=s then _ else _)=if x=c.toNat then _ else _
  rw[hs];by_cases e:x=c.toNat
  ·rw[if_pos e,if_pos e,e]
  ·rw[if_neg e,if_neg e]
 ·refine (h.o2.fr ((Fr.refl [Q1] w).setCell (by simp) _) (by simpa using (qgh h.n1.2.2.2.2))).congr λx _=>(zaq t c x).symm
theorem qxz (p1 p2 Q1 Q2 g o:Nat) (t:List Tok) (n d:Nat) (w:World) (h:Cn p1 p2 Q1 Q2 t w) (ht:t.length≤1000000) (h3:3≤n) (h258:n≤258) (h1:1≤d) (hd:d≤32768)
  (hg:g≠Q1∧g≠Q2) (e1:w.cell? ⟨g,o+1,none⟩=some (.int .i64 n)) (e2:w.cell? ⟨g,o+2,none⟩=some (.int .i64 d)) :
  Calls Tryz.prog 130 #[.int .u8 0,.pointer (some ⟨g,o,none⟩),.pointer (some ⟨p1,0,none⟩),.pointer (some ⟨p2,0,none⟩)] w λe w'=>e = .returned (.tuple #[])∧Cn p1 p2 Q1 Q2 (t++[.mat n d]) w'∧Fr [Q1,Q2] w w':=by
 have hl:=qg5 n w h3 h258;have hlt:=qia h3 h258;have hdt:=qig h1 hd;unfold Triple at hl;obtain⟨s,hs⟩:=zex ((lcode n).1);obtain⟨s2,hs2⟩:=zex ((dcode d).1);rw[<-hs]at hl hlt;rw[<-hs2]at hdt;have hsl:s<286:=hlt.2.1;have hsl2:s2<30:=hdt.1;obtain⟨F,hF⟩:=zex (lcnt t s);obtain⟨G,hG⟩:=zex (dcnt t s2);have hFb:F≤1000000:=by rw[hF];exact qan (qlc _ _) ht
 have hGb:G≤1000000:=by rw[hG];exact qan (qxs _ _) ht
 have H:=zhd10 h hs hs2 hF hG hl hg h1 hd e2;clear h hs hs2 hF hG hl hlt hdt ht h3 h258 h1 hd e2 hg;go_enter Tryz.func130,Tryz.ntmps130;go_upto_region 3 with (go_at_call 131;refine H.out.2.2.2.2.2.1.mono ?_;rintro e w1 ⟨rfl,f1⟩;have H1:=zhd f1;clear f1);clear e1;have h1:=H.out.1;have d1:=H1.out.cell h1.c1 (by simp);have o1:=h1.o1.fr H1.out (by simp);have d3:=o1.cell hsl;rw[<-H.out.2.2.2.1]at d3;have z3:=o1.frozen s;have hset:=o1.set hsl (F+1);obtain⟨w2,hw2⟩:∃w2,w2=w1.setCell ⟨Q1,s,none⟩ (.int .i64 ((F+1:Nat):Nat)):=⟨_,rfl⟩;rw[<-hw2]at hset;have f2:Fr [Q1] w w2:=by rw[hw2];exact (H1.out.mono (by simp)).setCell (by simp) _
 have H2:=zhd3 hset f2 hw2.symm;clear h1 o1 hset hw2 f2;go_upto_region 4 with fail;clear d1 d3 z3;have hw:w1.setCell ⟨Q1,s,none⟩ (.int .i64 ((F:Int)+1))=w2:=by rw[<-H2.l2];rfl
 rw[hw];clear hw;have e2:=H2.o1.cell H.out.2.2.2.2.2.2.2.2.2 (by simpa using H.out.2.2.2.2.2.2.1.1);have hdi:=qfh d w2 H.out.2.2.2.2.2.2.2.1 H.out.2.2.2.2.2.2.2.2.1;unfold Triple at hdi;rw[<-H.out.2.2.1]at hdi;have HD:=zhd hdi;clear hdi;go_upto_region 5 with (go_at_call 132;refine HD.out.mono ?_;rintro e w3 ⟨rfl,f3⟩;have H3:=zhd f3;clear f3);clear e2;have h1:=H.out.1;have f23:=H2.o1.trans (H3.out.mono (by simp));have d2:=f23.cell h1.c2 (by simpa using h1.n1.2.2.1);have o2:=h1.o2.fr f23 (by simpa using (qgh h1.n1.2.2.2.2));have d4:=o2.cell hsl2;rw[<-H.out.2.2.2.2.1]at d4;have z4:=o2.frozen s2;have hset:=o2.set hsl2 (G+1);have H4:=zhd2 hset f23;clear h1 f23 o2 hset;go_wp2;(try simp only[Exit.inBlock,Exit.then]);refine bodyPost_end (results_none rfl _ _ _) rfl ?_;obtain⟨h,hs,hs2,hF,hG,_⟩:=H.out;obtain⟨set2,f23⟩:=H4.out;have set1:=H2.o0;refine⟨rfl,⟨?_,?_,?_,?_,h.n1⟩,(f23.mono (by simp)).setCell (by simp) _⟩
 ·exact ((f23.mono (T:=[Q1,Q2]) (by simp)).setCell (by simp) _).cell h.c1 (by simpa using⟨h.n1.1,h.n1.2.1⟩)
 ·exact ((f23.mono (T:=[Q1,Q2]) (by simp)).setCell (by simp) _).cell h.c2 (by simpa using⟨h.n1.2.2.1,h.n1.2.2.2.1⟩)
 ·refine ((set1.fr H3.out (by simp)).fr ((Fr.refl [Q2] w3).setCell (by simp) _) (by simpa using h.n1.2.2.2.2)).congr λx _=>?_
  rw[qsg,hF];show (if x=s then _ else _)=if x=(lcode n).1 then _ else _
  rw[<-hs];by_cases e:x=s
  ·rw[if_pos e,if_pos e,e]
  ·rw[if_neg e,if_neg e]
 ·refine set2.congr λx _=>?_
  rw[zap,hG];show (if x=s2 then _ else _)=if x=(dcode d).1 then _ else _
  rw[<-hs2];by_cases e:x=s2
  ·rw[if_pos e,if_pos e,e]
  ·rw[if_neg e,if_neg e]
theorem qlu {fn:Func} {p u:Tmp} {t1 t2:TypeId} (h:fn.results=#[.cell p t1,.cell u t2]) (tmps:Array Value) (P:Program) (w:World) (g1 g2:Nat) (v1 v2:Value)
  (e1:tmps.getD p undef = .pointer (some ⟨g1,0,none⟩)) (e2:tmps.getD u undef = .pointer (some ⟨g2,0,none⟩)) (l1:(loadVar t1 ⟨g1,0,none⟩).run P w = .ok v1 w) (l2:(loadVar t2 ⟨g2,0,none⟩).run P w = .ok v2 w) :
  (results fn tmps).run P w = .ok (.tuple #[v1,v2]) w:=by
 have e1':tmps[p]?.getD undef = .pointer (some ⟨g1,0,none⟩):=by simpa using e1
 have e2':tmps[u]?.getD undef = .pointer (some ⟨g2,0,none⟩):=by simpa using e2
 simp only[results,h];simp[qus,e1',e2',asAddr,l1,l2,Result.andThen]
theorem qfu {w:World} {g:Nat} {v:Value} (h:w.cell? ⟨g,0,none⟩=some v):(loadVar 128 ⟨g,0,none⟩).run Tryz.prog w = .ok v w:=by have h1:=Tryz.isAgg128;simp[loadVar,h1,h]
theorem qk7 (n:Nat) (h:n≤1000000):∃Z:Array Value,Z.size=n∧(∀s,s<n→Z[s]?=some (.int .i64 0))∧∀w:World,(Instr.makeSlice 128 (.int .i64 (n:Nat)) (.int .i64 (n:Nat))).run Tryz.prog w = .ok (.slice (some ⟨w.heap.size,0,none⟩) n n) (w.alloc (.cells Z 3)):=by
 obtain⟨i,hi,hz,hs,hb⟩:=info_parts qnw;refine⟨madeCells (Value.int .i64 0).cells n,size_madeCells _ _,λs hs'=>?_,λw=>?_⟩
 ·rw[<-qci,show (Value.int .i64 0).cells=#[.int .i64 0] from rfl,toList_madeCells_one,qfb,if_pos hs']
 ·have:=run_make (P:=Tryz.prog) w 128 3 i (.int .i64 0) Tryz.underlying128 hi hz .i64 .i64 (n:Nat) (n:Nat) (by omega) (Int.le_refl _) (by rw[hb];omega) (by omega);rw[hs,qc8,qdi]at this;exact this
theorem qrr {w1:World} {p1 p2:Nat} {x1 x2 v1 v2:Value} {T1 T2:TypeId} {Za Zb:Array Value} {T:TypeId} (b1:w1.heap[p1]?=some (.cells #[x1] T1 (0,0))) (b2:w1.heap[p2]?=some (.cells #[x2] T2 (0,0))) (hp:p1≠p2) :
  ∃W,W=((((w1.setCell ⟨p1,0,none⟩ v1).setCell ⟨p2,0,none⟩ v2).alloc (.cells Za T)).alloc (.cells Zb T)).drew∧W.heap[p1]?=some (.cells #[v1] T1 (0,0))∧W.heap[p2]?=some (.cells #[v2] T2 (0,0))∧
   W.heap[w1.heap.size]?=some (.cells Za T (0,0))∧W.heap[w1.heap.size+1]?=some (.cells Zb T (0,0))∧Fr [p1,p2] w1 W:=by
 refine⟨_,rfl,?_,?_,?_,?_,?_⟩
 ·have k1:=qa0 (o:=0) b1 v1;have k2:=alloc_old (.cells Zb T) (alloc_old (.cells Za T) ((qey (o:=0) hp v2).trans k1));exact k2
 ·have k1:=qa0 (o:=0) ((qey (o:=0) (qgh hp) v1).trans b2) v2;have k2:=alloc_old (.cells Zb T) (alloc_old (.cells Za T) k1);exact k2
 ·have k1:=qa4 ((w1.setCell ⟨p1,0,none⟩ v1).setCell ⟨p2,0,none⟩ v2) (.cells Za T);rw[World.size_setCell,World.size_setCell]at k1;exact alloc_old (.cells Zb T) k1
 ·have k1:=qa4 (((w1.setCell ⟨p1,0,none⟩ v1).setCell ⟨p2,0,none⟩ v2).alloc (.cells Za T)) (.cells Zb T);rw[qav,World.size_setCell,World.size_setCell]at k1;exact k1
 ·exact (((((Fr.refl [p1,p2] w1).setCell (by simp) _).setCell (by simp) _).alloc _).alloc _).drew
def litc (b:List UInt8) (t:List Tok) (s:Nat):Nat:=lcnt t s+(if s=256 then 1 else 0)+(if b.length=0∧s=0 then 1 else 0)
def CountsGood (b:List UInt8) (t:List Tok) (w:World) (e:Ending) (w':World):Prop:=
 ∃Q1 Q2,e = .returned (.tuple #[.slice (some ⟨Q1,0,none⟩) 286 286,.slice (some ⟨Q2,0,none⟩) 30 30])∧Ow w' Q1 286 (litc b t)∧Ow w' Q2 30 (dcnt t)∧Fr [] w w'∧w.heap.size≤Q1∧w.heap.size≤Q2
theorem quk (b:List UInt8) (a al:Option Addr) (cap cl r:Nat) (l:List Mt) (litV distV:Value) (told:Bool) (w:World) (hlit1:litV.oneCell'=true) (hdist1:distV.oneCell'=true)
  (hb:Rd w a cap b) (hl:Cs w al (mcells l)) (hlc:l.length≤cl) (hln:al=none→cl=0) (hcm:cl≤maxLen) (hch:Chain b r 0 l) (hr:r≤32768) (hblen:b.length≤1000000) (hlo:∀x∈blk a,x<w.heap.size) (hll:∀x∈blk al,x<w.heap.size) :
  Calls Tryz.prog 83 #[boxT a al b.length cap l.length cl litV distV told] w (CountsGood b (toks b 0 l) w):=by
 obtain⟨Z1,hz1,hZ1,mk1⟩:=qk7 286 (by decide);obtain⟨Z2,hz2,hZ2,mk2⟩:=qk7 30 (by decide);have mka:∀w:World,(Instr.makeSlice 128 (.int .i64 286) (.int .i64 286)).run Tryz.prog w = .ok (.slice (some ⟨w.heap.size,0,none⟩) 286 286) (w.alloc (.cells Z1 3)):=mk1;have mkb:∀w:World,(Instr.makeSlice 128 (.int .i64 30) (.int .i64 30)).run Tryz.prog w = .ok (.slice (some ⟨w.heap.size,0,none⟩) 30 30) (w.alloc (.cells Z2 3)):=mk2;clear mk1 mk2;obtain⟨B,hB⟩:=zex w.heap.size;obtain⟨w1,hw1⟩:=zex (((w.alloc (.cells #[.slice a b.length cap,.slice al l.length cl,litV,distV,.bool told] 130 (0,0))).alloc (.cells #[.slice none 0 0] 128 (0,0))).alloc (.cells #[.slice none 0 0] 128 (0,0)));have f1:Fr [] w w1:=by rw[hw1];exact (((Fr.refl [] w).alloc _).alloc _).alloc _
 have hs1:w1.heap.size=B+3:=by rw[hw1,qav,qav,qav,<-hB]
 have hbox:w1.heap[B]?=some (.cells #[.slice a b.length cap,.slice al l.length cl,litV,distV,.bool told] 130 (0,0)):=by rw[hw1,hB];exact alloc_old _ (alloc_old _ (qa4 w _))
 have hp1:w1.heap[B+1]?=some (.cells #[.slice none 0 0] 128 (0,0)):=by rw[hw1,hB];refine alloc_old _ ?_;have:=qa4 (w.alloc (.cells #[.slice a b.length cap,.slice al l.length cl,litV,distV,.bool told] 130 (0,0))) (.cells #[.slice none 0 0] 128 (0,0));rwa [qav]at this
 have hp2:w1.heap[B+2]?=some (.cells #[.slice none 0 0] 128 (0,0)):=by rw[hw1,hB];have:=qa4 ((w.alloc (.cells #[.slice a b.length cap,.slice al l.length cl,litV,distV,.bool told] 130 (0,0))).alloc (.cells #[.slice none 0 0] 128 (0,0))) (.cells #[.slice none 0 0] 128 (0,0));rwa [qav,qav]at this
 have H:=zhd10 hb hl hlc hln hcm hch hr hblen hlo hll;have HW:=zhd7 hw1.symm f1 hs1 hbox hp1 hp2 hB;have HZ:=zhd4 hz1 hZ1 hz2 hZ2;clear hb hl hlc hln hcm hch hr hblen hlo hll hw1 f1 hs1 hbox hp1 hp2 hz1 hZ1 hz2 hZ2 hB;unfold boxT;go_enter Tryz.func83,Tryz.ntmps83;go_upto_region 1 with fail;rw[HW.o0,<-HW.l6,show B+1+1=B+2 from rfl];obtain⟨p1,hp1⟩:=zex (B+1);obtain⟨p2,hp2⟩:=zex (B+2);obtain⟨S1,hS1⟩:=zex w1.heap.size;rw[<-hp1,<-hp2];have b1:w1.heap[p1]?=some (.cells #[.slice none 0 0] 128 (0,0)):=by rw[hp1];exact HW.o4
 have b2:w1.heap[p2]?=some (.cells #[.slice none 0 0] 128 (0,0)):=by rw[hp2];exact HW.o5
 have hs1:=HW.o2;have hpp:p1≠p2:=by omega
 have HP:=zhd6 hp1 hp2 hS1 hs1 b1 b2;go_cut [4,5] from 4 to 6 (λs4 s5 wz=>∃Q1 Q2,s4 = .slice (some ⟨Q1,0,none⟩) 286 286∧s5 = .slice (some ⟨Q2,0,none⟩) 30 30∧wz.heap[p1]?=some (.cells #[.slice (some ⟨Q1,0,none⟩) 286 286] 128 (0,0))∧wz.heap[p2]?=some (.cells #[.slice (some ⟨Q2,0,none⟩) 30 30] 128 (0,0))∧
  Ow wz Q1 286 (λ_=>0)∧Ow wz Q2 30 (λ_=>0)∧Q1≠Q2∧w1.heap.size≤Q1∧w1.heap.size≤Q2∧Fr [p1,p2] w1 wz)
 case first=>
  have c1:=cell_of b1 0;have c2:=cell_of b2 0;have z1:=qay b1 0;have z2:=qay b2 0;simp only[qae,qaa]at c1 c2;have hl1:=lt_of_block b1;have hl2:=lt_of_block b2;have hn1:¬p1=w1.heap.size:=by omega
  have hn2:¬p2=w1.heap.size:=by omega
  have hn3:¬p1=w1.heap.size+1:=by omega
  have hn4:¬p2=w1.heap.size+1:=by omega
  clear b1 b2 hp1 hp2 hS1 hs1;go_region;all_goals go_wp2
  all_goals go_meet
  ·obtain⟨W,hW,k1,k2,k3,k4,k5⟩:=qrr (v1:=.slice (some ⟨w1.heap.size,0,none⟩) 286 286) (v2:=.slice (some ⟨w1.heap.size+1,0,none⟩) 30 30) (Za:=Z1) (Zb:=Z2) (T:=3) HP.out.2.2.2.2.1 HP.out.2.2.2.2.2 hpp;rw[<-hW];exact⟨_,_,rfl,rfl,k1,k2,⟨Z1,k3,HZ.o0,HZ.o1⟩,⟨Z2,k4,HZ.o2,HZ.l3⟩,by omega,by omega,by omega,k5⟩
  ·obtain⟨W,hW,k1,k2,k3,k4,k5⟩:=qrr (v1:=.slice (some ⟨w1.heap.size+1,0,none⟩) 286 286) (v2:=.slice (some ⟨w1.heap.size,0,none⟩) 30 30) (Za:=Z2) (Zb:=Z1) (T:=3) HP.out.2.2.2.2.1 HP.out.2.2.2.2.2 hpp;rw[<-hW];exact⟨_,_,rfl,rfl,k1,k2,⟨Z1,k4,HZ.o0,HZ.o1⟩,⟨Z2,k3,HZ.o2,HZ.l3⟩,by omega,by omega,by omega,k5⟩
 case rest=>
 obtain⟨Q1,Q2,rfl,rfl,k1b,k2b,o1,o2,k6,k7,k8,k9⟩:=hcut;have k1:=cell_of k1b 0;have k2:=cell_of k2b 0;simp only[qae,qaa]at k1 k2;have hbx:=k9.blk HW.o3 (by have:=HP.out.1;have:=HP.out.2.1;simp;omega);have f0:=HW.o1;obtain⟨wo,hwo⟩:∃wo:World,wo=wc:=⟨_,rfl⟩;rw[<-hwo]at k1 k2 k1b k2b o1 o2 k9 hbx ⊢;have f9:Fr [] w wo:=f0.step k9 λx hx=>.inr (by have:=HW.l6;have:=HP.out.1;have:=HP.out.2.1;simp at hx;omega)
 obtain⟨hb,hl,hlc,hln,hcm,hch,hr,hblen,hlo,hll⟩:=H.out;have hsz:=HW.o2;have hBz:=HW.l6;have hpz1:=HP.out.1;have hpz2:=HP.out.2.1;have hQz:Q1<wo.heap.size∧Q2<wo.heap.size:=by obtain⟨A,hA,_⟩:=o1;obtain⟨A2,hA2,_⟩:=o2;exact⟨lt_of_block hA,lt_of_block hA2⟩
 have hea:=qsz 130 #[.pointer (some ⟨p1,0,none⟩),.pointer (some ⟨p2,0,none⟩)] (λ_ _=>by kernel_rfl)
  (λt F w'=>F=[Q1,Q2]∧Cn p1 p2 Q1 Q2 t w') [Q1,Q2] b a al cap cl r l litV distV told wo hlit1 hdist1
  (hb.fr f9) (hl.fr f9 (by simp)) hlc hln hcm hch hr hblen
  (λx hx=>by
   have e:x=Q1∨x=Q2:=by simpa using hx
   refine⟨by omega,λh=>?_,λh=>?_⟩
   ·have:=hlo x h;omega
   ·have:=hll x h;omega)
  (λw' f=>⟨rfl,f.cell k1 (by simp),f.cell k2 (by simp),(o1.fr f (by simp)).congr λs _=>by simp[lcnt],(o2.fr f (by simp)).congr λs _=>by simp[dcnt],by omega,by omega,by omega,by omega,k6⟩)
  (λt F c w' ht ⟨hF,hc⟩=>by
   refine (qx0 p1 p2 Q1 Q2 t c w' hc (by omega)).mono ?_
   rintro e w2 ⟨rfl,h2,f2⟩
   exact⟨rfl,by rw[hF];exact f2,[Q1,Q2],⟨rfl,h2⟩,λy hy=>.inl (by rw[hF];exact hy)⟩)
  (λt F n d g o w' ht ⟨hF,hc⟩ h3 h258 h1 hd hg e1 e2=>by
   refine (qxz p1 p2 Q1 Q2 g o t n d w' hc (by omega) h3 h258 h1 hd (by rw[hF]at hg;simpa using hg) e1 e2).mono ?_
   rintro e w2 ⟨rfl,h2,f2⟩
   exact⟨rfl,by rw[hF];exact f2,[Q1,Q2],⟨rfl,h2⟩,λy hy=>.inl (by rw[hF];exact hy)⟩)
 unfold boxT at hea;have e0:=cell_of hbx 0;have e1:=cell_of hbx 1;have e2:=cell_of hbx 2;have e3:=cell_of hbx 3;have e4:=cell_of hbx 4;simp only[qae,qaa,qad]at e0 e1 e2 e3 e4;obtain⟨BL,hBL⟩:=zex b.length;obtain⟨LL,hLL⟩:=zex l.length;have HE:=zhd5 hea f9 hbx hBL hLL;have hpQ:p1≠Q1∧p1≠Q2:=by omega
 have hBQ:B≠Q1∧B≠Q2:=by omega
 have HN:=zhd4 hpQ hBQ (show w.heap.size≤Q1 by omega) (show w.heap.size≤Q2 by omega);rw[<-hBL]at e0 ⊢;rw[<-hLL]at e1 ⊢;have HE1:Hid _:=zhd hea;rw[<-hBL,<-hLL]at HE1;have hblen1:BL≤1000000:=by omega
 have HKB:=zhd2 k1b k2b;have HT:=zhd (show (toks b 0 l).length≤1000000 from qan (qh1 b 0 l) (by omega));clear k1b k2b hea hBL hLL hb hl hlc hln hcm hch hr hblen hlo hll k1 k2 o1 o2 k6 k7 k8 k9 f9 hbx f0 hpQ hBQ hQz hsz hBz hpz1 hpz2 hp1 hp2 hS1 hs1 b1 b2 hpp mka mkb hwo;go_upto_region 3 with (go_at_call 129;refine HE1.out.mono ?_;rintro e w3 ⟨rfl,f3,F,⟨hF,hc⟩,hFn⟩;have H3:=zhd2 f3 hc;clear f3 hF hc hFn);clear e0 e1 e2 e3 e4;have hc:=H3.l1;have d1:=hc.c1;have d3:=hc.o1.cell (show 256<286 by decide);have z3:=hc.o1.frozen 256;obtain⟨F,hF⟩:=zex (lcnt (toks b 0 l) 256);have hFb:F≤1000000:=by rw[hF];exact qan (qlc _ _) HT.out
 rw[<-hF]at d3;have hset:=hc.o1.set (show 256<286 by decide) (F+1);have H4:=zhd2 hset hF;clear hset hF hc;go_upto_region 4 with fail;clear d1 d3 z3;obtain⟨w4,hw4⟩:∃w4,w4=w3.setCell ⟨Q1,256,none⟩ (.int .i64 ((F:Int)+1)):=⟨_,rfl⟩;rw[<-hw4];have f34:Fr [Q1] w3 w4:=by rw[hw4];exact (Fr.refl [Q1] w3).setCell (by simp) _
 have fo4:Fr [Q1,Q2] wo w4:=H3.o0.trans (f34.mono (by simp));have c4:Cn p1 p2 Q1 Q2 (toks b 0 l) w3:=H3.l1;have hset:=H4.o0;rw[show (Value.int .i64 ((F+1:Nat):Int)) = .int .i64 ((F:Int)+1) from rfl,<-hw4]at hset;have o4:Ow w4 Q1 286 (λs=>lcnt (toks b 0 l) s+(if s=256 then 1 else 0)):=hset.congr λs _=>by
  by_cases e:s=256
  ·subst e;simp[H4.l1]
  ·simp[e]
 have e0:=cell_of (fo4.blk HE.o2 (by simpa using HN.o1)) 0;simp only[qae,qaa]at e0;rw[<-HE.o3]at e0;have H5:=zhd5 fo4 o4 (c4.o2.fr f34 (by simpa using (qgh c4.n1.2.2.2.2))) (f34.cell c4.c1 (by simpa using c4.n1.1)) (f34.cell c4.c2 (by simpa using c4.n1.2.2.1));clear f34 fo4 c4 hset o4 hw4;go_upto_if 17 with fail;go_cut [] from 17 to 23 (λwz=>Ow wz Q1 286 (litc b (toks b 0 l))∧Fr [Q1] w4 wz)
 case first=>
  by_cases h0:BL=0
  ·have q0:((BL:Int)==0)=true:=by simp[h0]
   have d1:=H5.o3;have d3:=H5.o1.cell (show 0<286 by decide);have z3:=H5.o1.frozen 0;obtain⟨G,hG⟩:=zex (lcnt (toks b 0 l) 0+(if 0=256 then 1 else 0));have hGb:G≤1000000:=by rw[hG];have:=qlc (toks b 0 l) 0;have:=HT.out;simp;omega
   rw[<-hG]at d3;have hset:=H5.o1.set (show 0<286 by decide) (G+1);have H6:=zhd2 hset hG;clear hset hG;go_wp2;go_meet;refine⟨?_,(Fr.refl [Q1] w4).setCell (by simp) _⟩;have hset:=H6.o0;rw[show (Value.int .i64 ((G+1:Nat):Int)) = .int .i64 ((G:Int)+1) from rfl]at hset;refine hset.congr λs _=>?_
   unfold litc;rw[<-HE.o3];by_cases e:s=0
   ·subst e;simp[H6.l1,h0]
   ·simp[e]
  ·have q0:((BL:Int)==0)=false:=by simp only[beq_eq_false_iff_ne];omega
   go_wp2;go_meet;refine⟨H5.o1.congr λs _=>?_,.refl _ _⟩;unfold litc;rw[<-HE.o3];simp[h0]
 case rest=>
 obtain⟨o5,f5⟩:=hcut;obtain⟨w5,hw5⟩:∃w5:World,w5=wc:=⟨_,rfl⟩;rw[<-hw5]at o5 f5 ⊢;have hn:=H3.l1.n1;have c1:=f5.cell H5.o3 (by simpa using hn.1);have c2:=f5.cell H5.l4 (by simpa using hn.2.2.1);have fo5:Fr [Q1,Q2] wo w5:=H5.o0.trans (f5.mono (by simp));have y1:=fo5.blk HKB.o0 (by simpa using⟨hn.1,hn.2.1⟩);have y2:=fo5.blk HKB.l1 (by simpa using⟨hn.2.2.1,hn.2.2.2.1⟩);have z1:=qay y1 0;have z2:=qay y2 0;have hpp2:p1≠p2:=by have:=HP.out.1;have:=HP.out.2.1;omega
 have HF:=zhd5 o5 f5 y1 y2 fo5;clear o5 f5 hn hw5 y1 y2 fo5;go_upto_region 6 with fail;go_region;all_goals go_wp2
 obtain⟨o5,f5,y1,y2,fo5⟩:=HF.out;have hn:=H3.l1.n1;obtain⟨W,hW⟩:=zex (((w5.setCell ⟨p1,0,none⟩ (.slice (some ⟨Q1,0,none⟩) 286 286)).setCell ⟨p2,0,none⟩ (.slice (some ⟨Q2,0,none⟩) 30 30)).drew);have fW:Fr [p1,p2] w5 W:=by rw[hW];exact (((Fr.refl [p1,p2] w5).setCell (by simp) _).setCell (by simp) _).drew
 have k1:W.cell? ⟨p1,0,none⟩=some (.slice (some ⟨Q1,0,none⟩) 286 286):=by rw[hW];exact (cell_of (w:=World.drew _) ((qey (o:=0) hpp2 _).trans (qa0 (o:=0) y1 _)) 0).trans (by simp)
 have k2:W.cell? ⟨p2,0,none⟩=some (.slice (some ⟨Q2,0,none⟩) 30 30):=by rw[hW];exact (cell_of (w:=World.drew _) (qa0 (o:=0) ((qey (o:=0) (qgh hpp2) _).trans y2) _) 0).trans (by simp)
 rw[<-hW];refine bodyPost_ret (qlu (g1:=p1) (g2:=p2) (v1:=.slice (some ⟨Q1,0,none⟩) 286 286) (v2:=.slice (some ⟨Q2,0,none⟩) 30 30) rfl _ _ _ rfl rfl ?_ ?_) rfl ?_
 ·exact qfu k1
 ·exact qfu k2
 ·refine⟨Q1,Q2,rfl,o5.fr fW (by simpa using⟨qgh hn.1,qgh hn.2.2.1⟩),?_,?_,HN.o2,HN.l3⟩
  ·exact (H5.o2.fr f5 (by simpa using qgh hn.2.2.2.2)).fr fW (by simpa using⟨qgh hn.2.1,qgh hn.2.2.2.1⟩)
  ·refine ((HE.o1.step fo5 λx hx=>.inr ?_).step fW λx hx=>.inr ?_)
   ·have e:x=Q1∨x=Q2:=by simpa using hx
    rcases e with rfl|rfl
    ·exact HN.o2
    ·exact HN.l3
   ·have e:x=p1∨x=p2:=by simpa using hx
    have:=HP.out.1;have:=HP.out.2.1;have:=HW.l6;omega
end Go.Proofs.YtbabjlohkniciaaGreatDoor.defl
namespace Go.Proofs.YtbabjlohkniciaaGreatDoor.bits
open Go Go.RowKit lib bm
def WrPost (p:Nat) (F:List Nat) (w:World) (M L:Nat) (e:Ending) (w':World):Prop:=
 e = .returned (.tuple #[])∧Fr F w w'∧∃F',Wr w' p F' M L∧∀y∈F',y∈F∨w.heap.size≤y
theorem qi0 (p:Nat) (F:List Nat) (M L:Nat) (x:Nat) (n:Int) (w:World) (hW:Wr w p F M L) (hx:x<4294967296) (hL:L≤562949953421312) :
  Calls Tryz.prog 238 #[.pointer (some ⟨p,0,none⟩),.int .u32 x,.int .i64 n] w (WrPost p F w (M+2^L*(x%2^(min n.toNat 32))) (L+min n.toNat 32)):=
 (zdd p F M L x n w hW hx hL).mono λ_ _ h=>h
theorem qv0 (p:Nat) (F:List Nat) (M L:Nat) (x n:Int) (w:World) (hW:Wr w p F M L) (hx0:0≤x) (hx:x<4294967296) (hL:L≤562949953421312) :
  Calls Tryz.prog 238 #[.pointer (some ⟨p,0,none⟩),.int .u32 x,.int .i64 n] w (WrPost p F w (M+2^L*(x.toNat%2^(min n.toNat 32))) (L+min n.toNat 32)):=by
 obtain⟨x,rfl⟩:=qcv hx0;exact qi0 p F M L x n w hW (by omega) hL
theorem zd4 {w w':World} {p:Nat} {F S:List Nat} {M L:Nat} (h:Wr w p F M L) (hf:Fr S w w') (hn:∀x∈F,x∉S):Wr w' p F M L:=by obtain⟨v,⟨hr,hown,hpb,hM⟩,rfl⟩:=h;exact⟨v,⟨hf.blk hr (hn p (by simp)),qa7 hown hf (λk hk=>hn k (by simp[hk])),hpb,hM⟩,rfl⟩
theorem zd3 {w:World} {p:Nat} {F:List Nat} {M L:Nat} (h:Wr w p F M L):∀x∈F,x<w.heap.size:=by
 obtain⟨v,⟨hr,hown,hpb,hM⟩,rfl⟩:=h;intro x hx;rcases qaw.1 hx with rfl|hx
 ·exact lt_of_block hr
 ·exact qd3 hown (by simpa using hx)
theorem zau (p:Nat) (F:List Nat) (M L:Nat) (x:Nat) (n:Int) (w:World) (hW:Wr w p F M L) (hx:x<4294967296) (hL:L≤562949953421200) :
  Calls Tryz.prog 237 #[.pointer (some ⟨p,0,none⟩),.int .u32 x,.int .i64 n] w (WrPost p F w (M+2^L*revTo x (min n.toNat 32) (min n.toNat 32)) (L+min n.toNat 32)):=by
 obtain⟨m,hm,hm32⟩:∃m:Nat,m=min n.toNat 32∧m≤32:=⟨_,rfl,by omega⟩;have Hm:=zhd hm;rw[<-hm];clear hm;go_enter Tryz.func237,Tryz.ntmps237;go_upto_region 0 with fail;go_cut [6] (λs6 wc=>s6 = .int .i64 ((m:Int)-1)∧w=wc);case first=>go_wp2;all_goals (go_meet;exact⟨int_eq (by have:=Hm.out;omega),rfl⟩)
 case rest=>
 obtain⟨rfl,rfl⟩:=hcut;have HW:=zhd hW;clear hW;go_wp2;go_loopg [6] m (λk s6 wr=>∃j F',j+k=m∧s6 = .int .i64 ((k:Int)-1)∧Wr wr p F' (M+2^L*revTo x m j) (L+j)∧Fr F w wr∧∀y∈F',y∈F∨w.heap.size≤y);case atStart=>exact⟨0,F,by omega,rfl,by simpa[revTo] using HW.out,Fr.refl _ _,λy hy=>.inl hy⟩
 case round=>
  obtain⟨j,F',hjk,rfl,hw1,hfr,hF⟩:=hrel;by_cases hk:gk=0
  ·subst hk;obtain rfl:j=m:=by omega
   go_wp2;go_end0;exact⟨rfl,hfr,F',hw1,hF⟩
  ·obtain⟨k,rfl⟩:∃k,gk=k+1:=⟨gk-1,by omega⟩;have hk0:(0:Int)≤(((k+1:Nat):Int)-1):=by omega
   have hd:x/2^k<4294967296:=qf3 (Nat.div_le_self _ _) hx;have hd1:((x:Int)/2^k)=((x/2^k:Nat):Int):=by rw[qd2,<-Int.natCast_ediv]
   have hd2:(0:Int)≤(x:Int)/2^k:=by rw[hd1];exact Int.natCast_nonneg _
   have hd3:(x:Int)/2^k<4294967296:=by rw[hd1];omega
   have Hd1:=zhd hd1;clear hd1;have hL2:L+j≤562949953421312:=by omega
   go_wp2_with (go_at_call 238;refine (qv0 p F' _ (L+j) _ _ _ hw1 hd2 hd3 hL2).mono ?_;rintro e w' ⟨rfl,fr1,F1,hw2,hF1⟩);go_roundg k;case measure=>omega
   case rel=>
    have e1:j=m-1-k:=by omega
    have hm1:m-1-j=k:=by omega
    refine⟨j+1,F1,by omega,int_eq (by omega),?_,hfr.step fr1 hF,λy hy=>?_⟩
    ·have e3:((x:Int)/2^k).toNat=x/2^k:=by rw[Hd1.out,qc8]
     have hw3:Wr w' p F1 (M+2^L*revTo x m j+2^(L+j)*(x/2^k%2)) (L+j+1):=by simpa[e3] using hw2
     have e2:=qx4 M L x m j;rw[hm1]at e2;rw[<-e2];exact hw3
    ·rcases hF1 y hy with h|h
     ·exact hF y h
     ·right;have:=hfr.size;omega
theorem qtb (p:Nat) (F:List Nat) (M L:Nat) (w:World) (hW:Wr w p F M L) (hL:L≤562949953421200) :
  Calls Tryz.prog 245 #[.pointer (some ⟨p,0,none⟩)] w (WrPost p F w M ((L+7)/8*8)):=by
 have HW:=zhd hW;obtain⟨v,⟨hr,hown,hpb,hM⟩,rfl⟩:=hW;have c2:=cell_of hr 2;simp only[qae,qaa,qad]at c2;clear hr hown;by_cases h0:L%8=0
 ·have h1:decide ((0:Int)<((L%8:Nat):Int))=false:=by simp;omega
  go_enter Tryz.func245,Tryz.ntmps245;go_wp2;go_end0;refine⟨rfl,Fr.refl _ _,_,?_,λy hy=>.inl hy⟩;rw[show (L+7)/8*8=L from by omega];exact HW.out
 ·have h1:decide ((0:Int)<((L%8:Nat):Int))=true:=by simp;omega
  have hL2:L≤562949953421312:=by omega
  go_enter Tryz.func245,Tryz.ntmps245;go_wp2_with (go_at_call 238;refine (qv0 p _ M L _ _ _ HW.out (by omega) (by omega) hL2).mono ?_;rintro e w' ⟨rfl,fr1,F1,hw2,hF1⟩);go_end0;refine⟨rfl,fr1,F1,?_,hF1⟩;have e1:(8-(L:Int)%8).toNat=8-L%8:=by omega
  have e2:L+min (8-L%8) 32=(L+7)/8*8:=by omega
  rw[<-e2];simpa[e1] using hw2
theorem qqh (p:Nat) (F:List Nat) (M L:Nat) (ao:Option Addr) (cap:Nat) (bs:List UInt8) (w:World) (hW:Wr w p F M L) (hcs:Cs w ao (bs.map bv)) (hcap:bs.length≤cap) (hnone:ao=none→cap=0)
  (hap:bs≠[]→∀x∈blk ao,x∉F) (hL:L+8*bs.length≤562949953421200) :
  Calls Tryz.prog 244 #[.pointer (some ⟨p,0,none⟩),.slice ao bs.length cap] w (WrPost p F w (M+2^((L+7)/8*8)*num bs) ((L+7)/8*8+8*bs.length)):=by
 have hL1:L≤562949953421200:=by omega
 have hal:=qtb p F M L w hW hL1;obtain⟨q,hq,hqL⟩:∃q,(L+7)/8=q∧8*q≤L+7:=⟨_,rfl,by omega⟩;rw[hq]at hal ⊢;have Hal:=zhd hal;clear hal hq;go_enter Tryz.func244,Tryz.ntmps244;go_upto_region 0 with fail;go_cut [] (λwc=>Fr F w wc∧∃F',Wr wc p F' M (q*8)∧∀y∈F',y∈F∨w.heap.size≤y);case first=>go_wp2_with (go_at_call 245;refine Hal.out.mono ?_;rintro e w' ⟨rfl,fr1,hw1⟩);go_meet;exact⟨fr1,hw1⟩
 case rest=>
 obtain⟨fr1,F',hW1,hF'⟩:=hcut;obtain⟨v,⟨hr,hown,hpb,hM⟩,rfl⟩:=hW1;rw[show q*8/8=q from by omega]at hown hr;rw[show q*8%8=0 from by omega]at hr;have hM8:M<2^(8*q):=by rwa [qcd]
 have hcs1:Cs wc ao (bs.map bv):=by
  by_cases hbs:bs=[]
  ·exact .inl (by rw[hbs];rfl)
  ·exact hcs.fr fr1 (hap hbs)
 have c0:=cell_of hr 0;have f0:=qay hr 0;simp only[qae,qaa]at c0;have Hr:=zhd hr;clear hr;go_wp2_with (refine qa5 sliceU8 rfl _ _ rfl v q _ v.ownBlock.toList rfl rfl hown ao bs.length cap (bs.map bv) rfl hcap hnone hcs1 (by simp) (qev bs) (by omega) (by unfold maxLen;omega) ?_;intro ao1 cap1 w1 A1;have hb1:=A1.fr.blk Hr.out (by simpa using hpb);have d1:=cell_of hb1 0;have g1:=qay hb1 0;simp only[qae,qaa]at d1);go_end0;have hne:(Value.slice ao1 (q+bs.length) cap1).ownBlock≠some p:=by
  intro h;have h2:=lt_of_block Hr.out;rcases A1.at_ p (by rw[<-qbp ao1 (q+bs.length) cap1,h];simp) with h1|h1
  ·exact hpb (by simpa using h1)
  ·omega
 have fr2:Fr F w w1:=fr1.step A1.fr (λk hk=>hF' k (by simp[Option.mem_toList.1 hk]));refine⟨rfl,?_,_,⟨.slice ao1 (q+bs.length) cap1,⟨?_,?_,hne,?_⟩,rfl⟩,?_⟩
 ·exact fr2.setCell (by have:=hF' p (by simp);simpa using this) _
 ·refine (qa0 hb1 _).trans ?_;have hd:=za7 q M bs hM8;rw[show q*8+8*bs.length=8*(q+bs.length) from by omega,Nat.mul_div_cancel_left _ (by omega:0<8),Nat.mul_mod_right,show q*8=8*q from by omega,
   qp4 hM8,qp4 (by rw[qgi];exact hd)]
  rfl
 ·rw[show q*8+8*bs.length=8*(q+bs.length) from by omega,Nat.mul_div_cancel_left _ (by omega:0<8),show q*8=8*q from by omega,zb7 q M bs hM8,qbt];exact ownsRow_setCell_other A1.own hne _
 ·rw[show q*8=8*q from by omega];exact za7 q M bs hM8
 ·intro y hy;rcases qaw.1 hy with rfl|hy
  ·exact hF' _ (by simp)
  ·rw[qbp]at hy;rcases A1.at_ y hy with h|h
   ·exact hF' y (by simp[Option.mem_toList.1 h])
   ·right;have:=fr1.size;omega
def BytesPost (M L:Nat) (w:World) (e:Ending) (w':World):Prop:=
 ∃ao,e = .returned (.slice ao ((L+7)/8) ((L+7)/8))∧Fresh w' w.heap.size 5 ao ((dig ((L+7)/8) M).map bv)∧(ao=none→(L+7)/8=0)∧(∀x∈blk ao,w.heap.size≤x)∧Fr [] w w'
theorem qs9 (p:Nat) (F:List Nat) (M L:Nat) (w:World) (hW:Wr w p F M L) (hL:L≤562949953421200) :
  Calls Tryz.prog 128 #[.pointer (some ⟨p,0,none⟩)] w (BytesPost M L w):=by
 obtain⟨v,⟨hr,hown,hpb,hM⟩,rfl⟩:=hW;obtain⟨ao,cap,rfl,hc1,hc2,hc3⟩:=qgr hown;have hcs:=qcm hown;obtain⟨q,hq⟩:∃q,L/8=q:=⟨_,rfl⟩;rw[hq]at hr hown hcs hpb hc1;have hlen:((dig q M).map bv).length=q*1:=by simp[qhb]
 have c0:=cell_of hr 0;have c1:=cell_of hr 1;have c2:=cell_of hr 2;simp only[qae,qaa,qad]at c0 c1 c2;have Hr:=zhd hr;clear hr;have Hq:=zhd hq;have hq8:8*q≤L:=by omega
 clear hq;go_enter Tryz.func128,Tryz.ntmps128;go_upto_region 1 with fail;go_cut [3] (λs3 wc=>∃ao1 cap1,s3 = .slice ao1 q cap1∧Appended w wc 5 1 [] ao1 q cap1 ((dig q M).map bv));case first=>go_wp2_with (refine qa5 sliceU8 rfl _ _ rfl (.slice none 0 0) 0 [] [] rfl rfl (qch _ _ _ _) ao q cap _ rfl hc1 hc3 hcs hlen (qev _) (by omega) (by unfold maxLen;omega) ?_;intro ao1 cap1 w1 A1;simp only[qbe,qck]at A1);go_meet;exact⟨ao1,cap1,rfl,A1⟩
 case rest=>
 obtain⟨ao1,cap1,rfl,A1⟩:=hcut;have hb1:=A1.fr.blk Hr.out (by simp);have d1:=cell_of hb1 1;have d2:=cell_of hb1 2;simp only[qae,qaa,qad]at d1 d2;have Hb1:=zhd hb1;clear hb1;by_cases h0:L%8=0
 ·have h1:decide ((0:Int)<((L%8:Nat):Int))=false:=by simp;omega
  have hle:=A1.le;go_wp2;all_goals go_ret
  all_goals
   have e:(L+7)/8=q:=by have:=Hq.out;omega
   have hb:∀x∈blk ao1,w.heap.size≤x:=λx hx=>by have:=A1.at_ x hx;simp at this;omega
   unfold BytesPost
   rw[e]
   exact⟨ao1,by first|rfl|simp,qfn A1.own hb,λh=>by have:=A1.nil h;omega,hb,A1.fr⟩
 ·have h1:decide ((0:Int)<((L%8:Nat):Int))=true:=by simp;omega
  have hbv:Value.int .u8 (IntKind.u8.wrap ((M/2^(8*q):Nat):Int))=bv (UInt8.ofNat (M/2^(8*q))):=qs5 _;obtain⟨W,hW⟩:∃W:Nat,W=M/2^(8*q):=⟨_,rfl⟩;rw[<-hW]at d1 hbv;rw[IntKind.wrap_u8']at hbv;have HW:=zhd hW;have Hbv:=zhd hbv;clear hW hbv;have hb:∀x∈blk ao1,w.heap.size≤x:=λx hx=>by have:=A1.at_ x hx;simp at this;omega
  have Hb:=zhd hb;clear hb c1;go_upto_region 3 with fail;go_cut [3] (λs3 wz=>∃ao2 cap2,s3 = .slice ao2 (q+1) cap2∧wz.ownsRow 0 5 1 (.slice ao2 (q+1) cap2) (q+1) ((dig (q+1) M).map bv)∧(∀x∈blk ao2,w.heap.size≤x)∧Fr [] w wz∧q+1≤cap2);case first=>
   go_wp2_with (refine qa5 sliceU8 rfl _ _ rfl (.slice ao1 q cap1) q _ (blk ao1) rfl (qbp _ _ _) (A1.own.alloc _) _ 1 1 _ rfl (by decide) (by simp) (by exact qdu _ _ _ _ (qa4 _ _)) (by rfl) (by simp[Value.oneCell']) (by omega) (by unfold maxLen;omega) ?_;intro ao2 cap2 w2 A2);go_meet;have hsz:=A1.fr.size;refine⟨ao2,cap2,rfl,?_,λx hx=>?_,((A1.fr.alloc _).step A2.fr λx hx=>?_),A2.le⟩
   ·have h:=A2.own;rw[Hbv.out,HW.out]at h;rw[qs0,qbt];exact h
   ·rcases A2.at_ x hx with h|h
    ·exact Hb.out x h
    ·simp at h;omega
   ·right;exact Hb.out x hx
  case rest=>
  obtain⟨ao2,cap2,rfl,own2,hb2,fr2,hle⟩:=hcut;have Hb2:=zhd hb2;clear hb2;go_wp2;all_goals go_ret
  all_goals
   have e:(L+7)/8=q+1:=by have:=Hq.out;omega
   unfold BytesPost
   rw[e]
   refine⟨ao2,by first|rfl|simp,qfn own2 Hb2.out,λh=>?_,Hb2.out,fr2⟩
   rcases own2.2 with⟨h3,_⟩|⟨g,cap,cur,h3,_⟩
   ·simp at h3
   ·subst h;simp at h3
end Go.Proofs.YtbabjlohkniciaaGreatDoor.bits
