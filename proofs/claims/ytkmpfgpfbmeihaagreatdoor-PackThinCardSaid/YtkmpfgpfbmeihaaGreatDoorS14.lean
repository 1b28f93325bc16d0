/-
  Texts of this proof, one behind the other: TripB, TripC, PlainLen, InfA, HuffW, HuffX.
-/
import Derived.Test.YtkmpfgpfbmeihaaGreatDoorS13
set_option maxHeartbeats 16000000
set_option maxRecDepth 100000
set_option linter.unusedVariables false
set_option linter.unusedSimpArgs false
namespace Go.Proofs.YtkmpfgpfbmeihaaGreatDoor.trip
open Go lib bm bl huf inf defl mat
theorem At.bytes {bs xs:List UInt8} {q:Nat} (h:At bs (8*q) (bytesBits xs)):(bs.drop q).take xs.length=xs:=by obtain⟨r,hr⟩:=h.drop;refine qp1 ?_;rw[qwb,hr,qc2 (by rw[qb1];exact qae _),qbd (by rw[qb1];exact qae _)]
theorem qrr {bs xs:List UInt8} {q:Nat} (h:(bs.drop q).take xs.length=xs) (i:Nat) (hi:i<xs.length):bs[q+i]?=xs[i]?:=by rw[<-h,List.getElem?_take_of_lt hi,qc5]
theorem qhx {bs:List UInt8} {m:Nat}:∀(xs out:List UInt8) (q:Nat),(∀i,i<xs.length→bs[q+i]?=xs[i]?)→out.length+xs.length≤m→ibytes bs m xs.length out q = .ok (out++xs,8*(q+xs.length))
 | [],out,q,_,_=>by simp[ibytes]
 | x::xs,out,q,h,hm=>by
  have h0:=h 0 (by simp);rw[qbn,qac]at h0;have hq:q<bs.length:=by
   rcases qb8 q bs.length with k|k
   ·exact k
   ·rw[qbo k]at h0;cases h0
  simp only[qao]at hm;rw[qao,ibytes,if_pos hq,h0,qi3];unfold iput;rw[if_neg (by omega)];dsimp only;have:=qhx (bs:=bs) (m:=m) xs (out++[x]) (q+1) (λi hi=>by
   have:=h (i+1) (by simp only[qao];omega)
   rwa [qaf,show q+(i+1)=q+1+i from by omega]at this) (by rw[qab,qao,qbi];omega)
  rw[this];simp only[qas,List.singleton_append];congr 2;omega
theorem qjy {bs:List UInt8} {i:Nat} {x:UInt8} (h:bs[i]?=some x):byteAt bs i=x.toNat:=by unfold byteAt;rw[h];rfl
theorem qw3 {bs:List UInt8} {m:Nat} {l:List Bool} {last:Bool} {b out:List UInt8} (h:At bs 0 (storedBits l last b)) (hb:b.length≤65535) (hm:out.length+b.length≤m) :
  istored bs m out (l.length+3) = .ok (out++b,(storedBits l last b).length)∧itake bs l.length 1 = .ok (if last then 1 else 0,l.length+1)∧itake bs (l.length+1) 2 = .ok (0,l.length+1+2):=by
 have hL:(storedBits l last b).length=8*((l.length+10)/8+4+b.length):=by rw[qdf];omega
 have hle:=h.le;rw[hL,qbg]at hle;have hp:(padTo8 (l++last::lsb 2 0)).length=8*((l.length+10)/8):=by rw[qef];simp only[qab,qao,lsb_length];rw[qcc]
 unfold storedBits at h;have h1:=h.right;rw[qab,hp,qb1,qbg]at h1;have hs:(shead b.length).length=4:=rfl;rw[hs,show 8*((l.length+10)/8)+8*4=8*((l.length+10)/8+4) from by omega]at h1;have h2:=h.left.right;rw[hp,qbg]at h2;have h3:=h.left.left;unfold padTo8 at h3;have h4:=h3.left.right;rw[qbg]at h4;have g:=qrr h2.bytes;rw[hs]at g;have g0:=qjy (g 0 (by decide));have g1:=qjy (g 1 (by decide));have g2:=qjy (g 2 (by decide));have g3:=qjy (g 3 (by decide));rw[qbn]at g0;rw[qcy]at g0 g1 g2 g3;have e:(l.length+3+7)/8=(l.length+10)/8:=rfl;refine⟨?_,?_,?_⟩
 ·unfold istored;rw[e,if_pos (by omega),g0,g1,g2,g3,if_pos (by omega)];have hn:b.length%2^8+256*(b.length/256%2^8)=b.length:=by omega
  rw[hn,qhx b out _ (qrr h1.bytes) hm,hL]
 ·have:At bs l.length (lsb 1 (if last then 1 else 0)):=by have h5:At bs l.length ([last]++lsb 2 0):=h4;have:=h5.left;cases last<;>exact this
  exact qe8 this (by cases last<;>decide)
 ·have h5:At bs l.length ([last]++lsb 2 0):=h4;exact qe8 h5.right (by decide)
theorem qnq (l:List Bool) (last:Bool) (b:List UInt8):∃r,storedBits l last b=l++r:=
 ⟨_,by unfold storedBits padTo8;rw[qas,qas,qas]⟩
theorem qjf:∀(cs:List (List UInt8)) (l:List Bool),∃r,storedAll l cs=l++r
 | [],l=>⟨[],by rw[storedAll,qbr]⟩
 | b::t,l=>by obtain⟨r,hr⟩:=qjf t (storedBits l t.isEmpty b);obtain⟨q,hq⟩:=qnq l t.isEmpty b;exact⟨q++r,by rw[storedAll,hr,hq,qas]⟩
theorem zd1 {bs:List UInt8} {m:Nat}:∀(cs:List (List UInt8)) (l:List Bool) (out:List UInt8) (f:Nat),cs≠[]→At bs 0 (storedAll l cs)→(∀c∈cs,c.length≤65535)→out.length+cs.flatten.length≤m→cs.length≤f→
  irawF bs m f out l.length = .ok (out++cs.flatten,(storedAll l cs).length)
 | [],_,_,_,h,_,_,_,_=>absurd rfl h
 | b::t,l,out,f,_,hat,hc,hm,hf=>by
  obtain⟨f,rfl⟩:∃g,f=g+1:=⟨f-1,by simp only[qao]at hf;omega⟩;obtain⟨r,hr⟩:=qjf t (storedBits l t.isEmpty b);rw[storedAll]at hat ⊢;have h0:=hat;rw[hr]at h0;rw[List.flatten_cons,qab]at hm;obtain⟨k1,k2,k3⟩:=qw3 (m:=m) (out:=out) h0.left (hc b qcd) (by omega);rw[irawF,k2];dsimp only;rw[k3];dsimp only;rw[if_neg (by decide)];unfold iblock;rw[if_pos rfl,k1];dsimp only;match t,hc,hm,hf,hat with
  | [],hc,hm,hf,hat=>simp[storedAll]
  | c::t,hc,hm,hf,hat=>rw[if_pos (show (if (c::t).isEmpty=true then 1 else 0:Nat)=0 by simp)];have:=zd1 (bs:=bs) (m:=m) (c::t) (storedBits l (c::t).isEmpty b) (out++b) f (by simp) hat (λx hx=>hc x (qcf _ hx)) (by rw[qab];omega) (by simp only[qao]at hf ⊢;omega);rw[this,List.flatten_cons (l:=b),qas]
theorem chunks_flatten:∀(f:Nat) (b:List UInt8),(chunks f b).flatten=b
 | 0,b=>by simp[chunks]
 | f+1,b=>by
  rw[chunks];split
  ·rw[List.flatten_cons,chunks_flatten f,qfc]
  ·simp
theorem qrp:∀(f:Nat) (b:List UInt8),b.length≤f→∀c∈chunks f b,c.length≤65535
 | 0,b,h,c,hc=>by simp[chunks]at hc;subst hc;omega
 | f+1,b,h,c,hc=>by
  rw[chunks]at hc;split at hc
  ·rcases qbh.1 hc with e|e
   ·rw[e,qaq];omega
   ·exact qrp f _ (by rw[qav];omega) c e
  ·simp at hc;subst hc;omega
theorem qz0 (f:Nat) (b:List UInt8):chunks f b≠[]:=by
 cases f with
 | zero=>simp[chunks]
 | succ f=>rw[chunks];split<;>simp
theorem zaj:∀(cs:List (List UInt8)) (l:List Bool),l.length+cs.length≤(storedAll l cs).length
 | [],l=>by simp[storedAll]
 | b::t,l=>by rw[storedAll];have:=zaj t (storedBits l t.isEmpty b);rw[qdf]at this;simp only[qao];omega
theorem qp2 (l:List Bool) (ext:List UInt8):At (bytesOf l++ext) 0 l:=by refine At.of (r:=List.replicate (pad l.length) false++bytesBits ext) ?_;rw[qk9,qrt];unfold padTo8;rw[qas]
theorem qn7 (b ext:List UInt8) (m:Nat) (hm:b.length≤m):iraw (plainBytes b++ext) m = .ok (b,(plainBytes b).length):=by
 have hat:=qp2 (plainBits b) ext;have hf:(chunks b.length b).length≤fuel (plainBytes b++ext):=by have h1:=zaj (chunks b.length b) [];have h2:=hat.le;unfold plainBits at h2;unfold plainBytes fuel;unfold plainBits;simp only[qbi]at h1;omega
 have:=zd1 (bs:=plainBytes b++ext) (m:=m) (chunks b.length b) [] [] _ (qz0 _ _) hat (qrp _ b (qae _)) (by rw[chunks_flatten];simpa using hm) hf;rw[chunks_flatten,qb4]at this;unfold iraw;rw[qbi]at this;rw[this];dsimp only;rw[show (plainBytes b).length=((plainBits b).length+7)/8 from bytesOf_length _];rfl
theorem qol {ls:List Nat} {n:Nat} (h:∀i,n≤i→i<ls.length→lenAt ls i=0):∀x∈ls.drop n,x=0:=by
 intro x hx;obtain⟨i,hi⟩:=List.getElem?_of_mem hx;rw[qc5]at hi;have hl:n+i<ls.length:=by
  rcases qb8 (n+i) ls.length with k|k
  ·exact k
  ·rw[qbo k]at hi;cases hi
 have:=h (n+i) (by omega) hl;unfold lenAt at this;rw[hi]at this;exact this
theorem qfa {ls:List Nat} {n:Nat} (h:∀i,n≤i→i<ls.length→lenAt ls i=0) (i:Nat):lenAt (ls.take n) i=lenAt ls i:=by
 by_cases hi:i<n
 ·unfold lenAt;rw[List.getElem?_take_of_lt hi]
 ·have e:lenAt (ls.take n) i=0:=by unfold lenAt;rw[qbo (by rw[qaq];omega)];rfl
  rw[e];by_cases hl:i<ls.length
  ·exact (h i (by omega) hl).symm
  ·unfold lenAt;rw[qbo (by omega)];rfl
theorem qs8 {l:List Nat} (h:∀x∈l,x=0) {c:Nat} (hc:c≠0):l.count c=0:=
 List.count_eq_zero.2 λhm=>hc (h c hm)
theorem qv9 {ls:List Nat} {n:Nat} (h:∀i,n≤i→i<ls.length→lenAt ls i=0) {c:Nat} (hc:c≠0):(ls.take n).count c=ls.count c:=by
 conv=>rhs;rw[<-qfc n ls,qfs,qs8 (qol h) hc]
 rfl
theorem qt5 {ls:List Nat} {n:Nat} (h:∀i,n≤i→i<ls.length→lenAt ls i=0):∀l,nxt (ls.take n) l=nxt ls l
 | 0=>rfl
 | l+1=>by
  rw[nxt,nxt,qt5 h l];by_cases h0:l=0
  ·rw[if_pos h0,if_pos h0]
  ·rw[if_neg h0,if_neg h0,qv9 h h0]
theorem qkc {ls:List Nat} {n:Nat} (h:∀i,n≤i→i<ls.length→lenAt ls i=0):sbits (ls.take n)=sbits ls:=by
 funext s;unfold sbits;rw[qfa h];by_cases h0:lenAt ls s=0
 ·rw[h0];unfold codeAt;rw[qfa h,if_pos h0,if_pos h0]
 ·have hs:s<n:=by
   rcases qb8 s n with k|k
   ·exact k
   ·exact absurd (h s k (qeo (by omega))) h0
  unfold codeAt;rw[qfa h,if_neg h0,if_neg h0];unfold code;rw[qfa h,qt5 h,qov,qc6 (by omega)]
theorem qew:∀a b:List Nat,weight (a++b)=weight a+weight b
 | [],b=>by simp[weight]
 | x::a,b=>by rw[qdk,weight,weight,qew a b];omega
theorem qkx:∀{l:List Nat},(∀x∈l,x=0)→weight l=0
 | [],_=>rfl
 | x::l,h=>by rw[weight,qkx λy hy=>h y (qcf _ hy),if_pos (h x qcd)]
theorem qg3 {ls:List Nat} {n:Nat} (h:∀i,n≤i→i<ls.length→lenAt ls i=0):weight (ls.take n)=weight ls:=by
 conv=>rhs;rw[<-qfc n ls,qew,qkx (qol h)]
 rfl
theorem qzc:fixed 288=alw 288:=by decide +kernel
theorem qzd:∀s,s<30→sbits (List.replicate 32 5) s=sbits (List.replicate 30 5) s:=by decide +kernel
theorem zcp:∀s,s<30→0<lenAt (List.replicate 32 5) s:=by decide +kernel
theorem zai:∀s,s<286→0<lenAt (alw 288) s:=by decide +kernel
theorem five32:weight (List.replicate 32 5)=32768:=by decide +kernel
theorem qtm {b:List UInt8} {r:Nat} (hr:r≤32768) {l:List Mt} (hch:Chain b r 0 l):∀x∈toks b 0 l,tsym x<286∧tsym x≠256∧∀s,dsym x=some s→s<30:=by
 intro x hx;cases x with
 | lit c=>
  have:c.toNat<256:=c.toNat_lt;exact⟨by show c.toNat<286;omega,by show c.toNat≠256;omega,λs h=>by cases h⟩
 | mat n d=>
  obtain⟨k1,k2,k3,k4⟩:=qr4 hr (b.length-0) 0 l rfl hch _ hx n d rfl;have h1:=qjq k1 k2;have h2:=qjv k3 k4;refine⟨h1.2.1,by show (lcode n).1≠256;omega,λs h=>?_⟩;have:(dcode d).1=s:=by simpa[dsym] using h
  omega
theorem qoi {α β:Type} {f g:α→List β}:∀{l:List α},(∀x∈l,f x=g x)→l.flatMap f=l.flatMap g
 | [],_=>rfl
 | x::l,h=>by rw[qcl,qcl,h x qcd,qoi λy hy=>h y (qcf _ hy)]
theorem qky {ll dl ll' dl':List Nat} {T:List Tok} (h1:∀x∈T,sbits ll (tsym x)=sbits ll' (tsym x)) (h2:∀x∈T,∀s,dsym x=some s→sbits dl s=sbits dl' s):tsbits ll dl T=tsbits ll' dl' T:=by
 unfold tsbits;refine qoi λx hx=>?_
 cases x with
 | lit c=>exact h1 _ hx
 | mat n d=>have k1:=h1 _ hx;have k2:=h2 _ hx _ rfl;simp only[tbits];rw[show tsym (.mat n d)=(lcode n).1 from rfl]at k1;rw[k1,k2]
theorem qkz {ll dl:List Nat}:∀{T:List Tok},(∀x∈T,0<lenAt ll (tsym x))→T.length≤(tsbits ll dl T).length
 | [],_=>qa5 _
 | x::T,h=>by
  have ih:=qkz (dl:=dl) (T:=T) λy hy=>h y (qcf _ hy)
  have h0:=h x qcd;have e:tsbits ll dl (x::T)=tbits ll dl x++tsbits ll dl T:=rfl;have h1:1≤(tbits ll dl x).length:=by
   cases x with
   | lit c=>rw[tbits,sbits_length];exact h0
   | mat n d=>have:0<lenAt ll (lcode n).1:=h0;simp only[tbits,qab,sbits_length];omega
  rw[e,qab,qao];omega
theorem qwy {bs:List UInt8} {ll dl:List Nat} {m r a:Nat} {b:List UInt8} {l:List Mt} (hr:r≤32768) (hch:Chain b r 0 l) (hm:b.length≤m) (hle1:∀l∈ll,l≤15) (hle2:∀l∈dl,l≤15) (hw1:weight ll≤32768) (hw2:weight dl≤32768)
  (h256:0<lenAt ll 256) (h1:∀x∈toks b 0 l,0<lenAt ll (tsym x)) (h2:∀x∈toks b 0 l,∀s,dsym x=some s→0<lenAt dl s) (hat:At bs a (tsbits ll dl (toks b 0 l)++sbits ll 256)) :
  isyms bs m ll dl (fuel bs) [] a = .ok (b,a+(tsbits ll dl (toks b 0 l)++sbits ll 256).length):=by
 have hf:(toks b 0 l).length<fuel bs:=by have k1:=hat.le;have k2:=qkz (dl:=dl) h1;rw[qab,sbits_length]at k1;unfold fuel;omega
 have:=zed (b:=b) hr hm hle1 hle2 hw1 hw2 h256 (b.length-0) 0 l (fuel bs) a rfl (qa5 _) hch h1 h2 hf hat;rw[qan]at this;rw[this,qab,sbits_length,qcb]
theorem qop {bs:List UInt8} {m:Nat} {b:List UInt8} {h:Nat} {body:List Bool} (hh:h<3) (hat:At bs 0 ([true]++lsb 2 h++body)) (hf:0<fuel bs)
  (hb:iblock bs m h [] 3 = .ok (b,3+body.length)):irawF bs m (fuel bs) [] 0 = .ok (b,([true]++lsb 2 h++body).length):=by
 obtain⟨f,hf'⟩:∃f,fuel bs=f+1:=⟨fuel bs-1,by omega⟩;have k1:itake bs 0 1 = .ok (1,1):=qe8 (n:=1) (v:=1) hat.left.left (by decide);have k2:itake bs 1 2 = .ok (h,3):=qe8 (n:=2) (v:=h) hat.left.right (by omega);rw[hf',irawF,k1];dsimp only;rw[k2];dsimp only;rw[if_neg (by omega),hb];dsimp only;rw[if_neg (by decide)];simp only[qab,qao,qbi,lsb_length]
theorem qum (bs:List UInt8):0<fuel bs:=by unfold fuel;omega
theorem qyn {bs:List UInt8} {m:Nat} {b:List UInt8} {bb:List Bool} (h:irawF bs m (fuel bs) [] 0 = .ok (b,bb.length)):iraw bs m = .ok (b,(bytesOf bb).length):=by unfold iraw;rw[h,bytesOf_length]
theorem qoj {b:List UInt8} {bf:List Bool} (h:FixedB b bf) (ext:List UInt8) (m:Nat) (hm:b.length≤m):iraw (bytesOf bf++ext) m = .ok (b,(bytesOf bf).length):=by
 obtain⟨hd,e,h0,_⟩:=h;rw[h0 rfl]at e;have hch:Chain b 32768 0 (qen b 32768):=by simpa using qfq b 32768
 have hts:=qtm (qae _) hch;have e2:bf=[true]++lsb 2 1++(tsbits (alw 288) (List.replicate 32 5) (toksOf b)++sbits (alw 288) 256):=by rw[e];simp only[qfe,if_false,qbr,qas];rw[qky (T:=toksOf b) (λ_ _=>rfl) λx hx s hs=>(qzd s ((hts x hx).2.2 s hs)).symm]
 obtain⟨bs,hbs⟩:=zex (bytesOf bf++ext);have hat:At bs 0 bf:=by rw[hbs];exact qp2 bf ext
 rw[<-hbs];refine qyn ?_;rw[e2]at hat ⊢;refine qop (by decide) hat (qum bs) ?_;unfold iblock;rw[if_neg (by decide),if_pos rfl];unfold ifixed;rw[qzc];have a3:=hat.right;exact qwy (qae _) hch hm quz (λx hx=>by rw[List.eq_of_mem_replicate hx];decide) (by rw[qou];exact qae _) (by rw[five32];exact qae _) (zai 256 (by decide)) (λx hx=>zai _ (hts x hx).1) (λx hx s hs=>zcp s ((hts x hx).2.2 s hs)) a3
theorem zb4 {ls:List Nat} {c:Nat} (h:∀l∈ls,l≤c) (i:Nat):lenAt ls i≤c:=by
 unfold lenAt;cases e:ls[i]? with
 | none=>simp
 | some x=>simpa using h x (qa8 e)
theorem qup {bs:List UInt8} {cl:List Nat} (hle:∀l∈cl,l≤7):∀(ps fs:List Nat) (a:Nat),At bs a (ps.flatMap λi=>lsb 3 (lenAt cl i))→
  ifirst bs ps fs a = .ok (ps.foldl (λfs i=>fs.set i (lenAt cl i)) fs,a+(ps.flatMap λi=>lsb 3 (lenAt cl i)).length)
 | [],fs,a,_=>rfl
 | i::t,fs,a,h=>by rw[qcl]at h ⊢;have k:=qe8 h.left (show lenAt cl i<2^3 by have:=zb4 hle i;omega);have h2:=h.right;rw[lsb_length]at h2;rw[ifirst,k];dsimp only;rw[qup hle t _ _ h2,List.foldl_cons,qab,lsb_length,qcb]
theorem qrc {cl:List Nat}:∀(ps fs:List Nat) (j:Nat),(ps.foldl (λfs i=>fs.set i (lenAt cl i)) fs)[j]?=if j∈ps∧j<fs.length then some (lenAt cl j) else fs[j]?
 | [],fs,j=>by simp
 | p::ps,fs,j=>by
  rw[List.foldl_cons,qrc ps,List.length_set];by_cases h1:j∈ps∧j<fs.length
  ·rw[if_pos h1,if_pos ⟨qcf _ h1.1,h1.2⟩]
  ·rw[if_neg h1,List.getElem?_set];by_cases h2:p=j
   ·subst h2;by_cases h3:p<fs.length
    ·rw[if_pos rfl,if_pos h3,if_pos ⟨qcd,h3⟩]
    ·rw[if_pos rfl,if_neg h3,if_neg (λh=>h3 h.2),qbo (by omega)]
   ·rw[if_neg h2,if_neg];rintro⟨h3,h4⟩;rcases qbh.1 h3 with e|e
    ·exact h2 e.symm
    ·exact h1 ⟨e,h4⟩
theorem qmm:∀n,n≤19→places.take n=(List.range n).map ord:=by decide +kernel
theorem ze4:∀j,j<19→∃i,i<19∧ord i=j:=by decide +kernel
theorem qze {cl:List Nat} {nc:Nat} (hl:cl.length=19) (hn:nc≤19) (hz:∀i,nc≤i→i<19→lenAt cl (ord i)=0) :
  (places.take nc).foldl (λfs i=>fs.set i (lenAt cl i)) (List.replicate 19 0)=cl:=by
 refine qnv λj=>?_
 rw[qrc,qct];by_cases hj:j<19
 ·have hc:cl[j]?=some (lenAt cl j):=by unfold lenAt;rw[qai (by omega)];rfl
  rw[hc];by_cases hm:j∈places.take nc
  ·rw[if_pos ⟨hm,hj⟩]
  ·rw[if_neg λh=>hm h.1];obtain⟨i,hi,he⟩:=ze4 j hj;have hi2:nc≤i:=by
    rcases qb8 i nc with k|k
    ·refine absurd ?_ hm;rw[qmm nc hn,<-he];exact List.mem_map_of_mem (qdq.2 k)
    ·exact k
   have:=hz i hi2 hi;rw[he]at this;rw[this,qld,if_pos hj]
 ·rw[if_neg λh=>hj h.2,qbo (by rw[qct];omega),qbo (by omega)]
theorem qye {bs:List UInt8} {cl:List Nat} {n:Nat} (hle:∀l∈cl,l≤15) (hw:weight cl≤32768):∀(rs:List Rn) (out fin:List Nat) (f a:Nat),RunsOk out rs fin→fin.length=n→(∀r∈rs,0<lenAt cl r.1)→rs.length<f→
  At bs a (rs.flatMap (rbits cl))→ilens bs cl n f out a = .ok (fin,a+(rs.flatMap (rbits cl)).length)
 | [],out,fin,f,a,h,hn,_,hf,_=>by
  obtain⟨f,rfl⟩:∃g,f=g+1:=⟨f-1,by omega⟩;obtain rfl:out=fin:=h;rw[ilens,if_pos (by omega)];rfl
 | r::rs,out,fin,f,a,h,hn,hu,hf,hat=>by
  obtain⟨f,rfl⟩:∃g,f=g+1:=⟨f-1,by omega⟩;have hlen:=RunsOk.len h;have hlen2:=RunsOk.len h.2;simp only[qao]at hlen hf;rw[qcl]at hat ⊢;have h1:=hat.left;unfold rbits at h1;have hs:=qqd h1.left hle hw (hu r qcd);have h2:=h1.right;rw[sbits_length]at h2;have h3:=hat.right;have ih:=qye (n:=n) hle hw rs (exp1 out r) fin f _ h.2 hn (λx hx=>hu x (qcf _ hx)) (by omega) h3;have e:(rbits cl r).length=lenAt cl r.1+r.2.2:=by unfold rbits;rw[qab,sbits_length,lsb_length]
  rw[e]at ih;rw[ilens,if_neg (by omega),hs];dsimp only;rw[qab,e];rcases h.1 with⟨c1,c2,c3⟩|⟨c1,c2,c3,c4⟩|⟨c1,c2,c3⟩|⟨c1,c2,c3⟩
  ·rw[if_pos (by omega)];unfold exp1 at ih;rw[if_pos (by omega),c3,qbn]at ih;rw[ih,c3];congr 2;omega
  ·rw[c3]at h2 ih;have hv:=qe8 h2 (show r.2.1<2^2 by omega);unfold exp1 at ih hlen2;rw[if_neg (by omega),if_pos c1]at ih hlen2;rw[qab,qct]at hlen2;have w1:wide 16=2:=rfl;have l1:least 16=3:=rfl;rw[c1]at hs hv ih ⊢;rw[if_neg (by decide),w1,hv];dsimp only;rw[l1,if_neg (λh=>h.elim (λk=>c4 k.2) (λk=>by omega)),if_pos rfl];rw[show a+lenAt cl 16+2=a+(lenAt cl 16+2) from by omega,ih,c3];congr 2;omega
  ·rw[c3]at h2 ih;have hv:=qe8 h2 (show r.2.1<2^3 by omega);unfold exp1 at ih hlen2;rw[if_neg (by omega),if_neg (by omega),if_pos c1]at ih hlen2;rw[qab,qct]at hlen2;have w1:wide 17=3:=rfl;have l1:least 17=3:=rfl;rw[c1]at hs hv ih ⊢;rw[if_neg (by decide),w1,hv];dsimp only;rw[l1,if_neg (by rintro (⟨k,_⟩|k)<;>omega),if_neg (by decide)];rw[show a+lenAt cl 17+3=a+(lenAt cl 17+3) from by omega,ih,c3];congr 2;omega
  ·rw[c3]at h2 ih;have hv:=qe8 h2 (show r.2.1<2^7 by omega);unfold exp1 at ih hlen2;rw[if_neg (by omega),if_neg (by omega),if_neg (by omega)]at ih hlen2;rw[qab,qct]at hlen2;have w1:wide 18=7:=rfl;have l1:least 18=11:=rfl;rw[c1]at hs hv ih ⊢;rw[if_neg (by decide),w1,hv];dsimp only;rw[l1,if_neg (by rintro (⟨k,_⟩|k)<;>omega),if_neg (by decide)];rw[show a+lenAt cl 18+7=a+(lenAt cl 18+7) from by omega,ih,c3];congr 2;omega
theorem qm0 {n:Nat} (g:Nat→Nat) {s:Nat} (h:s<n):lenAt ((List.range n).map g) s=g s:=by unfold lenAt;rw[qbl,qwg h];rfl
theorem zec {b:List UInt8} {l:List Mt} (h:0<b.length):toks b 0 l≠[]:=by
 unfold toks;rw[dif_pos h];match l with
 | []=>simp
 | (a,n,d)::t=>dsimp only;split<;>simp
theorem zdh {l:List Nat} {x y:Nat} (hx:x∈l) (hy:y∈l) (h:x≠y):2≤l.length:=by
 match l with
 | []=>cases hx
 | [z]=>simp at hx hy;omega
 | _::_::_=>simp
theorem qw6 {cs ls:List Nat} {L:Nat} (h:LensOk L cs ls):some_ ls=(symsTo cs cs.length).length:=by
 have hm:ls=(List.range cs.length).map (lenAt ls):=by
  rw[<-h.len];refine qnv λi=>?_
  rw[qbl];by_cases hi:i<ls.length
  ·rw[qwg hi,qai hi];simp[lenAt,hi]
  ·rw[qbo (by omega),qbo (by simp;omega)];rfl
 unfold some_ symsTo;conv=>lhs;rw[hm]
 rw[List.filter_map,qap];congr 1;refine List.filter_congr λs _=>?_
 show decide (0<lenAt ls s)=decide (0<lenAt cs s);by_cases hp:0<lenAt cs s
 ·rw[decide_eq_true hp,decide_eq_true (h.pos s hp)]
 ·rw[decide_eq_false hp,decide_eq_false (by rw[h.zero s (by omega)];omega)]
theorem zct {b:List UInt8} {bd:List Bool} (h:DynB b bd) (ext:List UInt8) (m:Nat) (hm:b.length≤m):iraw (bytesOf bd++ext) m = .ok (b,(bytesOf bd).length):=by
 obtain⟨ll,dl,o1,o2,hd,e,_,ht⟩:=h;obtain⟨nl,nd,nc,cl,rs,T⟩:=ht rfl;have hch:Chain b 32768 0 (qen b 32768):=by simpa using qfq b 32768
 have hts:=qtm (qae _) hch;have ll286:ll.length=286:=by rw[o1.len];simp[litCs]
 have dl30:dl.length=30:=by rw[o2.len];simp[distCs]
 have zl:∀i,nl≤i→i<ll.length→lenAt ll i=0:=λi h1 h2=>qnc ll 257 ll.length i (by rw[<-T.enl];exact h1) h2
 have zd:∀i,nd≤i→i<dl.length→lenAt dl i=0:=λi h1 h2=>qnc dl 1 dl.length i (by rw[<-T.ennd];exact h1) h2
 have nl1:257≤nl:=by rw[T.enl];exact qnd _ _ _ (by omega)
 have nl2:nl≤286:=by rw[T.enl,<-ll286];exact qi0 _ _ _
 have nd1:1≤nd:=by rw[T.ennd];exact qnd _ _ _ (by omega)
 have nd2:nd≤30:=by rw[T.ennd,<-dl30];exact qi0 _ _ _
 have lit:∀s,s<286→0<litc b (toksOf b) s→0<lenAt ll s:=λs hs h=>o1.pos s (by unfold litCs;rw[qm0 _ hs];exact h)
 have hpos:∀x∈toksOf b,0<litc b (toksOf b) (tsym x):=λx hx=>by have:0<lcnt (toksOf b) (tsym x):=List.count_pos_iff.2 (List.mem_map_of_mem hx);unfold litc;omega
 have h256c:0<litc b (toksOf b) 256:=by unfold litc;rw[if_pos rfl];omega
 have h256:0<lenAt ll 256:=lit 256 (by decide) h256c;have hl1:∀x∈toksOf b,0<lenAt ll (tsym x):=λx hx=>lit _ (hts x hx).1 (hpos x hx)
 have hl2:∀x∈toksOf b,∀s,dsym x=some s→0<lenAt dl s:=λx hx s hs=>o2.pos s (by
  unfold distCs
  rw[qm0 _ ((hts x hx).2.2 s hs)]
  exact List.count_pos_iff.2 (List.mem_filterMap.2 ⟨x,hx,hs⟩))
 have hsy:∀s,s<286→0<litc b (toksOf b) s→s∈symsTo (litCs b) (litCs b).length:=λs hs h=>qeu.2 ⟨by simpa[litCs] using hs,by unfold litCs;rw[qm0 _ hs];exact h⟩
 have hw1:weight ll=32768:=by
  refine o1.full ?_;by_cases h0:b.length=0
  ·exact zdh (hsy 256 (by decide) h256c) (hsy 0 (by decide) (by unfold litc;rw[if_pos (show b.length=0∧0=0 from ⟨h0,rfl⟩)];omega)) (by decide)
  ·obtain⟨x,t,hx⟩:=List.exists_cons_of_ne_nil (zec (l:=qen b 32768) (show 0<b.length by omega));have hxm:x∈toksOf b:=by unfold toksOf;rw[hx];exact qcd
   exact zdh (hsy 256 (by decide) h256c) (hsy (tsym x) (hts x hxm).1 (hpos x hxm)) (qdx (hts x hxm).2.1)
 have hw2:=qiy o2;have wh1:iwhole (ll.take nl) false=true:=by unfold iwhole;rw[qg3 zl,hw1];rfl
 have wh2:iwhole (dl.take nd) true=true:=by
  unfold iwhole;rw[qg3 zd,decide_eq_true hw2];by_cases h2:2≤(symsTo (distCs b) (distCs b).length).length
  ·rw[o2.full h2];rfl
  ·have h3:some_ (dl.take nd)<2:=by have h4:some_ (dl.take nd)≤some_ dl:=((List.take_sublist nd dl).filter _).length_le;rw[qw6 o2]at h4;omega
   have h5:ones (dl.take nd)=true:=qi5.2 λx hx=>by simpa using o2.few (by omega) x (qb7 hx)
   rw[decide_eq_true h3,h5];simp
 have wh3:iwhole cl false=true:=by unfold iwhole;rw[T.full];rfl
 obtain⟨bs,hbs⟩:=zex (bytesOf bd++ext);have hat:At bs 0 bd:=by rw[hbs];exact qp2 bd ext
 rw[<-hbs];refine qyn ?_;have e2:bd=[true]++lsb 2 2++(lsb 5 (nl-257)++(lsb 5 (nd-1)++(lsb 4 (nc-4)++(((places.take nc).flatMap λi=>lsb 3 (lenAt cl i))++(rs.flatMap (rbits cl)++(tsbits (ll.take nl) (dl.take nd) (toksOf b)++sbits (ll.take nl) 256)))))):=by rw[e,T.bits,qky (ll:=ll.take nl) (dl:=dl.take nd) (ll':=ll) (dl':=dl) (λx _=>by rw[qkc zl]) (λx _ s _=>by rw[qkc zd]),qkc zl,qmm nc T.nc19,List.flatMap_map];simp only[if_true,qas]
 have hle1:∀l∈ll.take nl,l≤15:=λx hx=>o1.le x (qb7 hx)
 have hle2:∀l∈dl.take nd,l≤15:=λx hx=>o2.le x (qb7 hx)
 rw[e2]at hat ⊢;refine qop (by decide) hat (qum bs) ?_;unfold iblock;rw[if_neg (by decide),if_neg (by decide)];have a1:At bs 3 _:=hat.right;have a2:=a1.right;have a3:=a2.right;have a4:=a3.right;have a5:=a4.right;have a6:=a5.right;have k1:=qe8 a1.left (show nl-257<2^5 by omega);have k2:=qe8 a2.left (show nd-1<2^5 by omega);have n1:=T.nc4;have n2:=T.nc19;have k3:=qe8 a3.left (show nc-4<2^4 by omega);have k4:=qup T.cle _ (List.replicate 19 0) _ a4.left;rw[qze T.clen T.nc19 T.rest]at k4;have rl:=RunsOk.len T.runs;have k5:=qye (n:=nl-257+257+(nd-1)+1) (λx hx=>qar (T.cle x hx) (by decide)) (by rw[T.full];exact qae _) rs [] _ (nl-257+257+(nd-1)+1+1) _ T.runs
  (by rw[qab,qaq,qaq];omega) T.used (by rw[qab,qaq,qaq]at rl;simp only[qbi]at rl;omega) a5.left
 have k6:=qwy (qae _) hch hm hle1 hle2 (by rw[qg3 zl,hw1];exact qae _) (by rw[qg3 zd];exact hw2) (by rw[qfa zl];exact h256) (λx hx=>by rw[qfa zl];exact hl1 x hx) (λx hx s hs=>by rw[qfa zd];exact hl2 x hx s hs) a6;simp only[lsb_length]at k2 k3 k4 k5 k6;unfold idyn;rw[k1];dsimp only;rw[if_neg (by omega),k2];dsimp only;rw[if_neg (by omega),k3];dsimp only;unfold idyn2;have hn4:nc-4+4=nc:=by omega
 have hn:nl-257+257=nl:=by omega
 rw[hn4,k4];dsimp only;rw[wh3,if_neg (by decide)];unfold idyn3;rw[k5];dsimp only;rw[hn];have t1:(ll.take nl++dl.take nd).take nl=ll.take nl:=by rw[qc2 (by rw[qaq];omega),qov,Nat.min_self]
 have t2:(ll.take nl++dl.take nd).drop nl=dl.take nd:=by
  have:(ll.take nl).length=nl:=by rw[qaq];omega
  exact List.drop_left' this
 have t3:lenAt (ll.take nl++dl.take nd) 256=lenAt ll 256:=by unfold lenAt;rw[qcv (by rw[qaq];omega),List.getElem?_take_of_lt (by omega)]
 rw[t1,t2,t3,if_neg (by omega),wh1,if_neg (by decide),wh2,if_neg (by decide),k6];simp only[qab,lsb_length,qcb,toksOf]
theorem zbl {b r:List UInt8} {level:Int} (h:RawRes b level r) (hl:1≤level) (ext:List UInt8) (m:Nat) (hm:b.length≤m):iraw (r++ext) m = .ok (b,r.length):=by
 obtain⟨bf,h1,h2,h3⟩:=h;by_cases h0:level=1
 ·rw[h2 h0];exact qoj h1 ext m hm
 ·rcases (h3 (by omega)).1 with e|e|⟨bd,hd,e⟩
  ·rw[e];exact qoj h1 ext m hm
  ·rw[e];exact qn7 b ext m hm
  ·rw[e];exact zct hd ext m hm
theorem qhi:∀(cs:List (List UInt8)) (l:List Bool),l.length%8=0→(storedAll l cs).length=l.length+40*cs.length+8*cs.flatten.length
 | [],l,_=>by simp[storedAll]
 | b::t,l,h=>by have e:=qdf l t.isEmpty b;rw[storedAll,qhi t _ (by rw[e];omega),e,List.flatten_cons,qab,qao];omega
theorem qjx:∀(f:Nat) (b:List UInt8),(chunks f b).length≤b.length/65535+1
 | 0,b=>by simp[chunks]
 | f+1,b=>by
  rw[chunks];split
  ·have:=qjx f (b.drop 65535);rw[qav]at this;rw[qao];omega
  ·simp
theorem qqr (b:List UInt8):(plainBytes b).length=b.length+5*(chunks b.length b).length:=by unfold plainBytes plainBits;rw[bytesOf_length,qhi _ _ rfl,chunks_flatten,qbi];omega
theorem zbq (b:List UInt8):(plainBytes b).length≤b.length+5*(b.length/65535+1):=by rw[qqr];have:=qjx b.length b;omega
end Go.Proofs.YtkmpfgpfbmeihaaGreatDoor.trip
namespace Go.Proofs.YtkmpfgpfbmeihaaGreatDoor.inf
open Go Go.RowKit lib bm bl huf
structure St (w:World) (R p:Nat) (F:List Nat) (bs:List UInt8) (at_:Nat) (out:List UInt8) (oa:Option Addr) (oc most:Nat):Prop where
 box:w.heap[R]?=some (.cells #[.pointer (some ⟨p,0,none⟩),.slice oa out.length oc,.int .i64 most] 209 (0,0))
 rd:bits.Rd w p F bs at_
 own:w.ownsRow 0 5 1 (.slice oa out.length oc) out.length (out.map bv)
 r1:R∉F
 r2:R∉blk oa
 r3:∀x∈blk oa,x∉F
 low:∀x∈F,x<w.heap.size
 sm:most≤100000000
 sb:bs.length≤100000000
 om:out.length≤most
structure Way (w:World) (R p:Nat) (oa:Option Addr) (w':World) (oa':Option Addr):Prop where
 fr:Fr (R::p::blk oa) w w'
 new:∀x∈blk oa',x∈blk oa∨w.heap.size≤x
theorem Way.refl (w:World) (R p:Nat) (oa:Option Addr):Way w R p oa w oa:=⟨.refl _ w,λ_ h=>.inl h⟩
theorem Way.trans {w w1 w2:World} {R p:Nat} {oa oa1 oa2:Option Addr} (h:Way w R p oa w1 oa1) (k:Way w1 R p oa1 w2 oa2):Way w R p oa w2 oa2:=
 ⟨h.fr.step k.fr λx hx=>by
  simp only[qbh]at hx ⊢
  rcases hx with rfl|rfl|hx
  ·exact .inl (.inl rfl)
  ·exact .inl (.inr (.inl rfl))
  ·rcases h.new x hx with h1|h1
   ·exact .inl (.inr (.inr h1))
   ·exact .inr h1,λx hx=>by
  rcases k.new x hx with h1|h1
  ·exact h.new x h1
  ·exact .inr (qar h.fr.size h1)⟩
theorem Way.frW {w w1 w2:World} {R p:Nat} {oa oa1:Option Addr} (h:Way w R p oa w1 oa1) (f:Fr (R::p::blk oa1) w1 w2):Fr (R::p::blk oa) w w2:=
 h.fr.step f λx hx=>by
  simp only[qbh]at hx ⊢;rcases hx with rfl|rfl|hx
  ·exact .inl (.inl rfl)
  ·exact .inl (.inr (.inl rfl))
  ·rcases h.new x hx with h1|h1
   ·exact .inl (.inr (.inr h1))
   ·exact .inr h1
theorem Way.of (w w':World) (R p:Nat) (oa:Option Addr) (f:Fr [p] w w'):Way w R p oa w' oa:=⟨f.mono (by simp),λ_ h=>.inl h⟩
theorem Way.of0 (w w':World) (R p:Nat) (oa:Option Addr) (f:Fr [] w w'):Way w R p oa w' oa:=⟨f.mono (by simp),λ_ h=>.inl h⟩
theorem Way.old {w w':World} {R p:Nat} {oa oa':Option Addr} (h:Way w R p oa w' oa') {x:Nat} (hx:x<w.heap.size) (hn:x∉R::p::blk oa):x∉R::p::blk oa':=by
 simp only[qbh,not_or]at hn ⊢;refine⟨hn.1,hn.2.1,λh1=>?_⟩;rcases h.new x h1 with h2|h2
 ·exact hn.2.2 h2
 ·omega
theorem St.fr {w w':World} {R p:Nat} {F S:List Nat} {bs out:List UInt8} {at_ oc most:Nat} {oa:Option Addr} (h:St w R p F bs at_ out oa oc most) (f:Fr S w w') (hR:R∉S) (hF:∀x∈F,x∉S) (ho:∀x∈blk oa,x∉S):St w' R p F bs at_ out oa oc most:=
 ⟨f.blk h.box hR,bits.qsd h.rd f hF,qa7 h.own f (λk hk=>ho k (by rw[<-qby oa out.length oc,hk];simp)),h.r1,h.r2,h.r3,λx hx=>qat (h.low x hx) f.size,h.sm,h.sb,h.om⟩
theorem St.fr0 {w w':World} {R p:Nat} {F:List Nat} {bs out:List UInt8} {at_ oc most:Nat} {oa:Option Addr} (h:St w R p F bs at_ out oa oc most) (f:Fr [] w w'):St w' R p F bs at_ out oa oc most:=h.fr f (by simp) (by simp) (by simp)
theorem St.pF {w:World} {R p:Nat} {F:List Nat} {bs out:List UInt8} {at_ oc most:Nat} {oa:Option Addr} (h:St w R p F bs at_ out oa oc most):p∈F∧at_≤8*bs.length:=by obtain⟨ao,cap,hr,hcs,rfl,hpb,hlen,hat,hcap,hmax⟩:=h.rd;exact⟨by simp,hat⟩
theorem St.take {w w':World} {R p:Nat} {F:List Nat} {bs out:List UInt8} {at_ a' oc most:Nat} {oa:Option Addr} (h:St w R p F bs at_ out oa oc most) (f:Fr [p] w w') (hr:bits.Rd w' p F bs a'):St w' R p F bs a' out oa oc most:=by
 have hp:=h.pF.1;refine⟨f.blk h.box (by simp;rintro rfl;exact h.r1 hp),hr,qa7 h.own f (λk hk=>?_),h.r1,h.r2,h.r3,λx hx=>qat (h.low x hx) f.size,h.sm,h.sb,h.om⟩;have hk2:k∈blk oa:=by rw[<-qby oa out.length oc,hk];simp
 simp;rintro rfl;exact h.r3 _ hk2 hp
theorem St.put {w1 w2:World} {R p n:Nat} {F:List Nat} {bs out:List UInt8} {at_ oc most cp2:Nat} {oa ao2:Option Addr} {c:UInt8} {o:Obj} (h:St w1 R p F bs at_ out oa oc most) (hn:n=out.length) (hl:n<most)
  (A:Appended (w1.alloc o) w2 5 1 (blk oa) ao2 (n+1) cp2 (out.map bv++[bv c])) :
  St (w2.setCell ⟨R,1,none⟩ (.slice ao2 (n+1) cp2)) R p F bs at_ (out++[c]) ao2 cp2 most∧Way w1 R p oa (w2.setCell ⟨R,1,none⟩ (.slice ao2 (n+1) cp2)) ao2:=by
 have f2:Fr (blk oa) w1 w2:=((Fr.refl _ w1).alloc _).trans A.fr;have fR:Fr [R] w2 (w2.setCell ⟨R,1,none⟩ (.slice ao2 (n+1) cp2)):=(Fr.refl [R] w2).setCell (by simp) _;have b2:=f2.blk h.box h.r2;have hRw:R<w1.heap.size:=lt_of_block h.box;have hR2:R∉blk ao2:=λhx=>by
  rcases A.at_ R hx with k|k
  ·exact h.r2 k
  ·rw[qa1]at k;omega
 have e:(out++[c]).length=n+1:=by rw[hn];simp
 have hpF:=h.pF.1;refine⟨⟨?_,?_,?_,h.r1,hR2,λx hx hF=>?_,λx hx=>qat (h.low x hx) (qar f2.size fR.size),h.sm,h.sb,by rw[e];omega⟩,⟨?_,λx hx=>?_⟩⟩
 ·rw[qax b2,e];rfl
 ·exact bits.qsd (bits.qsd h.rd f2 (λx hx hb=>h.r3 x hb hx)) fR (λx hx hb=>by simp at hb;rw[hb]at hx;exact h.r1 hx)
 ·rw[e,qbe];exact qa7 A.own fR (λk hk=>by
   have hk2:k∈blk ao2:=by rw[<-qby ao2 (n+1) cp2,hk];simp
   simp
   rintro rfl
   exact hR2 hk2)
 ·rcases A.at_ x hx with k|k
  ·exact h.r3 x k hF
  ·rw[qa1]at k;have:=h.low x hF;omega
 ·exact (f2.mono (λx hx=>.inl (by simp[hx]))).trans (fR.mono (by simp))
 ·rcases A.at_ x hx with k|k
  ·exact .inl k
  ·rw[qa1]at k;exact .inr (by omega)
def Ret (w:World) (R p:Nat) (F:List Nat) (bs:List UInt8) (oa:Option Addr) (most:Nat) (m:Except Nat (List UInt8×Nat)) (e:Ending) (w':World):Prop:=
 (∃c,m = .error c∧0<c∧c<100∧e = .returned (.int .i64 (c:Nat))∧Fr (R::p::blk oa) w w')∨
 (∃out a oa' oc',m = .ok (out,a)∧e = .returned (.int .i64 0)∧St w' R p F bs a out oa' oc' most∧Way w R p oa w' oa')
def RetV (w:World) (R p:Nat) (F:List Nat) (bs out:List UInt8) (oa:Option Addr) (oc most:Nat) (m:Except Nat (Nat×Nat)) (e:Ending) (w':World):Prop:=
 (∃(v:Int) (c:Nat),m = .error c∧0<c∧c<100∧e = .returned (.tuple #[.int .i64 v,.int .i64 (c:Nat)])∧Fr (R::p::blk oa) w w')∨
 (∃v a,m = .ok (v,a)∧e = .returned (.tuple #[.int .i64 (v:Nat),.int .i64 0])∧St w' R p F bs a out oa oc most∧Fr [p] w w')
theorem qgc (R p:Nat) (F:List Nat) (bs out:List UInt8) (at_ oc most n:Nat) (oa:Option Addr) (w:World) (h:St w R p F bs at_ out oa oc most) (hn:n≤31) :
  Calls Tryz.prog 134 #[.pointer (some ⟨R,0,none⟩),.int .i64 n] w (RetV w R p F bs out oa oc most (itake bs at_ n)):=by
 have c0:=cell_of h.box 0;simp only[qag,qac,qaf]at c0;have H:=zhd h;clear h;by_cases hl:at_+n≤8*bs.length
 ·have hv:bval (((bytesBits bs).drop at_).take n)<4294967296:=qat (qgj _ _) (qar (qa3 (by decide) (show n≤32 by omega)) (by decide));obtain⟨v,hv2⟩:=zex (bval (((bytesBits bs).drop at_).take n));have ht:=zdi p F bs at_ n w H.out.rd (by omega) hl;have e:itake bs at_ n = .ok (v,at_+n):=by unfold itake;rw[if_pos hl,hv2]
  rw[e];rw[<-hv2]at ht hv;have HT:=zhd ht;clear ht hv2 e;go_enter Tryz.func134,Tryz.ntmps134;go_wp2_with (go_at_call 165;refine HT.out.mono ?_;rintro e w1 ⟨rfl,hr,f1⟩);go_ret2;exact .inr ⟨v,at_+n,rfl,rfl,H.out.take f1 hr,f1⟩
 ·have ht:=bits.qgb p F bs at_ n w H.out.rd (.inr (.inr (by omega)));have e:itake bs at_ n = .error 4:=by unfold itake;rw[if_neg hl]
  rw[e];have HT:=zhd ht;clear ht e;go_enter Tryz.func134,Tryz.ntmps134;go_wp2_with (go_at_call 165;refine HT.out.mono ?_;rintro e w1 ⟨rfl,hr,f1⟩);go_ret2;exact .inl ⟨_,4,rfl,by decide,by decide,rfl,f1.mono (by simp)⟩
theorem qkh (R p:Nat) (F:List Nat) (bs out:List UInt8) (at_ oc most:Nat) (oa:Option Addr) (c:UInt8) (w:World) (h:St w R p F bs at_ out oa oc most) :
  Calls Tryz.prog 186 #[.pointer (some ⟨R,0,none⟩),.int .u8 (c.toNat:Nat)] w (Ret w R p F bs oa most ((iput most out c).map λo=>(o,at_))):=by
 have c1:=cell_of h.box 1;have c2:=cell_of h.box 2;simp only[qag,qac,qaf]at c1 c2;obtain⟨n,hn⟩:=zex out.length;have hs:=h.sm;rw[<-hn]at c1;have H:=zhd2 h hn;clear h;by_cases hl:most≤n
 ·have e:iput most out c = .error 5:=by unfold iput;rw[if_pos (by omega)]
  rw[e];clear e hn;go_enter Tryz.func186,Tryz.ntmps186;go_upto_region 1 with fail;go_quiet (fail);go_wp2;go_ret;exact .inl ⟨5,rfl,by decide,by decide,rfl,.drewN _ _ _⟩
 ·have e:iput most out c = .ok (out++[c]):=by unfold iput;rw[if_neg (by omega)]
  rw[e];clear e hn;go_enter Tryz.func186,Tryz.ntmps186;go_upto_region 1 with fail;go_quiet (fail);obtain⟨w1,hw1⟩:=zex (w.drewN nq);have f1:Fr [] w w1:=by rw[hw1];exact .drewN _ _ _
  have S1:=H.o0.fr0 f1;have c1':=f1.cell c1 (by simp);rw[<-hw1];clear hw1 c1 c2;have HS:=zhd2 f1 S1;clear f1 S1;go_wp2_with (at_builtin;go_loud (refine qba bits.sliceU8 rfl _ _ rfl (.slice oa n oc) n (out.map bv) (blk oa) rfl (qby oa n oc) (by rw[H.l1];exact qa7 HS.l1.own ((Fr.refl [] w1).alloc _) (by simp)) (some ⟨w1.heap.size,0,none⟩) 1 1 [bv c] (by first|rfl|simp) (qae _) (λh=>by cases h) (qdp _ _ _ _ (qay _ _)) rfl (by intro u hu;simp only[qa2]at hu;rw[hu];rfl) (by omega) (by unfold maxLen;omega) ?_);intro ao2 cp2 w2 A2;have f2:Fr (blk oa) w1 w2:=(Fr.refl _ w1).trans (((Fr.refl _ w1).alloc _).trans A2.fr);have b2:=f2.blk HS.l1.box H.o0.r2;have z1:=qau b2 1;have d1:=cell_of b2 1;rw[<-H.l1]at d1;simp only[qag,qac,qaf]at d1;have HA:=zhd3 A2 f2 b2;clear A2 f2 b2 c1');go_ret;have hP:=HS.l1.put H.l1 (by omega) HA.o0;exact .inr ⟨_,_,ao2,cp2,rfl,rfl,hP.1,(Way.of0 _ _ _ _ _ HS.o0).trans hP.2⟩
end Go.Proofs.YtkmpfgpfbmeihaaGreatDoor.inf
namespace Go.Proofs.YtkmpfgpfbmeihaaGreatDoor.huf
open Go Go.RowKit lib bm bl
def symi (ls:List Nat) (l i:Nat):List Nat:=if l=0 then [] else syms ls l i
theorem ql6 (ls:List Nat) (l i:Nat):symi ls l (i+1)=symi ls l i++if lenAt ls i=l∧l≠0 then [i] else []:=by
 unfold symi;by_cases h:l=0
 ·simp[h]
 ·simp[h,ql1]
theorem ql7 (ls:List Nat) (l:Nat):(symi ls l ls.length).length=symn ls l:=by unfold symi symn;split<;>simp
theorem zeh (ls:List Nat) (l i:Nat):(symi ls l i).length≤i:=by
 unfold symi;split
 ·simp
 ·have:=qfd (λs=>lenAt ls s==l) (List.range i);rw[qh3]at this;exact this
theorem qv1 {ls:List Nat} {i l:Nat} (hi:i<ls.length) (hl:lenAt ls i=l) (h0:l≠0) (he:(symi ls l i).length=0):code ls i=nxt ls l:=by unfold symi at he;rw[if_neg h0,qit ls l i (by omega)]at he;unfold code;rw[hl,he,qbn]
structure TabI (w0 w:World) (P D:Nat) (ls:List Nat) (i:Nat) (first:Nat→Nat) (sa:Nat→Option Addr) (sc:Nat→Nat):Prop where
 box:∃A,w.heap[P]?=some (.cells A 309 (0,0))∧A.size=33∧(∀l,l<16→A[l]?=some (.int .u32 (first l:Nat)))∧(∀l,l<16→A[16+l]?=some (.slice (sa l) (symi ls l i).length (sc l)))∧A[32]?=some (.int .i64 (D:Nat))
 fst:∀l,0<(symi ls l i).length→first l=nxt ls l
 top:∀s,s<i→lenAt ls s≤D
 low:D≤15
 low':∀l,first l≤32768
 rows:∀l,l<16→Made w0 w 3 1 (sa l) (symi ls l i).length (sc l) (ints (symi ls l i))
 sep:∀l m,l<16→m<16→l≠m→∀x∈blk (sa l),x∉blk (sa m)
 off:∀l,l<16→P∉blk (sa l)
 new:w0.heap.size≤P
theorem TabI.tab {w0 w:World} {P D:Nat} {ls:List Nat} {first:Nat→Nat} {sa:Nat→Option Addr} {sc:Nat→Nat} (h:TabI w0 w P D ls ls.length first sa sc) (hlen:ls.length≤400):Tab w P D ls first sa sc:=by
 obtain⟨A,hA,h1,h2,h3,h4⟩:=h.box;refine⟨⟨A,hA,h1,h2,λl hl=>by rw[h3 l hl,ql7],h4⟩,λl hl=>h.fst l (by rw[ql7];exact hl),h.top,h.low,h.low',λl hl h0=>?_,hlen⟩;have hr:=h.rows l hl;have e:symi ls l ls.length=syms ls l ls.length:=by unfold symi;rw[if_neg (by omega)]
 rw[e]at hr;exact qpb hr rfl
def zeroT:Array Value:=#[.int .u32 0,.int .u32 0,.int .u32 0,.int .u32 0,.int .u32 0,.int .u32 0,.int .u32 0,.int .u32 0,.int .u32 0,.int .u32 0,.int .u32 0,.int .u32 0,.int .u32 0,.int .u32 0,.int .u32 0,.int .u32 0,.slice none 0 0,.slice none 0 0,.slice none 0 0,.slice none 0 0,.slice none 0 0,.slice none 0 0,.slice none 0 0,.slice none 0 0,.slice none 0 0,.slice none 0 0,.slice none 0 0,.slice none 0 0,.slice none 0 0,.slice none 0 0,.slice none 0 0,.slice none 0 0,.int .i64 0]
theorem zd3:∀l,l<16→zeroT[l]?=some (.int .u32 0)
 | 0,_=>rfl
 | 1,_=>rfl
 | 2,_=>rfl
 | 3,_=>rfl
 | 4,_=>rfl
 | 5,_=>rfl
 | 6,_=>rfl
 | 7,_=>rfl
 | 8,_=>rfl
 | 9,_=>rfl
 | 10,_=>rfl
 | 11,_=>rfl
 | 12,_=>rfl
 | 13,_=>rfl
 | 14,_=>rfl
 | 15,_=>rfl
 | _+16,h=>absurd h (by omega)
theorem zd4:∀l,l<16→zeroT[16+l]?=some (.slice none 0 0)
 | 0,_=>rfl
 | 1,_=>rfl
 | 2,_=>rfl
 | 3,_=>rfl
 | 4,_=>rfl
 | 5,_=>rfl
 | 6,_=>rfl
 | 7,_=>rfl
 | 8,_=>rfl
 | 9,_=>rfl
 | 10,_=>rfl
 | 11,_=>rfl
 | 12,_=>rfl
 | 13,_=>rfl
 | 14,_=>rfl
 | 15,_=>rfl
 | _+16,h=>absurd h (by omega)
theorem ql5 (ls:List Nat) (l:Nat):symi ls l 0=[]:=by unfold symi;split<;>simp[ql0]
theorem TabI.start (ls:List Nat) {w0 w1:World} (f:Fr [] w0 w1):TabI w0 (w1.alloc (.cells zeroT 309 (0,0))) w1.heap.size 0 ls 0 (λ_=>0) (λ_=>none) (λ_=>0):=by have f2:Fr [] w0 (w1.alloc (.cells zeroT 309 (0,0))):=f.trans ((Fr.refl [] w1).alloc _);refine⟨⟨zeroT,qay w1 _,rfl,zd3,λl hl=>by rw[ql5];exact zd4 l hl,rfl⟩,λl h=>by rw[ql5]at h;simp at h,λs hs=>by omega,by omega,λ_=>by omega,λl hl=>?_,λl m _ _ _ x hx=>by simp[blk]at hx,λl _=>by simp[blk],f.size⟩;rw[ql5];exact (Made.none w0 _ _).fr2 f2
theorem TabI.skip {w0 w:World} {P D i:Nat} {ls:List Nat} {first:Nat→Nat} {sa:Nat→Option Addr} {sc:Nat→Nat} (h:TabI w0 w P D ls i first sa sc) (h0:lenAt ls i=0):TabI w0 w P D ls (i+1) first sa sc:=by
 have e:∀l,symi ls l (i+1)=symi ls l i:=λl=>by rw[ql6,if_neg (by omega),qbr]
 obtain⟨A,hA,h1,h2,h3,h4⟩:=h.box;refine⟨⟨A,hA,h1,h2,λl hl=>by rw[e];exact h3 l hl,h4⟩,λl hl=>h.fst l (by rw[e]at hl;exact hl),λs hs=>?_,h.low,h.low',λl hl=>by rw[e];exact h.rows l hl,h.sep,h.off,h.new⟩;rcases Nat.lt_succ_iff_lt_or_eq.1 hs with h5|h5
 ·exact h.top s h5
 ·rw[h5,h0];exact qa5 _
theorem TabI.fr {w0 w w':World} {P D i:Nat} {ls:List Nat} {first:Nat→Nat} {sa:Nat→Option Addr} {sc:Nat→Nat} (h:TabI w0 w P D ls i first sa sc) (f:Fr [] w w'):TabI w0 w' P D ls i first sa sc:=by obtain⟨A,hA,h1⟩:=h.box;exact⟨⟨A,f.blk hA (by simp),h1⟩,h.fst,h.top,h.low,h.low',λl hl=>(h.rows l hl).fr2 f,h.sep,h.off,h.new⟩
theorem TabI.setFirst {w0 w:World} {P D i x:Nat} {ls:List Nat} {first:Nat→Nat} {sa:Nat→Option Addr} {sc:Nat→Nat} (h:TabI w0 w P D ls i first sa sc) (hx:x<16) (hn:nxt ls x≤32768) :
  TabI w0 (w.setCell ⟨P,x,none⟩ (.int .u32 (nxt ls x:Nat))) P D ls i (λl=>if l=x then nxt ls x else first l) sa sc:=by
 obtain⟨A,hA,h1,h2,h3,h4⟩:=h.box;have f:Fr [P] w (w.setCell ⟨P,x,none⟩ (.int .u32 (nxt ls x:Nat))):=(Fr.refl [P] w).setCell (by simp) _;refine⟨⟨_,qax hA _,by simp[h1],λl hl=>?_,λl hl=>?_,?_⟩,λl hl=>?_,h.top,h.low,λl=>?_,λl hl=>?_,h.sep,h.off,h.new⟩
 ·by_cases e:l=x
  ·subst e;rw[if_pos rfl,qal (by omega)]
  ·rw[if_neg e,qaa (by omega)];exact h2 l hl
 ·rw[qaa (by omega)];exact h3 l hl
 ·rw[qaa (by omega)];exact h4
 ·show (if l=x then nxt ls x else first l)=nxt ls l;split
  ·rename_i e;rw[e]
  ·exact h.fst l hl
 ·show (if l=x then nxt ls x else first l)≤32768;split
  ·exact hn
  ·exact h.low' l
 ·have m:=h.rows l hl;exact⟨qa7 m.own f (λy hy hm=>h.off l hl (by simp at hm;rw[<-hm];have e:=qby (sa l) (symi ls l i).length (sc l);rw[<-e,hy];simp)),m.fr.step f (λz hz=>.inr (by simp at hz;rw[hz];exact h.new)),m.new,m.le,m.max,m.nil⟩
theorem Made.frS {w0 w w':World} {S:List Nat} {e:TypeId} {size:Nat} {ao:Option Addr} {n cap:Nat} {xs:List Value} (h:Made w0 w e size ao n cap xs) (f:Fr S w w') (hn:∀y∈blk ao,y∉S) (hS:∀z∈S,w0.heap.size≤z):Made w0 w' e size ao n cap xs:=
 ⟨qa7 h.own f (λy hy=>hn y (by rw[<-qby ao n cap,hy];simp)),h.fr.step f (λz hz=>.inr (hS z hz)),h.new,h.le,h.max,h.nil⟩
theorem TabI.push {w0 w w2 w3 w4 w6:World} {P D i x q cp:Nat} {ls:List Nat} {first:Nat→Nat} {sa:Nat→Option Addr} {sc:Nat→Nat} {ao:Option Addr} (h0:TabI w0 w P D ls i first sa sc) (hfx:first x=nxt ls x) (hx:x<16) (hx0:x≠0) (hl:lenAt ls i=x) (hq:q=(symi ls x i).length)
  (f1:Fr [] w w2) (h2:Appended w2 w3 3 1 (blk (sa x)) ao (q+1) cp (ints (symi ls x i)++[.int .i64 i])) (f3:Fr [] w3 w4) (f5:Fr [] (w4.setCell ⟨P,16+x,none⟩ (.slice ao (q+1) cp)) w6) :
  TabI w0 (w6.setCell ⟨P,32,none⟩ (.int .i64 (max D x:Nat))) P (max D x) ls (i+1) first (λl=>if l=x then ao else sa l) (λl=>if l=x then cp else sc l):=by
 have h:=h0.fr f1;obtain⟨A,hA,h1,hlo,hhi,htop⟩:=h.box;have hPS:P∉blk (sa x):=h.off x hx;have hPw:P<w2.heap.size:=lt_of_block hA;have hPao:P∉blk ao:=λhP=>by
  rcases h2.at_ P hP with k|k
  ·exact hPS k
  ·omega
 have hA4:=f3.blk (h2.fr.blk hA hPS) (by simp);have hA6:=f5.blk (qax hA4 (o:=16+x) (.slice ao (q+1) cp)) (by simp);have g1:Fr [P] w4 (w4.setCell ⟨P,16+x,none⟩ (.slice ao (q+1) cp)):=(Fr.refl [P] _).setCell (by simp) _;have g2:Fr [P] w6 (w6.setCell ⟨P,32,none⟩ (.int .i64 (max D x:Nat))):=(Fr.refl [P] _).setCell (by simp) _;have hnew:∀z∈[P],w0.heap.size≤z:=λz hz=>by simp at hz;rw[hz];exact h.new
 have up:∀{ao':Option Addr} {n' c':Nat} {xs':List Value},Made w0 w3 3 1 ao' n' c' xs'→P∉blk ao'→Made w0 (w6.setCell ⟨P,32,none⟩ (.int .i64 (max D x:Nat))) 3 1 ao' n' c' xs':=λm hP=>(((m.fr2 f3).frS g1 (λy hy=>by simp;rintro rfl;exact hP hy) hnew).fr2 f5).frS g2 (λy hy=>by simp;rintro rfl;exact hP hy) hnew
 have es:∀l,l≠x→symi ls l (i+1)=symi ls l i:=λl hlx=>by rw[ql6,if_neg (by omega),qbr]
 have ex:symi ls x (i+1)=symi ls x i++[i]:=by rw[ql6,if_pos ⟨hl,hx0⟩]
 have exl:(symi ls x (i+1)).length=q+1:=by rw[ex,hq];simp
 have hnw:∀m,m<16→m≠x→∀y∈blk ao,y∉blk (sa m):=λm hm hne y hy hym=>by
  rcases h2.at_ y hy with k|k
  ·exact h.sep x m hx hm (λe=>hne e.symm) y k hym
  ·have:=(h.rows m hm).lt y hym;omega
 refine⟨⟨_,qax hA6 _,by simp[h1],λl hl16=>?_,λl hl16=>?_,?_⟩,λl hl0=>?_,λs hs=>?_,?_,h.low',λl hl16=>?_,λl m hl16 hm16 hne y hy=>?_,λl hl16=>?_,h.new⟩
 ·rw[qaa (by omega),qaa (by omega)];exact hlo l hl16
 ·rw[qaa (by omega)];by_cases e:l=x
  ·subst e;rw[qal (by omega),exl];simp
  ·rw[qaa (by omega),es l e];simp only[if_neg e];exact hhi l hl16
 ·rw[qal (by simp[h1])]
 ·by_cases e:l=x
  ·rw[e];exact hfx
  ·rw[es l e]at hl0;exact h.fst l hl0
 ·rcases Nat.lt_succ_iff_lt_or_eq.1 hs with h5|h5
  ·have:=h.top s h5;omega
  ·rw[h5,hl];omega
 ·have:=h.low;omega
 ·by_cases e:l=x
  ·subst e;simp only[if_pos];rw[exl,ex];have m:=(h.rows l hx).app h2;have e2:ints (symi ls l i++[i])=ints (symi ls l i)++[.int .i64 i]:=by simp[ints]
   rw[e2];exact up m hPao
  ·simp only[if_neg e];rw[es l e];exact up ((h.rows l hl16).frS h2.fr (λy hy hyx=>h.sep l x hl16 hx e y hy hyx) (λz hz=>(h.rows x hx).new z hz)) (h.off l hl16)
 ·by_cases e:l=x
  ·have e2:m≠x:=λhm=>hne (e.trans hm.symm)
   simp only[if_pos e]at hy;simp only[if_neg e2];exact hnw m hm16 e2 y hy
  ·simp only[if_neg e]at hy;by_cases e2:m=x
   ·simp only[if_pos e2];intro hym;exact hnw l hl16 e y hym hy
   ·simp only[if_neg e2];exact h.sep l m hl16 hm16 hne y hy
 ·by_cases e:l=x
  ·simp only[if_pos e];exact hPao
  ·simp only[if_neg e];exact h.off l hl16
theorem TabI.pre {w0 w1 w:World} {P D i:Nat} {ls:List Nat} {first:Nat→Nat} {sa:Nat→Option Addr} {sc:Nat→Nat} (h:TabI w1 w P D ls i first sa sc) (f:Fr [] w0 w1):TabI w0 w P D ls i first sa sc:=
 ⟨h.box,h.fst,h.top,h.low,h.low',λl hl=>(h.rows l hl).pre f,h.sep,h.off,qar f.size h.new⟩
def NewGood (w:World) (ls:List Nat) (e:Ending) (w':World):Prop:=
 ∃P D first sa sc,e = .returned (.tuple #[.pointer (some ⟨P,0,none⟩),.int .i64 0])∧TabI w w' P D ls ls.length first sa sc∧Fr [] w w'
theorem ze9 (a:Option Addr) (cap:Nat) (ls:List Nat) (w:World) (h:Ri w a cap ls) (hle:∀l∈ls,l≤15) (hlen:ls.length≤400) (hw:weight ls≤32768) :
  Calls Tryz.prog 187 #[.slice a ls.length cap] w (NewGood w ls):=by
 obtain⟨N,hN⟩:=zex ls.length;have hc:=qjw a cap ls w h hle hlen hw;unfold CodesGood at hc;rw[<-hN]at hlen hc ⊢;have H:=zhd5 h hle hN hc hw;clear h hle hN hc hw;go_enter Tryz.func187,Tryz.ntmps187;go_upto_block 0 with (go_at_call 205;refine H.out.2.2.2.1.mono ?_;rintro e w1 ⟨g,rfl,cg,ng,lg,f1⟩;have H1:=zhd4 cg ng lg f1;clear cg ng lg f1);obtain⟨P,hP⟩:=zex w1.heap.size;obtain⟨w2,hw2⟩:=zex (w1.alloc (.cells zeroT 309 (0,0)));have T0:TabI w1 w2 P 0 ls 0 (λ_=>0) (λ_=>none) (λ_=>0):=by rw[hw2,hP];exact TabI.start ls (Fr.refl [] w1)
 unfold zeroT at hw2;rw[<-hw2,<-hP];have f2:Fr [] w w2:=by rw[hw2];exact H1.l3.trans ((Fr.refl [] w1).alloc _)
 have cg2:Cs w2 (some ⟨g,0,none⟩) ((codesOf ls).map λx=>.int .u32 (x:Nat)):=by rw[hw2];exact H1.o0.fr ((Fr.refl [] w1).alloc _) (by simp)
 have H2:=zhd5 T0 f2 cg2 hP hw2;clear T0 f2 cg2 hP hw2;go_wp2;go_loopg [7,8,21] N (λk s7 s8 s21 wr=>∃(i D:Nat) (first:Nat→Nat) (sa:Nat→Option Addr) (sc:Nat→Nat),s21 = .int .i64 (i:Nat)∧i+k=N∧TabI w1 wr P D ls i first sa sc∧Fr [] w wr∧Cs wr (some ⟨g,0,none⟩) ((codesOf ls).map λx=>.int .u32 (x:Nat)));case atStart=>exact⟨0,0,_,_,_,rfl,by omega,H2.o0,H2.o1,H2.o2⟩
 case round=>
  obtain⟨i,D,first,sa,sc,rfl,hik,hT,hf,hcg⟩:=hrel;by_cases hi:i<N
  ·obtain⟨k,rfl⟩:∃k,gk=k+1:=⟨gk-1,by omega⟩;have hil:i<ls.length:=by rw[<-H.out.2.2.1];exact hi
   obtain⟨ga,o,ha,hc⟩:=(H.out.1.fr hf).at hil;subst ha;have hx15:=H.out.2.1 _ (qdj hil);have hla:lenAt ls i=ls[i]:=by unfold lenAt;rw[qai hil];rfl
   obtain⟨x,hx⟩:=zex (ls[i]);rw[<-hx]at hc hx15 hla;have HI:=zhd6 hT hf hcg hla hil hx;clear hT hf hcg hla hx;by_cases hx0:x=0
   ·subst hx0;go_wp2;go_roundg k;case measure=>omega
    case rel=>exact⟨i+1,D,first,sa,sc,by go_num,by omega,HI.out.1.skip HI.out.2.2.2.1,HI.out.2.1,HI.out.2.2.1⟩
   ·have b0:((x:Int)==0)=false:=by simp;omega
    have cells:=λ(wc:World) (first:Nat→Nat) (T:TabI w1 wc P D ls i first sa sc)=>show wc.cell? ⟨P,x,none⟩=some (.int .u32 (first x:Nat))∧wc.cell? ⟨P,16+x,none⟩=some (.slice (sa x) (symi ls x i).length (sc x))∧wc.cell? ⟨P,32,none⟩=some (.int .i64 D)∧wc.frozen? ⟨P,x,none⟩=false∧wc.frozen? ⟨P,16+x,none⟩=false∧wc.frozen? ⟨P,32,none⟩=false by obtain⟨A,hA,h1,h2,h3,h4⟩:=T.box;exact⟨by rw[cell_of hA];exact h2 x (by omega),by rw[cell_of hA];exact h3 x (by omega),by rw[cell_of hA];exact h4,qau hA _,qau hA _,qau hA _⟩
    obtain⟨c1,c2,c3,z1,z2,z3⟩:=cells wr first HI.out.1
    obtain⟨q,hq⟩:=zex ((symi ls x i).length);have hqi:q≤400:=by rw[hq];have:=zeh ls x i;omega
    have hcode:wr.cell? ⟨g,i,none⟩=some (.int .u32 (code ls i:Nat)):=by obtain⟨g',o',e,hcs⟩:=HI.out.2.2.1.at (by simp[codesOf];omega);cases e;rw[show (⟨g,i,none⟩:Addr)=⟨g,0+i,none⟩ by rw[qbg]];refine hcs i _ ?_;simp[codesOf,hil,codeAt];rw[if_neg (by rw[HI.out.2.2.2.1];exact hx0)]
    rw[<-hq]at c2 cells;have HQ:=zhd2 hq cells;have hN400:i<400:=by omega
    clear hq cells;go_upto_if 35 with fail;go_cut [] from 28 to 44 (λwc=>∃first',TabI w1 wc P D ls i first' sa sc∧first' x=nxt ls x∧Fr [] w wc∧Cs wc (some ⟨g,0,none⟩) ((codesOf ls).map λx=>.int .u32 (x:Nat)))
    case first=>
     by_cases hq0:q=0
     ·have b1:((q:Int)==0)=true:=by simp;omega
      have hcx:=qv1 hil HI.out.2.2.2.1 hx0 (by rw[<-HQ.out.1];exact hq0);have hnx:nxt ls x≤32768:=qqh ls (by exact H.out.2.1) H.out.2.2.2.2 x hx15;rw[hcx]at hcode;have HX:=zhd2 hcx hnx;clear hcx hnx;go_upto_region 10 with fail;refine qcu 9 (by kernel_rfl) (by kernel_rfl) ?_;simp only[qah,qan,qad,qaj];repeat (go_big_quiet_step (fail))
      refine wpQuiet_nil ?_;go_wp2;go_meet;have fd:Fr [] wr wr.drew:=Fr.drewN [] _ _;case rel=>exact⟨_,(HI.out.1.fr fd).setFirst (by omega) HX.l1,if_pos rfl,(HI.out.2.1.trans fd).step ((Fr.refl [P] _).setCell (by simp) _) (λz hz=>.inr (by simp at hz;rw[hz];exact qar H1.l3.size HI.out.1.new)),(HI.out.2.2.1.fr fd (by simp)).fr ((Fr.refl [P] _).setCell (by simp) _) (by intro z hz hm;have:=H1.o2;have:=H2.o3;simp[blk]at hz hm;omega)⟩
     ·have b1:((q:Int)==0)=false:=by simp;omega
      go_wp2;go_meet;case rel=>exact⟨first,HI.out.1,HI.out.1.fst x (by rw[<-HQ.out.1];omega),HI.out.2.1,HI.out.2.2.1⟩
    case rest=>
     obtain⟨first',hT,hfx,hf,hcg⟩:=hcut;obtain⟨c1,c2,c3,z1,z2,z3⟩:=HQ.out.2 wc first' hT
     have hPS:P∉blk (sa x):=hT.off x (by omega);have q1:∀y,(sup (blk (sa x)) wc.drew y).cell? ⟨P,16+x,none⟩=some (.slice (sa x) q (sc x)):=λy=>(qcm (blk (sa x)) wc.drew y).cell ((Fr.drew1 [] wc).cell c2 (by simp)) hPS
     go_upto_region 11 with fail;refine qg7 14 [(false,0),(false,1),(false,2),(false,3),(false,4),(false,5),(false,6),(false,7),(false,8),(false,11),(false,12),(true,9),(true,10),(false,13)] (blk (sa x)) (by kernel_rfl) (by kernel_rfl) (λ_ _ d _ _ h=>by cases d<;>exact h) ?_;simp only[qak,qam,qaz,qa0,qad,qaj,qbk];refine qgg 11 rfl ?_;simp only[qah,qan,qad,qaj,qak,qam];repeat (go_big_quiet_step (fail))
     refine wpQuiet_nil ?_;clear q1;refine qfp rfl ?_;intro X hX;go_wp2;refine hX.out _ _ wc.drew (Fr.refl _ _) ((Fr.refl (blk (sa x)) wc.drew).alloc _) ?_;clear hX X;refine qfp rfl ?_;intro X hX;obtain⟨w4,hw4⟩:∃w4,w4=(wc.alloc (.cells #[.int .i64 (i:Nat)] 3)).drew:=⟨_,rfl⟩;have f4:Fr [] wc w4:=by rw[hw4];exact ((Fr.refl [] wc).alloc _).drew
     have hcb:Cs w4 (some ⟨wc.heap.size,0,none⟩) [.int .i64 i]:=by rw[hw4];exact qdp _ _ _ _ ((Fr.drew1 [] _).blk (qay wc _) (by simp))
     have fb4:Fr (blk (sa x)) wc.drew w4:=by rw[hw4];exact (((Fr.refl (blk (sa x)) wc).alloc _).drew).from_drew
     have HF:=zhd7 hT hfx hf hcg f4 hcb fb4;rw[<-hw4];clear hT hfx hf hcg hw4 f4 hcb fb4;refine qda qdd _ _ rfl (.slice (sa x) q (sc x)) q (ints (symi ls x i)) (blk (sa x)) rfl (qby _ _ _) (by have:=((HF.o0.rows x (by omega)).fr2 HF.o4).own;rwa [<-HQ.out.1]at this) (some ⟨wc.heap.size,0,none⟩) 1 1 [.int .i64 i] rfl (qae _) (λh=>by cases h) HF.o5 rfl (by intro u hu;simp only[qa2]at hu;rw[hu];rfl) (by omega) (by unfold maxLen;omega) ?_;intro a5 c5 w5 A5;have fb5:Fr (blk (sa x)) wc.drew w5:=HF.l6.step A5.fr λy hy=>.inl hy
     refine hX.out _ _ wc.drew (Fr.refl _ _) fb5 ?_;clear hX X;simp only[Act.put,qbb,qbx,qbq];clear c2 c3 z2 z3;have T4:=HF.o0.fr HF.o4;obtain⟨A4,hA4,hs4,hlo4,hhi4,htp4⟩:=T4.box;have hA5:=A5.fr.blk hA4 hPS;have z2:=qau hA5 (16+x);have c2:=cell_of hA5 (16+x);rw[hhi4 x (by omega)]at c2;have hA6:=qax hA5 (o:=16+x) (.slice a5 (q+1) c5);have c3:=cell_of hA6 32;rw[qaa (by omega),htp4]at c3;have z3:=qau hA6 32;have HA:=zhd2 A5 fb5;clear hA4 hs4 hlo4 hhi4 htp4 hA5 hA6 A5 fb5 T4 c1 z1;refine qgg 1 rfl ?_;simp only[qah,qan,qad,qaj,qak,qam];repeat (go_big_quiet_step (fail))
     refine wpQuiet_nil ?_;refine qlj ?_;have hT6:=TabI.push (w6:=w5.setCell ⟨P,16+x,none⟩ (.slice a5 (q+1) c5)) HF.o0 HF.o1 (by omega) hx0 HI.out.2.2.2.1 HQ.out.1 HF.o4 HA.o0 (Fr.refl [] _) (Fr.refl [] _);have hf6:∀u:Value,Fr [] w ((w5.setCell ⟨P,16+x,none⟩ (.slice a5 (q+1) c5)).setCell ⟨P,32,none⟩ u):=λu=>by
      have f1:Fr [] w wc:=HF.o2;have f2:Fr (P::blk (sa x)) wc ((w5.setCell ⟨P,16+x,none⟩ (.slice a5 (q+1) c5)).setCell ⟨P,32,none⟩ u):=((((Fr.refl _ wc).drew).trans (HA.l1.mono (λy hy=>.inl (qcf _ hy)))).setCell (by simp) _).setCell (by simp) _;exact f1.step f2 λz hz=>by
       rcases qbh.1 hz with rfl|hz
       ·exact .inr (qar H1.l3.size HF.o0.new)
       ·exact .inr (qar H1.l3.size ((HF.o0.rows x (by omega)).new z hz))
     have hcg6:∀u:Value,Cs ((w5.setCell ⟨P,16+x,none⟩ (.slice a5 (q+1) c5)).setCell ⟨P,32,none⟩ u) (some ⟨g,0,none⟩) ((codesOf ls).map λx=>.int .u32 (x:Nat)):=λu=>by
      have f2:Fr (P::blk (sa x)) wc ((w5.setCell ⟨P,16+x,none⟩ (.slice a5 (q+1) c5)).setCell ⟨P,32,none⟩ u):=((((Fr.refl _ wc).drew).trans (HA.l1.mono (λy hy=>.inl (qcf _ hy)))).setCell (by simp) _).setCell (by simp) _;refine HF.o3.fr f2 λy hy hm=>?_
      simp[blk]at hy;have hg:g<w1.heap.size:=H1.o2;rcases qbh.1 hm with h1|h1
      ·have:=HF.o0.new;omega
      ·have:=(HF.o0.rows x (by omega)).new y h1;omega
     have HZ:=zhd3 hT6 hf6 hcg6;clear hT6 hf6 hcg6;go_wp2
     ·go_roundg k;case measure=>omega
      case rel=>
       have hD:max D x=x:=by omega
       have hT6:=HZ.o0;rw[hD]at hT6;exact⟨i+1,x,first',_,_,by go_num,by omega,hT6,HZ.o1 _,HZ.l2 _⟩
     ·go_roundg k;case measure=>omega
      case rel=>
       have hD:max D x=D:=by omega
       have hT6:=HZ.o0;rw[hD]at hT6;exact⟨i+1,D,first',_,_,by go_num,by omega,hT6,HZ.o1 _,HZ.l2 _⟩
  ·obtain rfl:i=N:=by omega
   have HI:=zhd2 hT hf;clear hT hf hcg hi hik;go_wp2;go_ret2;have hT:=HI.out.1;rw[H.out.2.2.1]at hT;exact⟨P,D,first,sa,sc,rfl,hT.pre H1.l3,HI.out.2⟩
structure TabB (w:World) (P D:Nat) (ls:List Nat) (first:Nat→Nat) (sa:Nat→Option Addr) (sc:Nat→Nat) (B E:Nat):Prop where
 tab:Tab w P D ls first sa sc
 at_:B≤P∧P<E
 row:∀l,l<16→∀x∈blk (sa l),B≤x∧x<E
def NewTab (w:World) (ls:List Nat) (e:Ending) (w':World):Prop:=
 ∃P D first sa sc,e = .returned (.tuple #[.pointer (some ⟨P,0,none⟩),.int .i64 0])∧TabB w' P D ls first sa sc w.heap.size w'.heap.size∧Fr [] w w'
theorem qsm (a:Option Addr) (cap:Nat) (ls:List Nat) (w:World) (h:Ri w a cap ls) (hle:∀l∈ls,l≤15) (hlen:ls.length≤400) (hw:weight ls≤32768) :
  Calls Tryz.prog 187 #[.slice a ls.length cap] w (NewTab w ls):=
 (ze9 a cap ls w h hle hlen hw).mono λe w' ⟨P,D,first,sa,sc,h1,h2,h3⟩=>⟨P,D,first,sa,sc,h1,⟨h2.tab hlen,⟨h2.new,by obtain⟨A,hA,_⟩:=h2.box;exact lt_of_block hA⟩,λl hl x hx=>⟨(h2.rows l hl).new x hx,(h2.rows l hl).lt x hx⟩⟩,h3⟩
theorem qzs (a:Option Addr) (cap:Nat) (ls:List Nat) (w:World) (h:Ri w a cap ls) (hle:∀l∈ls,l≤15) (hlen:ls.length≤400) (hw:32768<weight ls) :
  Calls Tryz.prog 205 #[.slice a ls.length cap] w λe w'=>e = .returned (.tuple #[.slice none 0 0,.int .i64 3])∧Fr [] w w':=by
 have hc:=qng a cap ls w h hle (by omega);have hwl:=qlw ls;obtain⟨W,hW⟩:=zex (weight ls);obtain⟨N,hN⟩:=zex ls.length;rw[<-hW]at hc hw hwl;rw[<-hN]at hc hlen hwl ⊢;have H:=zhd hc;clear hc hW hN h hle;go_enter Tryz.func205,Tryz.ntmps205;go_wp2_with (go_at_call 217;refine H.out.mono ?_;rintro e w1 ⟨rfl,rfl⟩);go_ret2;exact⟨rfl,.refl _ _⟩
theorem ze8 (a:Option Addr) (cap:Nat) (ls:List Nat) (w:World) (h:Ri w a cap ls) (hle:∀l∈ls,l≤15) (hlen:ls.length≤400) (hw:32768<weight ls) :
  Calls Tryz.prog 187 #[.slice a ls.length cap] w λe w'=>e = .returned (.tuple #[.pointer none,.int .i64 3])∧Fr [] w w':=by
 have H:=zhd (qzs a cap ls w h hle hlen hw);obtain⟨N,hN⟩:=zex ls.length;rw[<-hN]at H ⊢;clear h hle hw hN;go_enter Tryz.func187,Tryz.ntmps187;go_wp2_with (go_at_call 205;refine H.out.mono ?_;rintro e w1 ⟨rfl,f1⟩);go_ret2;exact⟨rfl,f1⟩
end Go.Proofs.YtkmpfgpfbmeihaaGreatDoor.huf
