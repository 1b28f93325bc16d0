/-
  Texts of this proof, one behind the other: Concat, Packs, SortG, HuffCnt, LensLaw.
-/
import Derived.Test.YtbabjlohkniciaaGreatDoorV6
set_option maxHeartbeats 16000000
set_option maxRecDepth 100000
set_option linter.unusedVariables false
set_option linter.unusedSimpArgs false
namespace Go.Proofs.YtbabjlohkniciaaGreatDoor.huf
open Go Go.RowKit lib bm bl
theorem qpg {w:World} {e:TypeId} {size cap:Nat} {A:Array Value} (hs:A.size=cap*size) (hc:cap≤maxLen):(w.alloc (.cells A e (0,0))).ownsRow 0 e size (.slice (some ⟨w.heap.size,0,none⟩) 0 cap) 0 []:=
 ⟨by simp,.inr ⟨w.heap.size,cap,A,rfl,qba _,qa4 w _,qba _,hc,hs,by simp⟩⟩
theorem qh3:SliceTy Tryz.prog 204 206 (.agg #[.int .i64 0,.slice none 0 0]) 2 32:=SliceTy.of Tryz.underlying204 (by kernel_rfl) rfl (by decide)
theorem qwz:(Tryz.prog.info? 206).map (λi=>(i.zero,i.size,i.bytes))=some (some (.agg #[.int .i64 0,.slice none 0 0]),2,32):=by kernel_rfl
theorem qxd (n:Nat) (w:World) (hn:n≤1000000) :
  Calls Tryz.prog 168 #[.slice none 0 0,.int .i64 (n:Nat)] w λe w'=>∃ao cap,e = .returned (.slice ao 0 cap)∧Made w w' 206 2 ao 0 cap []:=by
 by_cases h0:n=0
 ·subst h0;go_enter Tryz.func168,Tryz.ntmps168;go_wp2;go_ret;exact⟨none,0,rfl,.none w _ _⟩
 ·obtain⟨i,hi,hz,hs,hb⟩:=info_parts qwz;have hck:0+n=n:=qbe n;have hrz:∀ty,(Builtin.append_ #[204,3] ty #[.slice none 0 0,.int .i64 n]).run Tryz.prog w =
    .ok (.slice (some ⟨w.heap.size,0,none⟩) n (grownCap w n 0 206)) (w.drew.alloc (.cells (#[]++Builtin.zeroCells (.agg #[.int .i64 0,.slice none 0 0]:Value).cells n++Builtin.zeroCells (.agg #[.int .i64 0,.slice none 0 0]:Value).cells (grownCap w n 0 206-n)) 206)):=λty=>by
   have h:=Lib.run_append_grow_zeros (P:=Tryz.prog) w 204 3 ty 206 i (.agg #[.int .i64 0,.slice none 0 0]) .i64 .i64 Tryz.underlying204 Tryz.underlying3 hi hz none 0 0 [] (by exact run_firstCells_none (w:=w.drew) i.size 0 0 0) n (by omega) (by rw[hs];decide) (by omega) (by omega)
    (by rw[hb];omega) (by rw[hck,hb];exact growslice_fits (by omega) (by omega))
   rw[hck]at h
   exact h
  have hGn:n≤grownCap w n 0 206:=grownCap_ge w _ _ _;have hG63:=grownCap_le_maxLen w n 0 206 (by unfold maxLen;omega);obtain⟨G,hG⟩:=zex (grownCap w n 0 206);rw[<-hG]at hrz hGn hG63;have hGM:G≤9223372036854775807:=by unfold maxLen at hG63;omega
  have HM:=zhd hG63;clear hG hck hi hz hs hb hG63;go_enter Tryz.func168,Tryz.ntmps168;go_wp2_with (at_builtin;refine Lib.wpList_append_run _ rfl _ _ _ _ rfl _ _ rfl rfl _ _ (hrz _) ?_);all_goals (go_ret;refine⟨_,_,rfl,?_⟩)
  all_goals exact⟨qpg (w:=w.drew) (by simp only[Array.size_append,size_zeroCells,show (.agg #[.int .i64 0,.slice none 0 0]:Value).cells.size=2 from rfl];simp;omega) HM.out,((Fr.refl [] w).drew).alloc _,by simp[blk],qba _,HM.out,λh=>by cases h⟩
theorem qre (q:Nat) (a1 a2:Option Addr) (n1 n2 c1 c2:Nat) (xs ys:List Value) (w:World)
  (hq:w.heap[q]?=some (.cells #[.slice a1 n1 c1,.slice a2 n2 c2] 204 (0,0)))
  (h1:Cs w a1 xs) (h2:Cs w a2 ys) (l1:xs.length=n1*2) (l2:ys.length=n2*2) (k1:n1≤c1) (k2:n2≤c2) (z1:a1=none→c1=0) (z2:a2=none→c2=0)
  (u1:∀u∈xs,u.oneCell'=true) (u2:∀u∈ys,u.oneCell'=true) (b1:n1≤400000) (b2:n2≤400000) :
  Calls Tryz.prog 135 #[.slice (some ⟨q,0,none⟩) 2 2] w λe w'=>∃ao cap,e = .returned (.slice ao (n1+n2) cap)∧Made w w' 206 2 ao (n1+n2) cap (xs++ys):=by
 have d0:=cell_of hq 0;have d1:=cell_of hq 1;simp only[qae,qaa,qad]at d0 d1;have H:=zhd11 hq h1 h2 l1 l2 k1 k2 z1 z2 u1 u2;clear hq h1 h2 l1 l2 k1 k2 z1 z2 u1 u2;obtain⟨s,hs⟩:=zex (n1+n2);rw[<-hs];have e1:(n1:Int)+(n2:Int)=(s:Int):=by omega
 have HS:=zhd hs;have hsb:s≤1000000:=by omega
 clear hs;go_enter Tryz.func135,Tryz.ntmps135;go_wp2;go_loopg [3,5,11] 2 (λk s3 s5 s11 wr=>∃i:Nat,s11 = .int .i64 (i:Nat)∧i+k=2∧(s3 = .int .i64 ((if i=0 then 0 else if i=1 then n1 else s:Nat):Nat))∧w=wr);case atStart=>exact⟨0,rfl,rfl,rfl,rfl⟩
 case round=>
  obtain⟨i,rfl,hik,rfl,rfl⟩:=hrel;match i,hik with
  | 0,hik=>
   simp only[if_true];go_wp2;go_roundg 1;case measure=>omega
   case rel=>exact⟨1,rfl,rfl,by simp,rfl⟩
  | 1,hik=>
   simp only[Nat.one_ne_zero,if_false,if_true];go_wp2;go_roundg 0;case measure=>omega
   case rel=>exact⟨2,rfl,rfl,by simp,rfl⟩
  | 2,hik=>
   simp only[show ¬(2=0) from by decide,show ¬(2=1) from by decide,if_false];go_wp2_with (go_at_call 168;refine (qxd s w hsb).mono ?_;rintro e w2 ⟨ao,cap,rfl,hm⟩;have HM:=zhd hm;clear hm);go_loopg [6,8,27] 2 (λk s6 s8 s27 wr=>∃(i:Nat) (ao:Option Addr) (cap n:Nat),s27 = .int .i64 (i:Nat)∧i+k=2∧s6 = .slice ao n cap∧n=(if i=0 then 0 else if i=1 then n1 else n1+n2)∧Made w wr 206 2 ao n cap (if i=0 then [] else if i=1 then xs else xs++ys));case atStart=>exact⟨0,ao,cap,0,rfl,rfl,rfl,rfl,HM.out⟩
   case round=>
    obtain⟨i,ao,cap,n,rfl,hik,rfl,hn,hm⟩:=hrel;obtain⟨hq,h1,h2,l1,l2,k1,k2,z1,z2,u1,u2⟩:=H.out;have d2:=hm.fr.cell d0 (by simp);have d3:=hm.fr.cell d1 (by simp);have h1':=h1.fr hm.fr (by simp);have h2':=h2.fr hm.fr (by simp);match i,hik with
    | 0,hik=>
     simp only[if_true]at hn hm;subst hn;have HK:=zhd6 hm h1' l1 k1 z1 u1;clear hm h1' h2' hq h1 h2 l1 l2 k1 k2 z1 z2 u1 u2 d3;go_wp2_with (refine qa5 qh3 rfl _ _ rfl (.slice ao 0 cap) 0 [] (blk ao) rfl (qbp ao 0 cap) HK.out.1.own a1 n1 c1 xs rfl HK.out.2.2.2.1 HK.out.2.2.2.2.1 HK.out.2.1 HK.out.2.2.1 HK.out.2.2.2.2.2 (by omega) (by unfold maxLen;omega) ?_;intro ao2 cap2 w3 hap;have HA:=zhd hap;clear hap);go_roundg 1;case measure=>omega
     case rel=>exact⟨1,ao2,cap2,n1,rfl,rfl,by simp,by simp,by simpa using HK.out.1.app HA.out⟩
    | 1,hik=>
     simp only[Nat.one_ne_zero,if_false,if_true]at hn hm;subst hn;have HK:=zhd6 hm h2' l2 k2 z2 u2;clear hm h1' h2' hq h1 h2 l1 l2 k1 k2 z1 z2 u1 u2 d2;go_wp2_with (refine qa5 qh3 rfl _ _ rfl (.slice ao n cap) n xs (blk ao) rfl (qbp ao n cap) HK.out.1.own a2 n2 c2 ys rfl HK.out.2.2.2.1 HK.out.2.2.2.2.1 HK.out.2.1 HK.out.2.2.1 HK.out.2.2.2.2.2 (by omega) (by unfold maxLen;omega) ?_;intro ao2 cap2 w3 hap;have HA:=zhd hap;clear hap);go_roundg 0;case measure=>omega
     case rel=>exact⟨2,ao2,cap2,n+n2,rfl,rfl,rfl,by simp,by simpa using HK.out.1.app HA.out⟩
    | 2,hik=>
     simp only[show ¬(2=0) from by decide,show ¬(2=1) from by decide,if_false]at hn hm;rw[<-HS.out]at hn;subst hn;have HK:=zhd hm;clear hm h1' h2' hq h1 h2 l1 l2 k1 k2 z1 z2 u1 u2 d2 d3;go_wp2;go_ret;exact⟨ao,cap,rfl,by rw[HS.out];have:=HK.out;rwa [HS.out]at this⟩
    | k+3,hik=>omega
  | k+3,hik=>omega
theorem zaf (n:Nat) (w:World) (hn:n≤1000000) :
  Calls Tryz.prog 194 #[.slice none 0 0,.int .i64 (n:Nat)] w λe w'=>∃ao cap,e = .returned (.slice ao 0 cap)∧Made w w' 3 1 ao 0 cap []:=by
 by_cases h0:n=0
 ·subst h0;go_enter Tryz.func194,Tryz.ntmps194;go_wp2;go_ret;exact⟨none,0,rfl,.none w _ _⟩
 ·obtain⟨i,hi,hz,hs,hb⟩:=info_parts qnw;have hck:0+n=n:=qbe n;have hrz:∀ty,(Builtin.append_ #[128,3] ty #[.slice none 0 0,.int .i64 n]).run Tryz.prog w =
    .ok (.slice (some ⟨w.heap.size,0,none⟩) n (grownCap w n 0 3)) (w.drew.alloc (.cells (#[]++Builtin.zeroCells (.int .i64 0:Value).cells n++Builtin.zeroCells (.int .i64 0:Value).cells (grownCap w n 0 3-n)) 3)):=λty=>by
   have h:=Lib.run_append_grow_zeros (P:=Tryz.prog) w 128 3 ty 3 i (.int .i64 0) .i64 .i64 Tryz.underlying128 Tryz.underlying3 hi hz none 0 0 [] (by exact run_firstCells_none (w:=w.drew) i.size 0 0 0) n (by omega) (by rw[hs];decide) (by omega) (by omega)
    (by rw[hb];omega) (by rw[hck,hb];exact growslice_fits (by omega) (by omega))
   rw[hck]at h
   exact h
  have hGn:n≤grownCap w n 0 3:=grownCap_ge w _ _ _;have hG63:=grownCap_le_maxLen w n 0 3 (by unfold maxLen;omega);obtain⟨G,hG⟩:=zex (grownCap w n 0 3);rw[<-hG]at hrz hGn hG63;have hGM:G≤9223372036854775807:=by unfold maxLen at hG63;omega
  have HM:=zhd hG63;clear hG hck hi hz hs hb hG63;go_enter Tryz.func194,Tryz.ntmps194;go_wp2_with (at_builtin;refine Lib.wpList_append_run _ rfl _ _ _ _ rfl _ _ rfl rfl _ _ (hrz _) ?_);all_goals (go_ret;refine⟨_,_,rfl,?_⟩)
  all_goals exact⟨qpg (w:=w.drew) (by simp only[Array.size_append,size_zeroCells,show (.int .i64 0:Value).cells.size=1 from rfl];simp;omega) HM.out,((Fr.refl [] w).drew).alloc _,by simp[blk],qba _,HM.out,λh=>by cases h⟩
theorem qum (q:Nat) (a1 a2:Option Addr) (n1 n2 c1 c2:Nat) (xs ys:List Value) (w:World)
  (hq:w.heap[q]?=some (.cells #[.slice a1 n1 c1,.slice a2 n2 c2] 128 (0,0)))
  (h1:Cs w a1 xs) (h2:Cs w a2 ys) (l1:xs.length=n1*1) (l2:ys.length=n2*1) (k1:n1≤c1) (k2:n2≤c2) (z1:a1=none→c1=0) (z2:a2=none→c2=0)
  (u1:∀u∈xs,u.oneCell'=true) (u2:∀u∈ys,u.oneCell'=true) (b1:n1≤400000) (b2:n2≤400000) :
  Calls Tryz.prog 169 #[.slice (some ⟨q,0,none⟩) 2 2] w λe w'=>∃ao cap,e = .returned (.slice ao (n1+n2) cap)∧Made w w' 3 1 ao (n1+n2) cap (xs++ys):=by
 have d0:=cell_of hq 0;have d1:=cell_of hq 1;simp only[qae,qaa,qad]at d0 d1;have H:=zhd11 hq h1 h2 l1 l2 k1 k2 z1 z2 u1 u2;clear hq h1 h2 l1 l2 k1 k2 z1 z2 u1 u2;obtain⟨s,hs⟩:=zex (n1+n2);rw[<-hs];have e1:(n1:Int)+(n2:Int)=(s:Int):=by omega
 have HS:=zhd hs;have hsb:s≤1000000:=by omega
 clear hs;go_enter Tryz.func169,Tryz.ntmps169;go_wp2;go_loopg [3,5,11] 2 (λk s3 s5 s11 wr=>∃i:Nat,s11 = .int .i64 (i:Nat)∧i+k=2∧(s3 = .int .i64 ((if i=0 then 0 else if i=1 then n1 else s:Nat):Nat))∧w=wr);case atStart=>exact⟨0,rfl,rfl,rfl,rfl⟩
 case round=>
  obtain⟨i,rfl,hik,rfl,rfl⟩:=hrel;match i,hik with
  | 0,hik=>
   simp only[if_true];go_wp2;go_roundg 1;case measure=>omega
   case rel=>exact⟨1,rfl,rfl,by simp,rfl⟩
  | 1,hik=>
   simp only[Nat.one_ne_zero,if_false,if_true];go_wp2;go_roundg 0;case measure=>omega
   case rel=>exact⟨2,rfl,rfl,by simp,rfl⟩
  | 2,hik=>
   simp only[show ¬(2=0) from by decide,show ¬(2=1) from by decide,if_false];go_wp2_with (go_at_call 194;refine (zaf s w hsb).mono ?_;rintro e w2 ⟨ao,cap,rfl,hm⟩;have HM:=zhd hm;clear hm);go_loopg [6,8,27] 2 (λk s6 s8 s27 wr=>∃(i:Nat) (ao:Option Addr) (cap n:Nat),s27 = .int .i64 (i:Nat)∧i+k=2∧s6 = .slice ao n cap∧n=(if i=0 then 0 else if i=1 then n1 else n1+n2)∧Made w wr 3 1 ao n cap (if i=0 then [] else if i=1 then xs else xs++ys));case atStart=>exact⟨0,ao,cap,0,rfl,rfl,rfl,rfl,HM.out⟩
   case round=>
    obtain⟨i,ao,cap,n,rfl,hik,rfl,hn,hm⟩:=hrel;obtain⟨hq,h1,h2,l1,l2,k1,k2,z1,z2,u1,u2⟩:=H.out;have d2:=hm.fr.cell d0 (by simp);have d3:=hm.fr.cell d1 (by simp);have h1':=h1.fr hm.fr (by simp);have h2':=h2.fr hm.fr (by simp);match i,hik with
    | 0,hik=>
     simp only[if_true]at hn hm;subst hn;have HK:=zhd6 hm h1' l1 k1 z1 u1;clear hm h1' h2' hq h1 h2 l1 l2 k1 k2 z1 z2 u1 u2 d3;go_wp2_with (refine qa5 qcn rfl _ _ rfl (.slice ao 0 cap) 0 [] (blk ao) rfl (qbp ao 0 cap) HK.out.1.own a1 n1 c1 xs rfl HK.out.2.2.2.1 HK.out.2.2.2.2.1 HK.out.2.1 HK.out.2.2.1 HK.out.2.2.2.2.2 (by omega) (by unfold maxLen;omega) ?_;intro ao2 cap2 w3 hap;have HA:=zhd hap;clear hap);go_roundg 1;case measure=>omega
     case rel=>exact⟨1,ao2,cap2,n1,rfl,rfl,by simp,by simp,by simpa using HK.out.1.app HA.out⟩
    | 1,hik=>
     simp only[Nat.one_ne_zero,if_false,if_true]at hn hm;subst hn;have HK:=zhd6 hm h2' l2 k2 z2 u2;clear hm h1' h2' hq h1 h2 l1 l2 k1 k2 z1 z2 u1 u2 d2;go_wp2_with (refine qa5 qcn rfl _ _ rfl (.slice ao n cap) n xs (blk ao) rfl (qbp ao n cap) HK.out.1.own a2 n2 c2 ys rfl HK.out.2.2.2.1 HK.out.2.2.2.2.1 HK.out.2.1 HK.out.2.2.1 HK.out.2.2.2.2.2 (by omega) (by unfold maxLen;omega) ?_;intro ao2 cap2 w3 hap;have HA:=zhd hap;clear hap);go_roundg 0;case measure=>omega
     case rel=>exact⟨2,ao2,cap2,n+n2,rfl,rfl,rfl,by simp,by simpa using HK.out.1.app HA.out⟩
    | 2,hik=>
     simp only[show ¬(2=0) from by decide,show ¬(2=1) from by decide,if_false]at hn hm;rw[<-HS.out]at hn;subst hn;have HK:=zhd hm;clear hm h1' h2' hq h1 h2 l1 l2 k1 k2 z1 z2 u1 u2 d2 d3;go_wp2;go_ret;exact⟨ao,cap,rfl,by rw[HS.out];have:=HK.out;rwa [HS.out]at this⟩
    | k+3,hik=>omega
  | k+3,hik=>omega
def cellsOf (ms:List Mc):List Value:=ms.flatMap λm=>[.int .i64 (m.worth:Nat),.slice m.ao m.len m.cap]
theorem qdj (ms:List Mc):(cellsOf ms).length=ms.length*2:=by
 induction ms with
 | nil=>rfl
 | cons m ms ih=>simp only[cellsOf,qca,qab,qam,qbb]at ih ⊢;omega
theorem qfo (a b:List Mc):cellsOf (a++b)=cellsOf a++cellsOf b:=by simp[cellsOf]
theorem qe6:∀(ms:List Mc) (i:Nat) (m:Mc),ms[i]?=some m→(cellsOf ms)[i*2]?=some (.int .i64 (m.worth:Nat))∧(cellsOf ms)[i*2+1]?=some (.slice m.ao m.len m.cap)
 | [],i,m,h=>by simp at h
 | x::ms,0,m,h=>by
  simp only[qaa,qas]at h;subst h;exact⟨rfl,rfl⟩
 | x::ms,i+1,m,h=>by have:=qe6 ms i m (by simpa using h);rw[show (i+1)*2=i*2+2 from by omega];exact this
theorem qlp (ms:List Mc):∀u∈cellsOf ms,u.oneCell'=true:=by intro u hu;simp only[cellsOf,List.mem_flatMap,qaw,qby,or_false]at hu;obtain⟨m,_,rfl|rfl⟩:=hu<;>rfl
structure In (w:World) (m:Mc) (c:Coin):Prop where
 worth:m.worth=c.1
 len:m.len=c.2.length
 pos:0<m.len
 own:w.ownsRow 0 3 1 (.slice m.ao m.len m.cap) m.len (ints c.2)
theorem In.shape {w:World} {m:Mc} {c:Coin} (h:In w m c):∃b A,m.ao=some ⟨b,0,none⟩∧w.heap[b]?=some (.cells A 3 (0,0))∧m.len≤m.cap∧m.cap≤maxLen:=by
 rcases h.own.2 with⟨h1,h2⟩|⟨g,cap,cur,h1,_,h2,h3,h4,_,_⟩
 ·have:=h.pos;omega
 ·simp only[qbn,true_and]at h1;obtain⟨e1,e2⟩:=h1;exact⟨g,cur,e1,h2,by omega,by omega⟩
theorem In.fr {S:List Nat} {w w':World} {m:Mc} {c:Coin} (h:In w m c) (f:Fr S w w') (hS:∀x∈S,∀A fz,w.heap[x]?≠some (.cells A 3 fz)):In w' m c:=by refine⟨h.worth,h.len,h.pos,qa7 h.own f λk hk=>?_⟩;obtain⟨b,A,e,hb,_,_⟩:=h.shape;rw[e]at hk;simp only[Value.ownBlock,qas]at hk;subst hk;exact λhx=>hS _ hx A _ hb
theorem In.fr0 {w w':World} {m:Mc} {c:Coin} (h:In w m c) (f:Fr [] w w'):In w' m c:=h.fr f (by simp)
def Ins (w:World) (ms:List Mc) (l:List Coin):Prop:=ms.length=l.length∧∀(i:Nat) (m:Mc) (c:Coin),ms[i]?=some m→l[i]?=some c→In w m c
theorem Ins.fr0 {w w':World} {ms:List Mc} {l:List Coin} (h:Ins w ms l) (f:Fr [] w w'):Ins w' ms l:=⟨h.1,λi m c h1 h2=>(h.2 i m c h1 h2).fr0 f⟩
theorem qk1 {w:World} {e:TypeId} {size:Nat} {ao:Option Addr} {n cap:Nat} {xs:List Value} (h:w.ownsRow 0 e size (.slice ao n cap) n xs):∀x∈blk ao,∃A,w.heap[x]?=some (.cells A e (0,0)):=by
 intro x hx;have hx':=qdv (n:=n) (cap:=cap) hx;rcases h.2 with⟨h1,_⟩|⟨g,c,cur,h1,_,h2,_⟩
 ·rw[h1]at hx';cases hx'
 ·rw[h1]at hx';simp only[Value.ownBlock,qas]at hx';subst hx';exact⟨cur,h2⟩
theorem Ins.typed {S:List Nat} {w w':World} {ms:List Mc} {l:List Coin} (h:Ins w ms l) (f:Fr S w w') (hS:∀x∈S,∃A,w.heap[x]?=some (.cells A 206 (0,0))):Ins w' ms l:=
 ⟨h.1,λi m c h1 h2=>(h.2 i m c h1 h2).fr f λx hx A fz hA=>by
  obtain⟨B,hB⟩:=hS x hx
  rw[hB]at hA
  simp at hA⟩
theorem Ins.append {w:World} {ms ms':List Mc} {l l':List Coin} (h:Ins w ms l) (h':Ins w ms' l'):Ins w (ms++ms') (l++l'):=by
 refine⟨by simp[h.1,h'.1],λi m c h1 h2=>?_⟩;rcases qbq i ms.length with k|k
 ·rw[qcc k]at h1;rw[qcc (by rw[<-h.1];exact k)]at h2;exact h.2 i m c h1 h2
 ·rw[qek k]at h1;rw[qek (by rw[<-h.1];exact k)]at h2;rw[<-h.1]at h2;exact h'.2 _ m c h1 h2
theorem Ins.one {w:World} {m:Mc} {c:Coin} (h:In w m c):Ins w [m] [c]:=by
 refine⟨rfl,λi m' c' h1 h2=>?_⟩;match i with
 | 0=>simp only[qaa,qas]at h1 h2;subst h1;subst h2;exact h
 | i+1=>simp at h1
theorem qmg:∀(l:List Coin) (j:Nat) (x y:Coin),l[2*j]?=some x→l[2*j+1]?=some y→packs (l.take (2*(j+1)))=packs (l.take (2*j))++[(x.1+y.1,x.2++y.2)]
 | l,0,x,y,h1,h2=>by
  match l with
  | []=>simp at h1
  | [a]=>simp at h2
  | a::b::t=>
   simp only[Nat.mul_zero,qaa,qas,qbe,qad]at h1 h2;subst h1;subst h2;rfl
 | l,j+1,x,y,h1,h2=>by
  match l with
  | []=>simp at h1
  | [a]=>simp[show 2*(j+1)=2*j+1+1 from by omega]at h1
  | a::b::t=>rw[show 2*(j+1)=2*j+1+1 from by omega]at h1;rw[show 2*(j+1)+1=2*j+1+1+1 from by omega]at h2;simp only[qad]at h1 h2;have:=qmg t j x y h1 h2;rw[show 2*(j+1+1)=2*(j+1)+1+1 from by omega,show 2*(j+1)=2*j+1+1 from by omega];simp only[qai];simp only[packs,qc3];rw[show 2*j+1+1=2*(j+1) from by omega,this]
theorem qv3 (l:List Coin) (j:Nat) (h:l.length≤2*j+1):packs (l.take (2*j))=packs l:=by
 induction j generalizing l with
 | zero=>
  match l with
  | []=>rfl
  | [a]=>rfl
  | a::b::t=>simp at h
 | succ j ih=>
  match l with
  | []=>rfl
  | [a]=>simp[show 2*(j+1)=2*j+1+1 from by omega]
  | a::b::t=>rw[show 2*(j+1)=2*j+1+1 from by omega];simp only[qai,packs];rw[ih t (by simp only[qam]at h;omega)]
theorem zdz {w:World} {m1 m2:Mc} {x y:Coin} (h1:In w m1 x) (h2:In w m2 y) (b1:m1.len≤400000) (b2:m2.len≤400000) (q:Nat) (hq:w.heap[q]?=some (.cells #[.slice m1.ao m1.len m1.cap,.slice m2.ao m2.len m2.cap] 128 (0,0))) :
  Calls Tryz.prog 169 #[.slice (some ⟨q,0,none⟩) 2 2] w λe w'=>∃ao cap,e = .returned (.slice ao (m1.len+m2.len) cap)∧Fr [] w w'∧(∀x∈blk ao,w.heap.size≤x)∧∀W,W=x.1+y.1→In w' ⟨W,ao,m1.len+m2.len,cap⟩ (x.1+y.1,x.2++y.2):=by
 obtain⟨g1,A1,e1,_,l1,_⟩:=h1.shape;obtain⟨g2,A2,e2,_,l2,_⟩:=h2.shape;have i1:(ints x.2).length=m1.len*1:=by simp[ints,h1.len]
 have i2:(ints y.2).length=m2.len*1:=by simp[ints,h2.len]
 refine (qum q m1.ao m2.ao m1.len m2.len m1.cap m2.cap (ints x.2) (ints y.2) w hq (qcm h1.own) (qcm h2.own) i1 i2 l1 l2 (λh=>by rw[e1]at h;cases h) (λh=>by rw[e2]at h;cases h) (qjz _) (qjz _) b1 b2).mono ?_;rintro e w' ⟨ao,cap,rfl,hm⟩;refine⟨ao,cap,rfl,hm.fr,hm.new,λW hW=>⟨hW,by simp[h1.len,h2.len],by have:=h1.pos;simp only;omega,?_⟩⟩;have:=hm.own;rwa [show ints x.2++ints y.2=ints (x.2++y.2) from by simp[ints]]at this
theorem qo2 (g n cap:Nat) (ms:List Mc) (l:List Coin) (w:World) (hrow:w.ownsRow 0 206 2 (.slice (some ⟨g,0,none⟩) n cap) n (cellsOf ms)) (hin:Ins w ms l) (hn:ms.length=n) (hb:n≤100000)
  (hl:∀c∈l,c.1≤2^50∧c.2.length≤100000) :
  Calls Tryz.prog 136 #[.slice (some ⟨g,0,none⟩) n cap] w λe w'=>∃ao k cp ms',e = .returned (.slice ao k cp)∧k=(packs l).length∧Made w w' 206 2 ao k cp (cellsOf ms')∧Ins w' ms' (packs l)∧∀m∈ms',∀x∈blk m.ao,w.heap.size≤x:=by
 have H:=zhd4 hrow hin hn hl;clear hrow hin hn hl;obtain⟨hu,⟨ti,hi',hz',hs',hb'⟩,hcz,hp⟩:=qh3;go_enter Tryz.func136,Tryz.ntmps136;go_wp2;go_loopg [3,4] n (λk s3 s4 wr=>∃(j:Nat) (ao:Option Addr) (cp i:Nat) (ms':List Mc),s3 = .slice ao j cp∧s4 = .int .i64 (i:Nat)∧i=2*j∧i+k=n+(if i≤n then 0 else 1)∧i≤n+1∧Made w wr 206 2 ao j cp (cellsOf ms')∧Ins wr ms' (packs (l.take (2*j)))∧∀m∈ms',∀x∈blk m.ao,w.heap.size≤x);case atStart=>exact⟨0,none,0,0,[],rfl,rfl,rfl,by simp,by omega,.none w _ _,⟨rfl,λi m c h=>by simp at h⟩,λm hm=>by simp at hm⟩
 case round=>
  obtain⟨j,ao,cp,i,ms',rfl,rfl,hij,hk,hin1,hm,hIn0⟩:=hrel;obtain⟨y,hy⟩:=zex (i+1);have e0:(i:Int)+1=(y:Int):=by omega
  by_cases hlt:y<n
  ·have HB:=zhd hIn0.2;have hIn:=hIn0.1;clear hIn0;obtain⟨hrow,hin,hnn,hl⟩:=H.out;have hrow1:=qa7 hrow hm.fr (by simp);obtain⟨m1,hm1⟩:∃m1,ms[i]?=some m1:=⟨_,qaf (by omega)⟩;obtain⟨m2,hm2⟩:∃m2,ms[y]?=some m2:=⟨_,qaf (by omega)⟩;obtain⟨c1,hc1⟩:∃c1,l[i]?=some c1:=⟨_,qaf (by rw[<-hin.1];omega)⟩;obtain⟨c2,hc2⟩:∃c2,l[y]?=some c2:=⟨_,qaf (by rw[<-hin.1];omega)⟩;have I1:=(hin.2 i m1 c1 hm1 hc1).fr0 hm.fr;have I2:=(hin.2 y m2 c2 hm2 hc2).fr0 hm.fr;have B1:=hl c1 (qa6 hc1);have B2:=hl c2 (qa6 hc2);have cc:∀(z:Nat) (m:Mc),ms[z]?=some m→z<n→∀W,(sup [] wr.drew W).cell? ⟨g,z*2,none⟩=some (.int .i64 (m.worth:Nat))∧(sup [] wr.drew W).cell? ⟨g,z*2+1,none⟩=some (.slice m.ao m.len m.cap):=λz m hz hzn W=>by have h2:=qa7 (qa7 hrow1 (Fr.drew1 [] wr) (by simp)) (qes [] wr.drew W) (by simp);have:=qe6 ms z m hz;rw[<-this.1,<-this.2];exact⟨qb4 h2 _ (by omega),qb4 h2 _ (by omega)⟩
   have d1:=λW=>(cc i m1 hm1 (by omega) W).1
   have d2:=λW=>(cc i m1 hm1 (by omega) W).2
   have d3:=λW=>(cc y m2 hm2 hlt W).1
   have d4:=λW=>(cc y m2 hm2 hlt W).2
   have v1:m1.worth≤2^50:=by rw[I1.worth];exact B1.1
   have v2:m2.worth≤2^50:=by rw[I2.worth];exact B2.1
   have v3:m1.len≤100000:=by rw[I1.len];exact B1.2
   have v4:m2.len≤100000:=by rw[I2.len];exact B2.2
   have hjj:j≤100000:=by omega
   have g1:decide ((n:Int)≤(i:Int))=false:=by simp;omega
   have g2:decide ((n:Int)≤(y:Int))=false:=by simp;omega
   obtain⟨W,hW⟩:=zex (m1.worth+m2.worth);have e9:(m1.worth:Int)+(m2.worth:Int)=(W:Int):=by omega
   have HW:=zhd hW;clear hW;have HI:=zhd9 I1 I2 hm hIn hk hij hc1 hc2 hy;clear hrow hin hl hrow1 hm1 hm2 hc1 hc2 I1 I2 B1 B2 cc hm hIn hk hij hy;go_upto_region 5 with fail;refine qcj 28 [(false,0),(false,1),(false,2),(false,3),(false,4),(false,5),(false,6),(false,7),(false,8),(false,9),(false,10),(false,11),(false,12),(false,13),(false,14),(false,15),(false,16),(false,17),(false,18),(false,19),(false,20),(false,21),(false,22),(false,23),(true,24),(true,25),(true,26),(true,27)] [] (by kernel_rfl) (by kernel_rfl) (λ_ _ d _ _ h=>by cases d<;>exact h) ?_;simp only[qak,qap,qbh,qbi,qah,qaj,qce];refine qb9 24 rfl ?_;simp only[qai,qao,qah,qaj,qak,qap];repeat (go_big_quiet_step (fail))
   refine wpQuiet_nil ?_;clear d1 d2 d3 d4;refine qc5 rfl ?_;intro K hK;go_wp2;refine hK.out _ _ (Fr.from_drew ((Fr.refl [] wr).alloc _).drew) ?_;clear hK K;obtain⟨w2,hw2⟩:=zex ((wr.alloc (.cells #[.slice m1.ao m1.len m1.cap,.slice m2.ao m2.len m2.cap] 128 (0,0))).drew);have hq2:w2.heap[wr.heap.size]?=some (.cells #[.slice m1.ao m1.len m1.cap,.slice m2.ao m2.len m2.cap] 128 (0,0)):=by rw[hw2];exact qa4 wr _
   have f2:Fr [] wr w2:=by rw[hw2];exact ((Fr.refl [] wr).alloc _).drew
   rw[<-hw2];have hcat:=zdz (HI.out.1.fr0 f2) (HI.out.2.1.fr0 f2) (by omega) (by omega) _ hq2;have HC:=zhd2 hcat f2;clear hcat f2 hq2 hw2;refine qc5 rfl ?_;intro K hK;go_wp2_with (go_at_call 169;refine HC.o0.mono ?_;rintro e w3 ⟨ao3,cp3,rfl,f3,nb3,in3⟩);refine hK.out _ _ f3 ?_;clear hK K;have H3:=zhd3 f3 nb3 in3;clear f3 in3 nb3;refine qc5 rfl ?_;intro K hK;go_wp2;refine hK.out _ _ (Fr.refl [] w3) ?_;clear hK K;refine qc5 rfl ?_;intro K hK;go_wp2;refine hK.out _ _ ((Fr.refl [] w3).alloc _) ?_;clear hK K;obtain⟨w4,hw4⟩:∃w4,w4=w3.alloc (.cells #[.int .i64 (W:Nat),.slice ao3 (m1.len+m2.len) cp3] 206 (0,0)):=⟨_,rfl⟩;have f4:Fr [] w3 w4:=by rw[hw4];exact (Fr.refl [] w3).alloc _
   have c4:Cs w4 (some ⟨w3.heap.size,0,none⟩) [.int .i64 W,.slice ao3 (m1.len+m2.len) cp3]:=by refine .inr ⟨_,0,rfl,λk v hv=>?_⟩;rw[hw4,cell_of (qa4 w3 _),qbe];simpa using hv
   rw[<-hw4];have hm4:=HI.out.2.2.1.fr2 ((HC.l1.trans H3.out.1).trans f4);have HD:=zhd3 hm4 c4 f4;clear hm4 c4 f4 hw4;refine qc4 ?_;go_wp2_with (refine qa5 qh3 rfl _ _ rfl (.slice ao j cp) j (cellsOf ms') (blk ao) rfl (qbp ao j cp) HD.out.1.own (some ⟨w3.heap.size,0,none⟩) 1 1 [.int .i64 W,.slice ao3 (m1.len+m2.len) cp3] rfl (qag _) (λh=>by cases h) HD.out.2.1 rfl (by intro u hu;simp only[qaw,qby,or_false]at hu;rcases hu with rfl|rfl<;>rfl) (by omega) (by unfold maxLen;omega) ?_;intro ao5 cp5 w5 hap;have HA:=zhd hap;clear hap);go_roundg (gk-2);case measure=>obtain⟨_,_,_,_,hk,hij,_,_,hy⟩:=HI.out;simp only[show i≤n from by omega,if_true]at hk;omega
   case rel=>
    obtain⟨I1,I2,hm,hIn,hk,hij,hc1,hc2,hy⟩:=HI.out;simp only[show i≤n from by omega,if_true]at hk;obtain⟨hm4,c4,f4⟩:=HD.out;obtain⟨f3,nb3,in3⟩:=H3.out;have hap:=HA.out;refine⟨j+1,ao5,cp5,i+2,ms'++[⟨W,ao3,m1.len+m2.len,cp3⟩],rfl,by go_num,by omega,?_,by omega,?_,?_,?_⟩
    ·split<;>omega
    ·rw[qfo];exact hm4.app hap
    ·have k1:Ins w4 ms' (packs (l.take (2*j))):=hIn.fr0 ((HC.l1.trans f3).trans f4);have k2:In w4 ⟨W,ao3,m1.len+m2.len,cp3⟩ (c1.1+c2.1,c1.2++c2.2):=(in3 W (by rw[HW.out,I1.worth,I2.worth])).fr0 f4;have k3:=Ins.append k1 (Ins.one k2);rw[qmg l j c1 c2 (by rw[<-hij];exact hc1) (by rw[<-hij,<-hy];exact hc2)];exact k3.typed hap.fr (qk1 hm4.own)
    ·intro m hm' x hx;rcases qbd.1 hm' with q|q
     ·exact HB.out m q x hx
     ·rw[qaz.1 q]at hx;exact qan (hm.fr.trans HC.l1).size (nb3 x hx)
  ·have HI:=zhd5 hm hIn0.1 hij hy hIn0.2;clear hm hIn0;go_wp2;go_ret;obtain⟨hm,hIn,hij,hy,hnb⟩:=HI.out;have hl:packs (l.take (2*j))=packs l:=qv3 l j (by rw[<-H.out.2.1.1,H.out.2.2.1];omega);rw[hl]at hIn;refine⟨ao,j,cp,ms',rfl,?_,hm,hIn,hnb⟩;have h1:=hm.own.1;rw[qdj,hIn.1]at h1;omega
theorem qsk:∀{a b:List Nat},ints a=ints b→a=b
 | [],[],_=>rfl
 | [],y::b,h=>by simp[ints]at h
 | x::a,[],h=>by simp[ints]at h
 | x::a,y::b,h=>by simp only[ints,qak,qux,Value.int.injEq,true_and]at h;obtain⟨h1,h2⟩:=h;rw[show x=y from by omega,qsk (a:=a) (b:=b) h2]
theorem In.uniq {w:World} {m:Mc} {c c':Coin} (h:In w m c) (h':In w m c'):c=c':=by
 rcases h.own.2 with⟨h1,h2⟩|⟨g,cap,cur,h1,_,h2,_,_,_,h3⟩
 ·have:=h.pos;omega
 ·rcases h'.own.2 with⟨h1',h2'⟩|⟨g',cap',cur',h1',_,h2',_,_,_,h3'⟩
  ·have:=h'.pos;omega
  ·rw[h1]at h1';simp only[qbn,qas,qcg,and_true,true_and]at h1';obtain⟨rfl,_⟩:=h1';rw[h2]at h2';simp only[qas,Obj.cells.injEq,and_true,true_and]at h2';obtain rfl:=h2';have e:=qsk (h3.symm.trans h3');exact Prod.ext (h.worth.symm.trans h'.worth) e
open Classical in
noncomputable def con (w:World) (m:Mc):Coin:=if h:∃c,In w m c then h.choose else (m.worth,[])
theorem zbp {w:World} {m:Mc} {c:Coin} (h:In w m c):con w m=c:=by unfold con;have hx:∃c,In w m c:=⟨c,h⟩;rw[dif_pos hx];exact hx.choose_spec.uniq h
theorem qlo (w:World) (m:Mc):(con w m).1=m.worth:=by
 unfold con;split
 ·rename_i h;exact h.choose_spec.worth.symm
 ·rfl
theorem Ins.con {w:World} {ms:List Mc} {l:List Coin} (h:Ins w ms l):l=ms.map (con w):=by
 refine qlv λi=>?_
 rw[qbx];rcases qbq i l.length with k|k
 ·have h1:=qaf (l:=ms) (show i<ms.length by rw[h.1];exact k);have h2:=qaf k;rw[h1,h2,qgg,zbp (h.2 i _ _ h1 h2)]
 ·rw[qbr k,qbr (by rw[h.1];exact k)];rfl
theorem Stb.map {α β:Type} {a b:List (Nat×α)} (h:Stb a b) (g:Nat×α→Nat×β) (ha:∀x∈a,(g x).1=x.1) (hb:∀x∈b,(g x).1=x.1):Stb (a.map g) (b.map g):=λk=>by
 rw[List.filter_map,List.filter_map];have e1:a.filter ((λx:Nat×β=>x.1==k)∘g)=a.filter λx=>x.1==k:=List.filter_congr λx hx=>by simp[ha x hx]
 have e2:b.filter ((λx:Nat×β=>x.1==k)∘g)=b.filter λx=>x.1==k:=List.filter_congr λx hx=>by simp[hb x hx]
 rw[e1,e2,h k]
def m0:Mc:=⟨0,none,0,0⟩
def fn (ms:List Mc):Nat→Mc:=λi=>ms[i]?.getD m0
theorem zd9 {w:World} {g n cap:Nat} {ms:List Mc} (h:w.ownsRow 0 206 2 (.slice (some ⟨g,0,none⟩) n cap) n (cellsOf ms)):∃A0,A0.size=cap*2∧Dw w g 206 A0 n (fn ms):=by
 have hl:=h.1;rw[qdj]at hl;rcases h.2 with⟨h1,_⟩|⟨g',cap',cur,h1,_,h2,h3,h4,h5,h6⟩
 ·cases h1
 ·simp only[qbn,qas,qcg,and_true,true_and]at h1;obtain⟨rfl,rfl⟩:=h1;refine⟨cur,h5,cur,h2,rfl,by omega,λ_ _=>rfl,λi hi=>?_⟩;obtain⟨m,hm⟩:∃m,ms[i]?=some m:=⟨_,qaf (by omega)⟩;have hf:fn ms i=m:=by simp[fn,hm]
  rw[hf];have hc:=qe6 ms i m hm;rw[<-h6,qbl,qbl,if_pos (by omega),if_pos (by omega),qci,qci]at hc;exact hc
theorem zdg {w:World} {g n cap:Nat} {A0:Array Value} {f:Nat→Mc} (h:Dw w g 206 A0 n f) (h0:A0.size=cap*2) (hc:n≤cap) (hm:cap≤maxLen):w.ownsRow 0 206 2 (.slice (some ⟨g,0,none⟩) n cap) n (cellsOf ((List.range n).map f)):=by
 obtain⟨A,h1,h2,h3,_,h4⟩:=h;refine⟨by rw[qdj];simp,.inr ⟨g,cap,A,rfl,qba _,h1,hc,hm,by rw[h2,h0],?_⟩⟩;refine qlv λj=>?_
 rw[qbl];by_cases hj:j<n*2
 ·rw[if_pos hj,qci];have hi:j/2<n:=by omega
  have hr:((List.range n).map f)[j/2]?=some (f (j/2)):=by simp[hi]
  have e1:=qe6 _ _ _ hr;have e2:=h4 (j/2) hi;rcases Nat.mod_two_eq_zero_or_one j with k|k
  ·rw[show j=j/2*2 from by omega,e1.1];exact e2.1
  ·rw[show j=j/2*2+1 from by omega,e1.2];exact e2.2
 ·rw[if_neg hj,qbr (by rw[qdj];simp;omega)]
theorem qnh (f:Nat→Mc) (n:Nat):sg f 0 n=((List.range n).map f).map tg:=by simp[sg,Function.comp_def]
theorem zag {ms:List Mc} {n:Nat} (h:ms.length=n):(List.range n).map (fn ms)=ms:=by
 subst h;refine qlv λi=>?_
 rw[qbx];by_cases hi:i<ms.length
 ·rw[quw hi];simp[fn,hi]
 ·rw[qbr (by simp;omega),qbr (by omega)];rfl
theorem ql4 (g n cap:Nat) (ms:List Mc) (l:List Coin) (w:World) (hrow:w.ownsRow 0 206 2 (.slice (some ⟨g,0,none⟩) n cap) n (cellsOf ms)) (hin:Ins w ms l) (hn:n≤100000)
  (hl:∀c∈l,c.1≤2^50) :
  Calls Tryz.prog 134 #[.slice (some ⟨g,0,none⟩) n cap,cmpV] w λe w'=>e = .returned (.tuple #[])∧
   ∃ms' l',w'.ownsRow 0 206 2 (.slice (some ⟨g,0,none⟩) n cap) n (cellsOf ms')∧Ins w' ms' l'∧Sorted l'∧Stb l' l∧Fr [g] w w'∧∀m∈ms',m∈ms:=by
 have hlen:ms.length=n:=by have:=hrow.1;rw[qdj]at this;omega
 obtain⟨A0,hA0,hD⟩:=zd9 hrow;obtain⟨_,_,e1,e2,_⟩:=qfx hrow;simp only[qbn,true_and]at e1;have hwb:Wb (fn ms):=λi=>by
  unfold fn;rcases qbq i ms.length with k|k
  ·have h1:=qaf k;have h2:=qaf (l:=l) (show i<l.length by rw[<-hin.1];exact k);rw[h1];show ms[i].worth≤_;rw[(hin.2 i _ _ h1 h2).worth];exact hl _ (qb7 _)
  ·rw[qbr k];exact qba _
 refine (qy9 g 206 A0 n cap (fn ms) w hD hn hwb).mono ?_;rintro e w' ⟨rfl,f',hD',hs,hf⟩;have h1:n≤cap∧cap≤maxLen:=by
  rcases hrow.2 with⟨h1,_⟩|⟨g',cap',cur,h1,_,h2,h3,h4,h5,h6⟩
  ·cases h1
  ·simp only[qbn,qas,qcg,and_true,true_and]at h1;omega
 have hst:=hs.stb;have hsr:=hs.srt;rw[qod,qnh,qnh,zag hlen]at hst;rw[qod,qnh]at hsr;obtain⟨ms',hms⟩:∃ms',ms'=(List.range n).map f':=⟨_,rfl⟩;rw[<-hms]at hst hsr;have hlen':ms'.length=n:=by rw[hms];simp
 have hmem:∀m∈ms',m∈ms:=λm hm=>by have h2:tg m∈ms'.map tg:=List.mem_map_of_mem hm;obtain⟨m',h3,h4⟩:=qb8.1 ((hst.mem _).1 h2);have:=congrArg Prod.snd h4;simp only[tg]at this;rw[<-this];exact h3
 have hcon:=hin.con;have hin1:Ins w ms' (ms'.map (con w)):=by
  refine⟨by simp,λi m c h1 h2=>?_⟩;rw[qbx,h1]at h2;simp only[qgg,qas]at h2;obtain⟨j,hj⟩:=qdm.1 (hmem m (qa6 h1));have hj':j<l.length:=by rw[<-hin.1];exact (qbg.1 hj).1
  have:=hin.2 j m _ hj (qaf hj');rw[<-h2,zbp this];exact this
 refine⟨rfl,ms',ms'.map (con w),by rw[hms];exact zdg hD' hA0 h1.1 h1.2,hin1.typed hf ?_,?_,?_,hf,hmem⟩
 ·exact qk1 hrow
 ·unfold Srt at hsr;unfold Sorted;rw[List.pairwise_map]at hsr ⊢;refine hsr.imp λ{a b} h=>?_
  rw[qlo,qlo];exact h
 ·have hk:∀(k:List Mc) (x:Nat×Mc),x∈k.map tg→(con w x.2).1=x.1:=λk x hx=>by obtain⟨m,_,rfl⟩:=qb8.1 hx;exact qlo w m
  have:=hst.map (λx=>con w x.2) (β:=List Nat) (hk _) (hk _);rw[List.map_map,List.map_map]at this;rw[hcon];exact this
end Go.Proofs.YtbabjlohkniciaaGreatDoor.huf
namespace Go.Proofs.YtbabjlohkniciaaGreatDoor.huf
open Go
def ins (l:List Coin):List Nat:=l.flatMap (·.2)
theorem ins_append (a b:List Coin):ins (a++b)=ins a++ins b:=by simp[ins]
theorem qsl {a b:List Coin} (h:a.Perm b):(ins a).Perm (ins b):=h.flatMap_right _
def ones (l:List Coin) (syms:List Nat):Prop:=l.map (·.2)=syms.map λs=>[s]
theorem qsm {l:List Coin} {syms:List Nat} (h:ones l syms) (a:Nat):ins (l.take a)=syms.take a:=by unfold ins;rw[List.flatMap_def,qro,h,<-qro,<-List.flatMap_def];simp
theorem qew:∀(syms:List Nat),syms.Nodup→∀(a i:Nat) (s:Nat),syms[i]?=some s→(syms.take a).count s=if i<a then 1 else 0
 | [],_,a,i,s,h=>by cases h
 | x::t,_,0,i,s,h=>by simp
 | x::t,hn,a+1,0,s,h=>by
  simp only[qaa,qas]at h;subst h;rw[qai,List.count_cons_self,List.count_eq_zero_of_not_mem λhm=>(List.nodup_cons.1 hn).1 (qbu hm)];simp
 | x::t,hn,a+1,i+1,s,h=>by
  rw[qad]at h;have hne:x≠s:=λe=>(List.nodup_cons.1 hn).1 (e▸qa6 h)
  rw[qai,List.count_cons_of_ne hne,qew t (List.nodup_cons.1 hn).2 a i s h];simp only[Nat.add_lt_add_iff_right]
theorem qov (l:List Coin) (syms:List Nat) (h1:ones l syms) (hn:syms.Nodup) (i s:Nat) (hi:syms[i]?=some s):∀k m,m≤(row l k).length→(ins ((row l k).take m)).count s=lenf l k m i
 | 0,m,hm=>by
  have:m=0:=by simpa[row] using hm
  subst this;rfl
 | k+1,m,hm=>by
  have hm':m≤l.length+(packs (row l k)).length:=by rw[row,qdf]at hm;exact hm
  obtain⟨_,_,h3⟩:=qfk l (packs (row l k)) m hm';have hp:=qsl (qfe l (packs (row l k)) m);rw[show mrg l (packs (row l k))=row l (k+1) from rfl]at hp;rw[hp.count_eq,ins_append,qe1,qsm h1,qew syms hn _ i s hi];change (sl l k m).2≤_ at h3;have hpk:ins ((packs (row l k)).take (sl l k m).2)=ins ((row l k).take (2*(sl l k m).2)):=qk0 _ _ h3;rw[qda]at h3;rw[lenf,<-qov l syms h1 hn i s hi k (2*(sl l k m).2) (by omega),<-hpk];rfl
theorem qhh (l:List Coin) (syms:List Nat) (h1:ones l syms) (s:Nat) (hs:s∉syms):∀k m,m≤(row l k).length→(ins ((row l k).take m)).count s=0
 | 0,m,hm=>by
  have:m=0:=by simpa[row] using hm
  subst this;rfl
 | k+1,m,hm=>by
  have hm':m≤l.length+(packs (row l k)).length:=by rw[row,qdf]at hm;exact hm
  obtain⟨_,_,h3⟩:=qfk l (packs (row l k)) m hm';have hp:=qsl (qfe l (packs (row l k)) m);rw[show mrg l (packs (row l k))=row l (k+1) from rfl]at hp;rw[hp.count_eq,ins_append,qe1,qsm h1,List.count_eq_zero_of_not_mem λhm=>hs (qbu hm)];change (sl l k m).2≤_ at h3;have hpk:ins ((packs (row l k)).take (sl l k m).2)=ins ((row l k).take (2*(sl l k m).2)):=qk0 _ _ h3;rw[qda]at h3;change 0+(ins ((packs (row l k)).take (sl l k m).2)).count s=0;rw[hpk,qhh l syms h1 s hs k _ (by omega)]
def symsTo (cs:List Nat) (i:Nat):List Nat:=(List.range i).filter λs=>decide (0<lenAt cs s)
def coinsTo (cs:List Nat) (i:Nat):List Coin:=(symsTo cs i).map λs=>(lenAt cs s,[s])
theorem qho (cs:List Nat) (i:Nat):symsTo cs (i+1)=if 0<lenAt cs i then symsTo cs i++[i] else symsTo cs i:=by unfold symsTo;rw[qjo,qeq];by_cases h:0<lenAt cs i<;>simp[h]
theorem qpq (cs:List Nat) (i:Nat):coinsTo cs (i+1)=if 0<lenAt cs i then coinsTo cs i++[(lenAt cs i,[i])] else coinsTo cs i:=by unfold coinsTo;rw[qho];split<;>simp
theorem qjg (cs:List Nat) (i:Nat):(symsTo cs i).Nodup:=List.Pairwise.filter _ List.nodup_range
theorem qd8 {cs:List Nat} {i s:Nat}:s∈symsTo cs i↔s<i∧0<lenAt cs s:=by simp[symsTo]
theorem Stb.perm {α:Type} [DecidableEq α] {a b:List (Nat×α)} (h:Stb a b):a.Perm b:=by
 rw[List.perm_iff_count];intro x;have h1:=h x.1;have h2:∀l:List (Nat×α),l.count x=(l.filter λy=>y.1==x.1).count x:=λl=>by rw[List.count_filter (by simp)]
 rw[h2 a,h2 b,h1]
structure LensOk (L:Nat) (cs ls:List Nat):Prop where
 len:ls.length=cs.length
 le:∀l∈ls,l≤L
 pos:∀i,0<lenAt cs i→0<lenAt ls i
 zero:∀i,lenAt cs i=0→lenAt ls i=0
 full:2≤(symsTo cs cs.length).length→weight ls=32768
 few:(symsTo cs cs.length).length<2→∀l∈ls,l≤1
def wt (x:Nat):Nat:=if x=0 then 0 else 2^(15-x)
theorem qim {α:Type} (g:α→Nat):∀l:List α,weight (l.map g)=(l.map λs=>wt (g s)).sum
 | []=>rfl
 | x::l=>by rw[qak,weight,qim g l,qak,List.sum_cons];rfl
theorem qit {α:Type} (p:α→Bool) (g:α→Nat):∀l:List α,(∀x∈l,p x=false→g x=0)→(l.map g).sum=((l.filter p).map g).sum
 | [],_=>rfl
 | x::l,h=>by
  have ih:=qit p g l λy hy=>h y (qbw _ hy)
  rw[List.filter_cons];cases hp:p x with
  | true=>simp[ih]
  | false=>simp[ih,h x qb1 hp]
theorem qkl (g:Nat→Nat):∀n,sumTo (n+1) g=g 0+sumTo n λi=>g (i+1)
 | 0=>by simp[sumTo]
 | n+1=>by rw[sumTo,qkl g n,sumTo];omega
theorem qh2 (g:Nat→Nat):∀syms:List Nat,(syms.map g).sum=sumTo syms.length (λi=>g (syms[i]?.getD 0))
 | []=>rfl
 | x::l=>by rw[qak,List.sum_cons,qh2 g l,qam,qkl];simp
theorem qom (c:Nat) (g:Nat→Nat):∀n,sumTo n (λi=>g i*c)=sumTo n g*c
 | 0=>by simp[sumTo]
 | n+1=>by rw[sumTo,sumTo,qom c g n,qct]
theorem zcl {L:Nat} {cs:List Nat} {sl:List Coin} (hL1:1≤L) (hL15:L≤15) (hs:Sorted sl) (hst:Stb sl (coinsTo cs cs.length)) (h2:2≤(symsTo cs cs.length).length) (hle:(symsTo cs cs.length).length≤2^L) :
  2*sl.length-2≤(row sl L).length∧sl.length=(symsTo cs cs.length).length∧
  LensOk L cs ((List.range cs.length).map λs=>(ins ((row sl L).take (2*sl.length-2))).count s):=by
 have hp:=hst.perm;have hlen:sl.length=(symsTo cs cs.length).length:=by rw[hp.length_eq];simp[coinsTo]
 have hpos:Pos sl:=λx hx=>by have:=hp.mem_iff.1 hx;simp only[coinsTo,qb8]at this;obtain⟨s,hs',rfl⟩:=this;exact (qd8.1 hs').2
 obtain⟨syms,hsy⟩:=zex (sl.map λc=>c.2.headD 0);have h1:ones sl syms:=by
  unfold ones;rw[hsy,List.map_map];refine List.map_congr_left λc hc=>?_
  have:=hp.mem_iff.1 hc;simp only[coinsTo,qb8]at this;obtain⟨s,_,rfl⟩:=this;rfl
 have hpm:syms.Perm (symsTo cs cs.length):=by
  rw[hsy];have:=hp.map λc=>c.2.headD 0
  refine this.trans (List.Perm.of_eq ?_);simp[coinsTo,Function.comp_def]
 have hnd:syms.Nodup:=hpm.nodup_iff.2 (qjg _ _);have hsl:syms.length=sl.length:=by rw[hsy];simp
 obtain⟨k1,k2,k3⟩:=qzn sl hs hpos L hL1 (by omega) (by omega);obtain⟨m,hm⟩:=zex (2*sl.length-2);rw[<-hm]at k1 k2 k3 ⊢;obtain⟨cf,hcf⟩:∃cf:Nat→Nat,cf=λs=>(ins ((row sl L).take m)).count s:=⟨_,rfl⟩
 have c1:∀i s,syms[i]?=some s→cf s=lenf sl L m i:=λi s hi=>by rw[hcf];exact qov sl syms h1 hnd i s hi L m k1
 have c0:∀s,s∉syms→cf s=0:=λs hs'=>by rw[hcf];exact qhh sl syms h1 s hs' L m k1
 have hlenAt:∀s,s<cs.length→lenAt ((List.range cs.length).map cf) s=cf s:=λs hs'=>by simp[lenAt,hs']
 have hlenOut:∀s,cs.length≤s→lenAt ((List.range cs.length).map cf) s=0:=λs hs'=>by simp[lenAt,hs']
 have hin:∀s,s∈syms↔s<cs.length∧0<lenAt cs s:=λs=>hpm.mem_iff.trans qd8
 refine⟨k1,hlen,?_⟩;rw[<-hcf];refine⟨by simp,λl hl=>?_,λi hi=>?_,λi hi=>?_,λ_=>?_,λh=>absurd h (by omega)⟩
 ·obtain⟨s,_,rfl⟩:=qb8.1 hl;by_cases hx:s∈syms
  ·obtain⟨i,hi⟩:=qdm.1 hx;rw[c1 i s hi];exact qqz _ _ _ _
  ·rw[c0 s hx];exact qba _
 ·have hi':=qd0 hi;rw[hlenAt i hi'];obtain⟨j,hj⟩:=qdm.1 ((hin i).2 ⟨hi',hi⟩);rw[c1 j i hj];exact k2 j (by rw[<-hsl];exact (qbg.1 hj).1)
 ·by_cases hi':i<cs.length
  ·rw[hlenAt i hi',c0 i λh=>by have:=((hin i).1 h).2;omega]
  ·exact hlenOut i (by omega)
 ·rw[qim,qit (λs=>decide (0<lenAt cs s)) _ _ λs hs' hp'=>by
   rw[c0 s λh=>by have:=((hin s).1 h).2;simp at hp';omega];rfl]
  have e1:((symsTo cs cs.length).map λs=>wt (cf s)).sum=(syms.map λs=>wt (cf s)).sum:=(hpm.symm.map _).sum_nat;rw[show (List.range cs.length).filter (λs=>decide (0<lenAt cs s))=symsTo cs cs.length from rfl,e1,qh2,hsl];have e2:sumTo sl.length (λi=>wt (cf (syms[i]?.getD 0)))=sumTo sl.length (λi=>2^(L-lenf sl L m i)*2^(15-L)):=by
   refine qhp _ λi hi=>?_
   have hs':=qaf (l:=syms) (show i<syms.length by rw[hsl];exact hi);rw[hs',qfp,c1 i _ hs'];have h3:=k2 i hi;have h4:=qqz sl L m i;unfold wt;rw[if_neg (by omega),<-qb3];congr 1;omega
  rw[e2,qom,k3,<-qb3,show L+(15-L)=15 from by omega]
theorem qz1 {L:Nat} {cs:List Nat} (hL1:1≤L) (h2:(symsTo cs cs.length).length<2):LensOk L cs ((List.range cs.length).map λs=>if 0<lenAt cs s then 1 else 0):=by
 have hlenAt:∀s,s<cs.length→lenAt ((List.range cs.length).map λs=>if 0<lenAt cs s then 1 else 0) s=if 0<lenAt cs s then 1 else 0:=λs hs'=>by simp[lenAt,hs']
 refine⟨by simp,λl hl=>?_,λi hi=>?_,λi hi=>?_,λh=>absurd h (by omega),λ_ l hl=>?_⟩
 ·obtain⟨s,_,rfl⟩:=qb8.1 hl;split<;>omega
 ·rw[hlenAt i (qd0 hi),if_pos hi];exact Nat.one_pos
 ·by_cases hi':i<cs.length
  ·rw[hlenAt i hi',if_neg (by omega)]
  ·simp[lenAt,show cs.length≤i by omega]
 ·obtain⟨s,_,rfl⟩:=qb8.1 hl;split<;>omega
end Go.Proofs.YtbabjlohkniciaaGreatDoor.huf
