/-
  Texts of this proof, one behind the other: Itoa, ShaLaw, ShaMix, ShaMix2, ShaW, ShaSum, ShaWhole.
-/
import Derived.Test.YtbabjlohkniciaaGreatDoorV9
import Derived.Test.YtbabjlohkniciaaGreatDoorV17
import Derived.Shelf.Strconv.Itoa3
import Derived.Laws.ResultCell
import Derived.Laws.EntriesVeiled
set_option maxHeartbeats 16000000
set_option maxRecDepth 100000
set_option linter.unusedVariables false
set_option linter.unusedSimpArgs false
namespace Go.Proofs
open Go.Shelf
def Tryz.laysM171_ren:Go.Shelf.Ren:=⟨fun|171=>51|243=>87|246=>137|283=>170|284=>171|285=>172|286=>173|129=>124|317=>195|318=>196|319=>197|320=>198|337=>207|338=>208|n=>n,fun|3=>3|9=>9|2=>2|4=>4|171=>247|0=>0|53=>88|37=>22|5=>5|173=>249|212=>275|51=>90|20=>20|213=>276|46=>87|232=>291|233=>292|n=>n,fun|17=>3|18=>4|19=>5|n=>n⟩
theorem Tryz.laysM171:Go.Proofs.LaysM.n171 Tryz.prog Tryz.laysM171_ren:={
 mixed:=by kernel_rfl
 f129:=Tryz.func124.trans (congrArg some (by kernel_rfl))
 f171:=Tryz.func51.trans (congrArg some (by kernel_rfl))
 f243:=Tryz.func87.trans (congrArg some (by kernel_rfl))
 f246:=Tryz.func137.trans (congrArg some (by kernel_rfl))
 f283:=Tryz.func170.trans (congrArg some (by kernel_rfl))
 f284:=Tryz.func171.trans (congrArg some (by kernel_rfl))
 f285:=Tryz.func172.trans (congrArg some (by kernel_rfl))
 f286:=Tryz.func173.trans (congrArg some (by kernel_rfl))
 f317:=Tryz.func195.trans (congrArg some (by kernel_rfl))
 f318:=Tryz.func196.trans (congrArg some (by kernel_rfl))
 f319:=Tryz.func197.trans (congrArg some (by kernel_rfl))
 f320:=Tryz.func198.trans (congrArg some (by kernel_rfl))
 f337:=Tryz.func207.trans (congrArg some (by kernel_rfl))
 f338:=Tryz.func208.trans (congrArg some (by kernel_rfl))
 t0:=Tryz.underlying0
 a0:=Tryz.isAgg0
 z0:=Tryz.sizeOf0
 v0:=Tryz.zeroValue0
 t2:=Tryz.underlying2
 a2:=Tryz.isAgg2
 z2:=Tryz.sizeOf2
 v2:=Tryz.zeroValue2
 t3:=Tryz.underlying3
 a3:=Tryz.isAgg3
 z3:=Tryz.sizeOf3
 v3:=Tryz.zeroValue3
 t4:=Tryz.underlying4
 a4:=Tryz.isAgg4
 z4:=Tryz.sizeOf4
 v4:=Tryz.zeroValue4
 t5:=Tryz.underlying5
 a5:=Tryz.isAgg5
 z5:=Tryz.sizeOf5
 v5:=Tryz.zeroValue5
 t9:=Tryz.underlying9
 a9:=Tryz.isAgg9
 z9:=Tryz.sizeOf9
 v9:=Tryz.zeroValue9
 t20:=Tryz.underlying20
 a20:=Tryz.isAgg20
 z20:=Tryz.sizeOf20
 v20:=Tryz.zeroValue20
 t37:=Tryz.underlying22
 a37:=Tryz.isAgg22
 z37:=Tryz.sizeOf22
 v37:=Tryz.zeroValue22
 t46:=Tryz.underlying87
 a46:=Tryz.isAgg87
 z46:=Tryz.sizeOf87
 v46:=Tryz.zeroValue87
 t51:=Tryz.underlying90
 a51:=Tryz.isAgg90
 z51:=Tryz.sizeOf90
 v51:=Tryz.zeroValue90
 t53:=Tryz.underlying88
 a53:=Tryz.isAgg88
 z53:=Tryz.sizeOf88
 v53:=Tryz.zeroValue88
 t171:=Tryz.underlying247
 a171:=Tryz.isAgg247
 z171:=Tryz.sizeOf247
 v171:=Tryz.zeroValue247
 t173:=Tryz.underlying249
 a173:=Tryz.isAgg249
 z173:=Tryz.sizeOf249
 v173:=Tryz.zeroValue249
 t212:=Tryz.underlying275
 a212:=Tryz.isAgg275
 z212:=Tryz.sizeOf275
 v212:=Tryz.zeroValue275
 t213:=Tryz.underlying276
 a213:=Tryz.isAgg276
 z213:=Tryz.sizeOf276
 t232:=Tryz.underlying291
 a232:=Tryz.isAgg291
 z232:=Tryz.sizeOf291
 v232:=Tryz.zeroValue291
 t233:=Tryz.underlying292
 a233:=Tryz.isAgg292
 z233:=Tryz.sizeOf292
 v233:=Tryz.zeroValue292
 g17:=by kernel_rfl
 g18:=by kernel_rfl
 g19:=by kernel_rfl
 i0:=by kernel_rfl
 i2:=by kernel_rfl
 i3:=by kernel_rfl
 i4:=by kernel_rfl
 i5:=by kernel_rfl
 i9:=by kernel_rfl
 i20:=by kernel_rfl
 i37:=by kernel_rfl
 i46:=by kernel_rfl
 i51:=by kernel_rfl
 i53:=by kernel_rfl
 i171:=by kernel_rfl
 i173:=by kernel_rfl
 i212:=by kernel_rfl
 i232:=by kernel_rfl
 i233:=by kernel_rfl
 m17:=by kernel_rfl
 m18:=by kernel_rfl
 m19:=by kernel_rfl }
open Go.RowKit Go.Sort Go.Lib in
theorem Tryz.strconv_Itoa (n:Int) (h0 : -9223372036854775808≤n) (h1:n≤9223372036854775807) (w:World) (htab:Lib.TabIs Tryz.prog w "internal/strconv.uint64pow10" .u64 Lib.pow10Tab) :
  Calls Tryz.prog 51 #[.int .i64 n] w λe w'=>e = .returned (.string ⟨(Lib.itoa n).toArray⟩)∧∃k os,w'=grow (w.drewN k) os:=Any.strconv_Itoa Tryz.laysM171 n h0 h1 w htab
end Go.Proofs
namespace Go.Proofs.YtbabjlohkniciaaGreatDoor.obj
open Go Go.RowKit lib
def Pw (w:World):Prop:=Lib.TabIs Tryz.prog w "internal/strconv.uint64pow10" .u64 Lib.pow10Tab
theorem qvy:∃g,Tryz.prog.globalNamed "internal/strconv.uint64pow10" = some g:=Option.isSome_iff_exists.1 (by kernel_rfl)
theorem Pw.fr {w w':World} (h:Pw w) (f:Fr [] w w'):Pw w':=by
 obtain⟨g,hg⟩:=qvy;unfold Pw Lib.TabIs World.var? at h ⊢;rw[hg]at h ⊢;simp only[Option.bind_some]at h ⊢;have hlt:g<w.heap.size:=by
  rcases qbq g w.heap.size with h'|h'
  ·exact h'
  ·rw[Array.getElem?_eq_none h']at h;cases h
 rw[f.block g hlt (by simp)];exact h
theorem zcy (w:World) (k:Nat) (os:Array Obj):Fr [] w (Go.Sort.grow (w.drewN k) os):=
 ⟨rfl,rfl,rfl,by simp[Go.Sort.grow],λi hi _=>by simp only[Go.Sort.grow];exact Array.getElem?_append_left (show i<(w.drewN k).heap.size from hi)⟩
theorem qz4 (n:Nat) (h1:n≤140737488355328) (w:World) (h:Pw w):Calls Tryz.prog 51 #[.int .i64 n] w λe w'=>e = .returned (.string (str (Lib.decDigits n)))∧Fr [] w w':=
 (Go.Proofs.Tryz.strconv_Itoa (n:Int) (by omega) (by omega) w h).mono λe w' hh=>⟨by rw[hh.1];unfold str Lib.itoa;rw[if_neg (by omega)];rfl,by obtain⟨k,os,rfl⟩:=hh.2;exact zcy w k os⟩
end Go.Proofs.YtbabjlohkniciaaGreatDoor.obj
namespace Go.Proofs.YtbabjlohkniciaaGreatDoor.sha
open Go Go.RowKit lib
def rol (x:Int) (n:Nat):Int:=bits .or .u32 (x*2^n%4294967296) (x/2^(32-n))
def add32 (a b:Int):Int:=(a+b)%4294967296
def not32 (a:Int):Int:=bits .xor .u32 IntKind.u32.max a
def ch (b c d:Int):Int:=bits .or .u32 (bits .and .u32 b c) (bits .and .u32 (not32 b) d)
def par (b c d:Int):Int:=bits .xor .u32 (bits .xor .u32 b c) d
def maj (b c d:Int):Int:=bits .or .u32 (bits .or .u32 (bits .and .u32 b c) (bits .and .u32 b d)) (bits .and .u32 c d)
def fsel (q:Nat) (b c d:Int):Int:=match q with
 | 0=>ch b c d
 | 1=>par b c d
 | 2=>maj b c d
 | _=>par b c d
def ksel (q:Nat):Int:=match q with
 | 0=>1518500249
 | 1=>1859775393
 | 2=>2400959708
 | _=>3395469782
def word (p:List UInt8) (i:Nat):Int:=(((p[i]?.getD 0).toNat*16777216+(p[i+1]?.getD 0).toNat*65536+(p[i+2]?.getD 0).toNat*256+(p[i+3]?.getD 0).toNat:Nat):Int)
def sched (p:List UInt8):Nat→List Int
 | 0=>[]
 | t+1=>sched p t++[if t<16 then word p (4*t) else rol (bits .xor .u32 (bits .xor .u32 (bits .xor .u32 ((sched p t)[t-3]?.getD 0) ((sched p t)[t-8]?.getD 0)) ((sched p t)[t-14]?.getD 0)) ((sched p t)[t-16]?.getD 0)) 1]
theorem qd5 (p:List UInt8):∀t,(sched p t).length=t
 | 0=>rfl
 | t+1=>by rw[sched,qab,qd5 p t];rfl
theorem qkr (p:List UInt8) (i:Nat):∀t,i<t→(sched p t)[i]?=(sched p (i+1))[i]?
 | 0,h=>by omega
 | t+1,h=>by
  by_cases e:i=t
  ·rw[e]
  ·rw[<-qkr p i t (by omega)];conv=>lhs;rw[sched]
   rw[qcc (by rw[qd5];omega)]
structure H5 where
 a:Int
 b:Int
 c:Int
 d:Int
 e:Int
def round (p:List UInt8) (t:Nat) (s:H5):H5:=
 ⟨add32 (add32 (add32 (add32 (rol s.a 5) (fsel (t/20) s.b s.c s.d)) s.e) (ksel (t/20))) ((sched p 80)[t]?.getD 0),s.a,rol s.b 30,s.c,s.d⟩
def rounds (p:List UInt8):Nat→H5→H5
 | 0,s=>s
 | t+1,s=>round p t (rounds p t s)
def mixH (h:H5) (p:List UInt8):H5:=
 ⟨add32 h.a (rounds p 80 h).a,add32 h.b (rounds p 80 h).b,add32 h.c (rounds p 80 h).c,add32 h.d (rounds p 80 h).d,add32 h.e (rounds p 80 h).e⟩
def H5.vals (h:H5):Array Value:=#[.int .u32 h.a,.int .u32 h.b,.int .u32 h.c,.int .u32 h.d,.int .u32 h.e]
def h0:H5:=⟨1732584193,4023233417,2562383102,271733878,3285377520⟩
def blocks:Nat→H5→List UInt8→H5
 | 0,h,_=>h
 | f+1,h,p=>if 64≤p.length then blocks f (mixH h p) (p.drop 64) else h
theorem qde (x:Int) (n:Nat) (w:World) (hn:n=1∨n=5∨n=30) :
  Calls Tryz.prog 140 #[.int .u32 x,.int .i64 n] w λe w'=>e = .returned (.int .u32 (rol x n))∧w'=w:=by
 have h31:bits .and .u64 (n:Int) 31=(n:Int):=by rcases hn with rfl|rfl|rfl<;>decide +kernel
 have h0:1≤n∧n≤30:=by omega
 clear hn;go_enter Tryz.func140,Tryz.ntmps140;go_wp2;go_ret;exact⟨rfl,rfl⟩
theorem qnm (b c d:Int) (w:World):Calls Tryz.prog 174 #[.int .u32 b,.int .u32 c,.int .u32 d] w λe w'=>e = .returned (.int .u32 (par b c d))∧w'=w:=by go_enter Tryz.func174,Tryz.ntmps174;go_wp2;go_ret;exact⟨rfl,rfl⟩
theorem qs2 (b c d:Int) (w:World):Calls Tryz.prog 175 #[.int .u32 b,.int .u32 c,.int .u32 d] w λe w'=>e = .returned (.int .u32 (ch b c d))∧w'=w:=by go_enter Tryz.func175,Tryz.ntmps175;go_wp2;go_ret;exact⟨rfl,rfl⟩
theorem qns (b c d:Int) (w:World):Calls Tryz.prog 176 #[.int .u32 b,.int .u32 c,.int .u32 d] w λe w'=>e = .returned (.int .u32 (maj b c d))∧w'=w:=by go_enter Tryz.func176,Tryz.ntmps176;go_wp2;go_ret;exact⟨rfl,rfl⟩
def fns:Array Value:=#[.func (.func 175) #[] #[],.func (.func 174) #[] #[],.func (.func 176) #[] #[],.func (.func 174) #[] #[]]
def kns:Array Value:=#[.int .u32 1518500249,.int .u32 1859775393,.int .u32 2400959708,.int .u32 3395469782]
theorem qvf (w:World):Calls Tryz.prog 141 #[] w λe w'=>e = .returned (.tuple #[.agg fns,.agg kns])∧Fr [] w w':=by go_enter Tryz.func141,Tryz.ntmps141;go_wp2;refine bodyPost_ret (v:=.tuple #[.agg fns,.agg kns]) (by simp[results,Tryz.results141,go_sem,fns,kns]) rfl ?_;exact⟨rfl,((Fr.refl [] w).alloc _).alloc _⟩
open bm
def sv (p:List UInt8) (j:Nat):Int:=(sched p 80)[j]?.getD 0
theorem qtd (p:List UInt8) (j t:Nat) (h:j<t) (ht:t≤80):(sched p t)[j]?.getD 0=sv p j:=by unfold sv;rw[qkr p j t h,qkr p j 80 (by omega)]
theorem zd5 (p:List UInt8) (j:Nat) (h:j<16):sv p j=word p (4*j):=by rw[<-qtd p j (j+1) (by omega) (by omega),sched,qek (by rw[qd5];exact qag _),qd5,Nat.sub_self];simp[h]
theorem zd6 (p:List UInt8) (j:Nat) (h:16≤j) (h2:j<80):sv p j=rol (bits .xor .u32 (bits .xor .u32 (bits .xor .u32 (sv p (j-3)) (sv p (j-8))) (sv p (j-14))) (sv p (j-16))) 1:=by rw[<-qtd p j (j+1) (by omega) (by omega),sched,qek (by rw[qd5];exact qag _),qd5,Nat.sub_self];rw[qtd p (j-3) j (by omega) (by omega),qtd p (j-8) j (by omega) (by omega),qtd p (j-14) j (by omega) (by omega),qtd p (j-16) j (by omega) (by omega)];simp[show ¬j<16 from by omega]
structure Mx (w wr:World) (h:H5) (p:List UInt8) (B t:Nat):Prop where
 fr:Fr [] w wr
 hb:wr.heap[B]?=some (.cells h.vals 140 (0,0))
 rb:wr.heap[B+1]?=some (.cells #[.int .u32 0,.int .u32 0,.int .u32 0,.int .u32 0,.int .u32 0] 140 (0,0))
 wb:∃A,wr.heap[B+2]?=some (.cells A 213 (0,0))∧A.size=80∧∀j,j<t→A[j]?=some (.int .u32 (sv p j))
 lo:w.heap.size=B
theorem Mx.store {w wr wd:World} {h:H5} {p:List UInt8} {B t:Nat} (m:Mx w wr h p B t) (f:Fr [] wr wd) (ht:t<80) (v:Int) (hv:v=sv p t):Mx w (wd.setCell ⟨B+2,t,none⟩ (.int .u32 v)) h p B (t+1):=by
 obtain⟨A,hA,hAs,hAt⟩:=m.wb;have f2:Fr [B+2] wd (wd.setCell ⟨B+2,t,none⟩ (.int .u32 v)):=(Fr.refl [B+2] wd).setCell (by simp) _;refine⟨(m.fr.trans f).step f2 λy hy=>.inr (by simp at hy;have:=m.lo;omega),f2.blk (f.blk m.hb (by simp)) (by simp),f2.blk (f.blk m.rb (by simp)) (by simp),⟨_,qa0 (f.blk hA (by simp)) _,by simp[hAs],λj hj=>?_⟩,m.lo⟩;by_cases e:j=t
 ·subst e;rw[qaq (by omega),hv]
 ·rw[qac (by omega)];exact hAt j (by omega)
theorem Mx.fr0 {w wr wd:World} {h:H5} {p:List UInt8} {B t:Nat} (m:Mx w wr h p B t) (f:Fr [] wr wd):Mx w wd h p B t:=by obtain⟨A,hA,hAs,hAt⟩:=m.wb;exact⟨m.fr.trans f,f.blk m.hb (by simp),f.blk m.rb (by simp),⟨A,f.blk hA (by simp),hAs,hAt⟩,m.lo⟩
theorem put5 {wz:World} {R:Nat} {t:TypeId} {u0 u1 u2 u3 u4:Value} (hb:wz.heap[R]?=some (.cells #[u0,u1,u2,u3,u4] t (0,0))) (v0 v1 v2 v3 v4:Value) :
  (((((wz.setCell ⟨R,0,none⟩ v0).setCell ⟨R,1,none⟩ v1).setCell ⟨R,2,none⟩ v2).setCell ⟨R,3,none⟩ v3).setCell ⟨R,4,none⟩ v4).heap[R]?=some (.cells #[v0,v1,v2,v3,v4] t (0,0))∧
   Fr [R] wz (((((wz.setCell ⟨R,0,none⟩ v0).setCell ⟨R,1,none⟩ v1).setCell ⟨R,2,none⟩ v2).setCell ⟨R,3,none⟩ v3).setCell ⟨R,4,none⟩ v4):=
 ⟨(qa0 (qa0 (qa0 (qa0 (qa0 hb _) _) _) _) _).trans rfl,(((((Fr.refl [R] wz).setCell (by simp) _).setCell (by simp) _).setCell (by simp) _).setCell (by simp) _).setCell (by simp) _⟩
theorem info5:(Tryz.prog.info? 140).map (·.size)=some 5:=by kernel_rfl
theorem qgp {fn:Func} {p:Tmp} (h:fn.results=#[.cell p 140]) (tmps:Array Value) (w:World) (g:Nat) (cs:Array Value) (fr:Nat×Nat)
  (hp:tmps.getD p undef = .pointer (some ⟨g,0,none⟩)) (hg:w.heap[g]?=some (.cells cs 140 fr)) (hs:cs.size=5):(results fn tmps).run Tryz.prog w = .ok (.agg cs) w:=
 results_cell_row h tmps w g 140 cs fr _ hp hg Tryz.underlying140 rfl (by rw[info5,hs])
theorem qwg (h:H5) (a:Option Addr) (len cap:Nat) (p:List UInt8) (w:World) (hr:Rd w a cap p) (hlen:p.length=len) (h64:64≤len) :
  Calls Tryz.prog 91 #[.agg h.vals,.slice a len cap] w λe w'=>e = .returned (.agg (mixH h p).vals)∧Fr [] w w':=by
 have hle:=hr.le;have hmax:=hr.max;unfold maxLen at hmax;rw[hlen]at hle;obtain⟨g,o,rfl⟩:∃g o,a=some ⟨g,o,none⟩:=by obtain⟨g,o,e,_⟩:=hr.at (i:=0) (by omega);exact⟨g,o,e⟩
 have H:=zhd2 hr hlen;clear hr hlen;unfold H5.vals;go_enter Tryz.func91,Tryz.ntmps91;go_upto_block 0 with fail;obtain⟨B,w1,hB,hw1,hm⟩:∃B w1,B=w.heap.size∧w1=((w.alloc (.cells #[.int .u32 h.a,.int .u32 h.b,.int .u32 h.c,.int .u32 h.d,.int .u32 h.e] 140)).alloc (.cells #[.int .u32 0,.int .u32 0,.int .u32 0,.int .u32 0,.int .u32 0] 140)).alloc (.cells Tryz.zeroCells213 213)∧Mx w w1 h p B 0:=by refine⟨_,_,rfl,rfl,(((Fr.refl [] w).alloc _).alloc _).alloc _,alloc_old _ (alloc_old _ (qa4 w _)),alloc_old _ (by have:=qa4 (w.alloc (.cells #[.int .u32 h.a,.int .u32 h.b,.int .u32 h.c,.int .u32 h.d,.int .u32 h.e] 140)) (.cells #[.int .u32 0,.int .u32 0,.int .u32 0,.int .u32 0,.int .u32 0] 140);rw[qav]at this;exact this),⟨_,by have:=qa4 ((w.alloc (.cells #[.int .u32 h.a,.int .u32 h.b,.int .u32 h.c,.int .u32 h.d,.int .u32 h.e] 140)).alloc (.cells #[.int .u32 0,.int .u32 0,.int .u32 0,.int .u32 0,.int .u32 0] 140)) (.cells Tryz.zeroCells213 213);rw[qav,qav]at this;exact this,by kernel_rfl,λj hj=>by omega⟩,rfl⟩
 rw[<-hw1,show w.heap.size+1+1=B+2 from by omega,<-hB];have HM:=zhd3 hm hB hw1;clear hm hB hw1;go_wp2;go_loopg [6,17] 16 (λk s6 s17 wr=>∃t:Nat,s17 = .int .i64 (t:Nat)∧t+k=16∧Mx w wr h p B t);case atStart=>exact⟨0,rfl,rfl,HM.o0⟩
 case round=>
  obtain⟨t,rfl,htk,hm⟩:=hrel;by_cases ht:t<16
  ·obtain⟨k,rfl⟩:∃k,gk=k+1:=⟨gk-1,by omega⟩;have HMM:=zhd hm;clear hm;go_upto_region 5 with fail;have hm:=HMM.out;obtain⟨A,hA,hAs,hAt⟩:=hm.wb;have zA:=qay hA t;obtain⟨x0,hx0⟩:∃x,wr.cell? ⟨B+2,t,none⟩=some x:=⟨A[t]'(by omega),by rw[cell_of hA];exact qhv (by omega)⟩;obtain⟨m0,hm0⟩:∃m,m=4*t:=⟨_,rfl⟩;obtain⟨m1,hm1⟩:∃m,m=m0+1:=⟨_,rfl⟩;obtain⟨m2,hm2⟩:∃m,m=m0+2:=⟨_,rfl⟩;obtain⟨m3,hm3⟩:∃m,m=m0+3:=⟨_,rfl⟩;have e0:(4:Int)*(t:Int)=(m0:Int):=by omega
   have e1:(m0:Int)+1=(m1:Int):=by omega
   have e2:(m0:Int)+2=(m2:Int):=by omega
   have e3:(m0:Int)+3=(m3:Int):=by omega
   have w0:IntKind.i64.wrap ((4:Int)*(t:Int))=(m0:Int):=by rw[qcx];omega
   have w1':IntKind.i64.wrap ((m0:Int)+1)=(m1:Int):=by rw[qcx];omega
   have w2':IntKind.i64.wrap ((m0:Int)+2)=(m2:Int):=by rw[qcx];omega
   have w3':IntKind.i64.wrap ((m0:Int)+3)=(m3:Int):=by rw[qcx];omega
   have hpl:=H.l1;have hrr:=H.o0.fr hm.fr;have b0:m0<p.length:=by omega
   have b1:m1<p.length:=by omega
   have b2:m2<p.length:=by omega
   have b3:m3<p.length:=by omega
   obtain⟨_,_,q0,X0⟩:=hrr.at b0;obtain⟨_,_,q1,X1⟩:=hrr.at b1;obtain⟨_,_,q2,X2⟩:=hrr.at b2;obtain⟨_,_,q3,X3⟩:=hrr.at b3;simp only[qas,qcg,and_true]at q0 q1 q2 q3;obtain⟨rfl,rfl⟩:=q0;obtain⟨rfl,rfl⟩:=q1;obtain⟨rfl,rfl⟩:=q2;obtain⟨rfl,rfl⟩:=q3;have hw:word p m0=((p[m0].toNat*16777216+p[m1].toNat*65536+p[m2].toNat*256+p[m3].toNat:Nat):Int):=by unfold word;rw[<-hm1,<-hm2,<-hm3,qaf b0,qaf b1,qaf b2,qaf b3];rfl
   have l0:=qbo p[m0];have l1:=qbo p[m1];have l2:=qbo p[m2];have l3:=qbo p[m3];generalize p[m0].toNat=y0 at *;generalize p[m1].toNat=y1 at *;generalize p[m2].toNat=y2 at *;generalize p[m3].toNat=y3 at *;obtain⟨z1,hz1⟩:∃z,z=y0*16777216+y1*65536:=⟨_,rfl⟩;obtain⟨z2,hz2⟩:∃z,z=z1+y2*256:=⟨_,rfl⟩;obtain⟨z3,hz3⟩:∃z,z=z2+y3:=⟨_,rfl⟩;have r1:bits .or .u32 ((y0:Int)*16777216) ((y1:Int)*65536)=(z1:Int):=by have:=sums.qk3 (y0*16777216) (y1*65536) 24 (by omega) (by decide) (by omega) (by omega);rw[<-hz1]at this;simpa using this
   have r2:bits .or .u32 (z1:Int) ((y2:Int)*256)=(z2:Int):=by have:=sums.qk3 z1 (y2*256) 16 (by omega) (by decide) (by omega) (by omega);rw[<-hz2]at this;simpa using this
   have r3:bits .or .u32 (z2:Int) (y3:Int)=(z3:Int):=by have:=sums.qk3 z2 y3 8 (by omega) (by decide) (by omega) (by omega);rw[<-hz3]at this;exact this
   have HV:Hid ((z3:Int)=sv p t):=zhd (by rw[zd5 p t ht,<-hm0,hw];congr 1;omega);have i0:(m0:Int)<(len:Int):=by omega
   have i1:(m1:Int)<(len:Int):=by omega
   have i2:(m2:Int)<(len:Int):=by omega
   have i3:(m3:Int)<(len:Int):=by omega
   clear hm hA hAs hAt hrr hpl hw hz1 hz2 hz3 hm0 hm1 hm2 hm3 b0 b1 b2 b3;refine qcl 35 (by kernel_rfl) (by kernel_rfl) ?_;simp only[qai,qao,qah,qaj];repeat (go_big_quiet_step (fail))
   refine wpQuiet_nil ?_;clear X0 X1 X2 X3 w0 w1' w2' w3' r1 r2 r3 e0 e1 e2 e3;go_wp2;go_roundg k;case measure=>omega
   case rel=>exact⟨t+1,by go_num,by omega,HMM.out.store (Fr.drew1 [] wr) (by omega) _ HV.out⟩
  ·obtain rfl:t=16:=by omega
   obtain rfl:gk=0:=by omega
   have HM1:=zhd hm;clear hm;obtain⟨w2,rfl⟩:∃w2:World,w2=wr:=⟨_,rfl⟩;go_upto_block 2 with fail;go_wp2;go_loopg [7] 64 (λk s7 wr=>∃t:Nat,s7 = .int .i64 (t:Nat)∧t+k=80∧16≤t∧Mx w wr h p B t);case atStart=>exact⟨16,rfl,rfl,by omega,HM1.out⟩
   case round=>
    obtain⟨t,rfl,htk,ht16,hm⟩:=hrel;have HMM:=zhd hm;clear hm;by_cases ht:t<80
    ·obtain⟨k,rfl⟩:∃k,gk=k+1:=⟨gk-1,by omega⟩;go_upto_region 10 with fail;have hm:=HMM.out;obtain⟨A,hA,hAs,hAt⟩:=hm.wb;have zA:=qay hA t;obtain⟨x0,hx0⟩:∃x,wr.cell? ⟨B+2,t,none⟩=some x:=⟨A[t]'(by omega),by rw[cell_of hA];exact qhv (by omega)⟩;obtain⟨n3,hn3⟩:∃m,m=t-3:=⟨_,rfl⟩;obtain⟨n8,hn8⟩:∃m,m=t-8:=⟨_,rfl⟩;obtain⟨n14,hn14⟩:∃m,m=t-14:=⟨_,rfl⟩;obtain⟨n16,hn16⟩:∃m,m=t-16:=⟨_,rfl⟩;have e3:(t:Int)-3=(n3:Int):=by omega
     have e8:(t:Int)-8=(n8:Int):=by omega
     have e14:(t:Int)-14=(n14:Int):=by omega
     have e16:(t:Int)-16=(n16:Int):=by omega
     have w3:IntKind.i64.wrap ((t:Int)-3)=(n3:Int):=by rw[qcx];omega
     have w8:IntKind.i64.wrap ((t:Int)-8)=(n8:Int):=by rw[qcx];omega
     have w14:IntKind.i64.wrap ((t:Int)-14)=(n14:Int):=by rw[qcx];omega
     have w16:IntKind.i64.wrap ((t:Int)-16)=(n16:Int):=by rw[qcx];omega
     have x3:=(cell_of hA n3).trans (hAt n3 (by omega));have x8:=(cell_of hA n8).trans (hAt n8 (by omega));have x14:=(cell_of hA n14).trans (hAt n14 (by omega));have x16:=(cell_of hA n16).trans (hAt n16 (by omega));have i3:(n3:Int)<80:=by omega
     have i8:(n8:Int)<80:=by omega
     have i14:(n14:Int)<80:=by omega
     have i16:(n16:Int)<80:=by omega
     have it:(t:Int)<80:=by omega
     have hv:=zd6 p t ht16 ht;rw[<-hn3,<-hn8,<-hn14,<-hn16]at hv;have HV:=zhd hv;clear hm hA hAs hAt hn3 hn8 hn14 hn16 hv;refine qcl 22 (by kernel_rfl) (by kernel_rfl) ?_;simp only[qai,qao,qah,qaj];repeat (go_big_quiet_step (exact qde _ 1 _ (.inl rfl) _))
     refine wpQuiet_nil ?_;clear x3 x8 x14 x16 w3 w8 w14 w16 e3 e8 e14 e16;go_wp2;go_roundg k;case measure=>omega
     case rel=>exact⟨t+1,by go_num,by omega,by omega,HMM.out.store (Fr.drew1 [] wr) ht _ HV.out.symm⟩
    ·obtain rfl:t=80:=by omega
     obtain rfl:gk=0:=by omega
     obtain⟨w3,rfl⟩:∃w3:World,w3=wr:=⟨_,rfl⟩;go_upto_region 12 with (go_at_call 141;refine (qvf _).mono ?_;unfold fns kns;rintro e w4 ⟨rfl,f4⟩;have H4:=zhd f4;clear f4);obtain⟨Q,w5,hQ,hw5,f5,qf,qk⟩:∃Q w5,Q=w4.heap.size∧w5=(w4.alloc (.cells fns 216)).alloc (.cells kns 217)∧Fr [] w4 w5∧w5.heap[Q]?=some (.cells fns 216 (0,0))∧w5.heap[Q+1]?=some (.cells kns 217 (0,0)):=
      ⟨_,_,rfl,rfl,((Fr.refl [] w4).alloc _).alloc _,alloc_old _ (qa4 w4 _),by have:=qa4 (w4.alloc (.cells fns 216)) (.cells kns 217);rw[qav]at this;exact this⟩
     unfold fns kns at hw5;rw[<-hw5,<-hQ];have hm5:=HMM.out.fr0 (H4.out.trans f5);have k0:=cell_of hm5.hb 0;have k1:=cell_of hm5.hb 1;have k2:=cell_of hm5.hb 2;have k3:=cell_of hm5.hb 3;have k4:=cell_of hm5.hb 4;unfold H5.vals at k0 k1 k2 k3 k4;simp only[qae,qaa,qad]at k0 k1 k2 k3 k4;have H5':=zhd3 hm5 qf qk;clear hm5 qf qk hw5 hQ f5;go_quiet (fail);clear k0 k1 k2 k3 k4;go_upto_block 4 with fail;go_wp2;go_loopg [10,11,12,13,14,15,16,96] 80 (λk s10 s11 s12 s13 s14 s15 s16 s96 wr=>∃t:Nat,s96 = .int .i64 (t:Nat)∧t+k=80∧s10 = .int .u32 (rounds p t h).a∧s11 = .int .u32 (rounds p t h).b∧s12 = .int .u32 (rounds p t h).c∧s13 = .int .u32 (rounds p t h).d∧s14 = .int .u32 (rounds p t h).e∧Fr [] w5 wr);case atStart=>exact⟨0,rfl,rfl,rfl,rfl,rfl,rfl,rfl,Fr.drewN [] w5 _⟩
     case round=>
      obtain⟨t,rfl,htk,rfl,rfl,rfl,rfl,rfl,hf⟩:=hrel;have HF:=zhd hf;clear hf;by_cases ht:t<80
      ·obtain⟨k,rfl⟩:∃k,gk=k+1:=⟨gk-1,by omega⟩;have hro:rounds p (t+1) h=round p t (rounds p t h):=rfl;unfold round at hro;have hsv:(sched p 80)[t]?.getD 0=sv p t:=rfl;rw[hsv]at hro;generalize rounds p t h=s at *;obtain⟨sa,sb,sc,sd,se⟩:=s;simp only at hro;have HR:=zhd hro;clear hro hsv;go_upto_region 16 with fail;have hm6:=H5'.out.1.fr0 HF.out;obtain⟨A,hA,hAs,hAt⟩:=hm6.wb;have xw:=(cell_of hA t).trans (hAt t ht);have bf:=HF.out.blk H5'.out.2.1 (by simp);have bk:=HF.out.blk H5'.out.2.2 (by simp);have it:(t:Int)<80:=by omega
       clear hm6 hA hAs hAt;obtain⟨q,hq⟩:=zex (t/20);have hq4:q<4:=by omega
       have hqi:(t:Int)/20=(q:Int):=by omega
       rw[<-hq]at HR;rcases (show q=0∨q=1∨q=2∨q=3 by omega) with rfl|rfl|rfl|rfl
       ·have xf:=cell_of bf 0;have xk:=cell_of bk 0;unfold fns at xf;unfold kns at xk;simp only[qae,qaa,qad]at xf xk;clear bf bk hq;go_quiet ((first|(go_at_call 140;exact qbz (qde _ 5 _ (.inr (.inl rfl))))|(go_at_call 175;exact qbz (qs2 _ _ _ _))|(go_at_call 174;exact qbz (qnm _ _ _ _))|(go_at_call 176;exact qbz (qns _ _ _ _))));clear xf xk xw hqi;go_wp2_with (go_at_call 140;refine (qde _ 30 _ (.inr (.inr rfl))).mono ?_;rintro e w7 ⟨rfl,rfl⟩);go_roundg k;case measure=>omega
        case rel=>
         refine⟨t+1,by go_num,by omega,?_,?_,?_,?_,?_,HF.out.trans (Fr.drewN _ _ _)⟩;all_goals rw[HR.out]
         all_goals (first|rfl|(simp only[add32,Int.emod_add_emod,Int.add_emod_emod,fsel,ksel]))
       ·have xf:=cell_of bf 1;have xk:=cell_of bk 1;unfold fns at xf;unfold kns at xk;simp only[qae,qaa,qad]at xf xk;clear bf bk hq;go_quiet ((first|(go_at_call 140;exact qbz (qde _ 5 _ (.inr (.inl rfl))))|(go_at_call 175;exact qbz (qs2 _ _ _ _))|(go_at_call 174;exact qbz (qnm _ _ _ _))|(go_at_call 176;exact qbz (qns _ _ _ _))));clear xf xk xw hqi;go_wp2_with (go_at_call 140;refine (qde _ 30 _ (.inr (.inr rfl))).mono ?_;rintro e w7 ⟨rfl,rfl⟩);go_roundg k;case measure=>omega
        case rel=>
         refine⟨t+1,by go_num,by omega,?_,?_,?_,?_,?_,HF.out.trans (Fr.drewN _ _ _)⟩;all_goals rw[HR.out]
         all_goals (first|rfl|(simp only[add32,Int.emod_add_emod,Int.add_emod_emod,fsel,ksel]))
       ·have xf:=cell_of bf 2;have xk:=cell_of bk 2;unfold fns at xf;unfold kns at xk;simp only[qae,qaa,qad]at xf xk;clear bf bk hq;go_quiet ((first|(go_at_call 140;exact qbz (qde _ 5 _ (.inr (.inl rfl))))|(go_at_call 175;exact qbz (qs2 _ _ _ _))|(go_at_call 174;exact qbz (qnm _ _ _ _))|(go_at_call 176;exact qbz (qns _ _ _ _))));clear xf xk xw hqi;go_wp2_with (go_at_call 140;refine (qde _ 30 _ (.inr (.inr rfl))).mono ?_;rintro e w7 ⟨rfl,rfl⟩);go_roundg k;case measure=>omega
        case rel=>
         refine⟨t+1,by go_num,by omega,?_,?_,?_,?_,?_,HF.out.trans (Fr.drewN _ _ _)⟩;all_goals rw[HR.out]
         all_goals (first|rfl|(simp only[add32,Int.emod_add_emod,Int.add_emod_emod,fsel,ksel]))
       ·have xf:=cell_of bf 3;have xk:=cell_of bk 3;unfold fns at xf;unfold kns at xk;simp only[qae,qaa,qad]at xf xk;clear bf bk hq;go_quiet ((first|(go_at_call 140;exact qbz (qde _ 5 _ (.inr (.inl rfl))))|(go_at_call 175;exact qbz (qs2 _ _ _ _))|(go_at_call 174;exact qbz (qnm _ _ _ _))|(go_at_call 176;exact qbz (qns _ _ _ _))));clear xf xk xw hqi;go_wp2_with (go_at_call 140;refine (qde _ 30 _ (.inr (.inr rfl))).mono ?_;rintro e w7 ⟨rfl,rfl⟩);go_roundg k;case measure=>omega
        case rel=>
         refine⟨t+1,by go_num,by omega,?_,?_,?_,?_,?_,HF.out.trans (Fr.drewN _ _ _)⟩;all_goals rw[HR.out]
         all_goals (first|rfl|(simp only[add32,Int.emod_add_emod,Int.add_emod_emod,fsel,ksel]))
      ·obtain rfl:t=80:=by omega
       obtain rfl:gk=0:=by omega
       have hm6:=H5'.out.1.fr0 HF.out;have k0:=cell_of hm6.hb 0;have k1:=cell_of hm6.hb 1;have k2:=cell_of hm6.hb 2;have k3:=cell_of hm6.hb 3;have k4:=cell_of hm6.hb 4;unfold H5.vals at k0 k1 k2 k3 k4;simp only[qae,qaa,qad]at k0 k1 k2 k3 k4;have c0:=cell_of hm6.rb 0;have c1:=cell_of hm6.rb 1;have c2:=cell_of hm6.rb 2;have c3:=cell_of hm6.rb 3;have c4:=cell_of hm6.rb 4;have z0:=qay hm6.rb 0;have z1:=qay hm6.rb 1;have z2:=qay hm6.rb 2;have z3:=qay hm6.rb 3;have z4:=qay hm6.rb 4;simp only[qae,qaa,qad]at c0 c1 c2 c3 c4;have hmx:mixH h p=⟨add32 h.a (rounds p 80 h).a,add32 h.b (rounds p 80 h).b,add32 h.c (rounds p 80 h).c,add32 h.d (rounds p 80 h).d,add32 h.e (rounds p 80 h).e⟩:=rfl;generalize rounds p 80 h=s at *;unfold add32 at hmx;have HX:=zhd2 hmx hm6;clear hmx hm6;go_wp2;obtain⟨p1,p2⟩:=put5 HX.out.2.rb (.int .u32 ((h.a+s.a)%4294967296)) (.int .u32 ((h.b+s.b)%4294967296)) (.int .u32 ((h.c+s.c)%4294967296)) (.int .u32 ((h.d+s.d)%4294967296)) (.int .u32 ((h.e+s.e)%4294967296));refine bodyPost_ret (qgp rfl _ _ (B+1) _ (0,0) rfl p1 rfl) rfl ?_;refine⟨by rw[HX.out.1],HX.out.2.fr.step p2 λy hy=>.inr (by simp at hy;have:=HX.out.2.lo;omega)⟩
structure ShC (C:Array Value) (h:H5) (v:Value) (len:Nat):Prop where
 size:C.size=267
 k:C[0]?=some (.int .i64 1)
 a:C[1]?=some (.int .u32 h.a)
 b:C[2]?=some (.int .u32 h.b)
 c:C[3]?=some (.int .u32 h.c)
 d:C[4]?=some (.int .u32 h.d)
 e:C[5]?=some (.int .u32 h.e)
 r:C[6]?=some v
 n:C[7]?=some (.int .u64 len)
theorem ShC.set6 {C:Array Value} {h:H5} {v:Value} {len:Nat} (s:ShC C h v len) (u:Value):ShC (C.setIfInBounds 6 u) h u len:=by obtain⟨h1,h2,h3,h4,h5,h6,h7,h8,h9⟩:=s;exact⟨by simp[h1],by rw[qac (by decide),h2],by rw[qac (by decide),h3],by rw[qac (by decide),h4],by rw[qac (by decide),h5],by rw[qac (by decide),h6],by rw[qac (by decide),h7],qaq (by omega),by rw[qac (by decide),h9]⟩
theorem ShC.set7 {C:Array Value} {h:H5} {v:Value} {len:Nat} (s:ShC C h v len) (l:Nat):ShC (C.setIfInBounds 7 (.int .u64 l)) h v l:=by obtain⟨h1,h2,h3,h4,h5,h6,h7,h8,h9⟩:=s;exact⟨by simp[h1],by rw[qac (by decide),h2],by rw[qac (by decide),h3],by rw[qac (by decide),h4],by rw[qac (by decide),h5],by rw[qac (by decide),h6],by rw[qac (by decide),h7],by rw[qac (by decide),h8],qaq (by omega)⟩
theorem ShC.setH {C:Array Value} {h:H5} {v:Value} {len:Nat} (s:ShC C h v len) (a b c d e:Int) :
  ShC (((((C.setIfInBounds 1 (.int .u32 a)).setIfInBounds 2 (.int .u32 b)).setIfInBounds 3 (.int .u32 c)).setIfInBounds 4 (.int .u32 d)).setIfInBounds 5 (.int .u32 e)) ⟨a,b,c,d,e⟩ v len:=by
 obtain⟨h1,h2,h3,h4,h5,h6,h7,h8,h9⟩:=s;exact⟨by simp[h1],by rw[qac (by decide),qac (by decide),qac (by decide),qac (by decide),qac (by decide),h2],by rw[qac (by decide),qac (by decide),qac (by decide),qac (by decide)];exact qaq (by simp[h1]),by rw[qac (by decide),qac (by decide),qac (by decide)];exact qaq (by simp[h1]),by rw[qac (by decide),qac (by decide)];exact qaq (by simp[h1]),by rw[qac (by decide)];exact qaq (by simp[h1]),qaq (by simp[h1]),by rw[qac (by decide),qac (by decide),qac (by decide),qac (by decide),qac (by decide),h8],by rw[qac (by decide),qac (by decide),qac (by decide),qac (by decide),qac (by decide),h9]⟩
structure Sh (w:World) (g:Nat) (h:H5) (ra:Option Addr) (rc:Nat) (rs:List UInt8) (len:Nat):Prop where
 blk:∃C,w.heap[g]?=some (.cells C 143 (0,0))∧ShC C h (.slice ra rs.length rc) len
 own:Own w 5 ra rc (rs.map bv)
 ne:g∉lib.blk ra
def leftOf:Nat→List UInt8→List UInt8
 | 0,p=>p
 | f+1,p=>if 64≤p.length then leftOf f (p.drop 64) else p
theorem qyf (w:World):Calls Tryz.prog 90 #[.int .i64 1] w λe w'=>e = .returned (.pointer (some ⟨w.heap.size,0,none⟩))∧Sh w' w.heap.size h0 none 0 [] 0∧Fr [] w w':=by go_enter Tryz.func90,Tryz.ntmps90;go_wp2;go_ret;exact⟨rfl,⟨⟨_,qa4 w _,⟨rfl,rfl,rfl,rfl,rfl,rfl,rfl,rfl,rfl⟩⟩,Own.nil _ _,by simp[lib.blk]⟩,(Fr.refl [] w).alloc _⟩
theorem qof (g:Nat) (h:H5) (ra:Option Addr) (rc:Nat) (rs:List UInt8) (len cap:Nat) (ao:Option Addr) (bs:List UInt8) (w:World) (hs:Sh w g h ra rc rs len) (hr:Rd w ao cap bs) (hng:bs≠[]→∀x∈lib.blk ao,x≠g)
  (hl:len+bs.length≤140737488355328) (hrl:rs.length+bs.length≤140737488355328) :
  Calls Tryz.prog 55 #[.pointer (some ⟨g,0,none⟩),.slice ao bs.length cap] w λe w'=>e = .returned (.tuple #[])∧Fr (g::lib.blk ra) w w'∧
   ∃ra' rc',Sh w' g (blocks (rs++bs).length h (rs++bs)) ra' rc' (leftOf (rs++bs).length (rs++bs)) (len+bs.length)∧∀x∈lib.blk ra',x∈lib.blk ra∨w.heap.size≤x:=by
 obtain⟨L,hL⟩:=zex bs.length;obtain⟨R,hR⟩:=zex rs.length;have hle:=hr.le;have hmax:=hr.max;unfold maxLen at hmax;obtain⟨C,hC,hc⟩:=hs.blk;obtain⟨o1,o2,o3⟩:=hs.own.shape;rw[qa8]at o1;rw[<-hR]at o1 hc hrl;rw[<-hL]at hle hl hrl ⊢;have c0:=(cell_of hC 0).trans hc.k;have c6:=(cell_of hC 6).trans hc.r;have c7:=(cell_of hC 7).trans hc.n;have z7:=qay hC 7;have H:=zhd7 hC hc hs hr hng hL hR;clear hC hc hs hr hng hL hR;go_enter Tryz.func55,Tryz.ntmps55;go_upto_region 3 with fail;have f1:Fr [g] w (w.setCell ⟨g,7,none⟩ (.int .u64 ((len+L:Nat):Int))):=(Fr.refl [g] w).setCell (by simp) _;have hC1:=qa0 (o:=7) H.o0 (.int .u64 ((len+L:Nat):Int));have hc1:=H.o1.set7 (len+L);have ecast:((len+L:Nat):Int)=(len:Int)+(L:Int):=by omega
 rw[ecast]at f1 hC1;generalize w.setCell ⟨g,7,none⟩ (.int .u64 ((len:Int)+(L:Int)))=w1 at *;rw[<-ecast]at hC1;obtain⟨C1,hCC⟩:∃C1,C1=C.setIfInBounds 7 (.int .u64 ((len+L:Nat):Int)):=⟨_,rfl⟩;rw[<-hCC]at hC1 hc1;have c6':=(cell_of hC1 6).trans hc1.r;have z6:=qay hC1 6;have ho1:Own w1 5 ra rc (rs.map bv):=H.o2.own.fr f1 (λx hx hm=>by simp at hm;rw[hm]at hx;exact H.o2.ne hx);have hr1:Rd w1 ao cap bs:=qji H.o3 f1 (λhb x hx hm=>by simp at hm;exact H.o4 hb x hx hm);have H1:=zhd5 hC1 hc1 f1 ho1 hr1;clear hC1 hc1 f1 ho1 hr1 hCC c0 c6 c7 z7 ecast;go_upto_block 1 with (refine qco sums.sliceU8 rfl _ _ rfl ra R rc (rs.map bv) rfl H1.o3 (by rw[qa8];exact H.l6.symm) ao L cap (bs.map bv) rfl hle H1.l4.nil H1.l4.cs (by rw[qa8];exact H.o5.symm) (sums.qev _) (by omega) (by unfold maxLen;omega) ?_;intro a2 q2 w2 A2;have c62:=A2.fr.cell c6' H.o2.ne;have z62:w2.frozen? ⟨g,6,none⟩=false:=qay (A2.fr.blk H1.o0 H.o2.ne) 6;have H2:=zhd A2;clear A2);have hlen2:(rs++bs).length=R+L:=by rw[qab,<-H.l6,<-H.o5]
 have hsh:Sh (w2.setCell ⟨g,6,none⟩ (.slice a2 (R+L) q2)) g h a2 q2 (rs++bs) (len+L)∧Fr (g::lib.blk ra) w (w2.setCell ⟨g,6,none⟩ (.slice a2 (R+L) q2))∧∀x∈lib.blk a2,x∈lib.blk ra∨w.heap.size≤x:=by
  have hg2:g∉lib.blk a2:=λhm=>by
   rcases H2.out.at_ g hm with k|k
   ·exact H.o2.ne k
   ·have:=lt_of_block H1.o0;omega
  have f6:Fr [g] w2 (w2.setCell ⟨g,6,none⟩ (.slice a2 (R+L) q2)):=(Fr.refl [g] w2).setCell (by simp) _;have hb2:=H2.out.fr.blk H1.o0 H.o2.ne;refine⟨⟨⟨_,qa0 hb2 _,by rw[hlen2];exact H1.o1.set6 _⟩,by rw[qbt];exact H2.out.own.fr f6 (λx hx hm=>by simp at hm;rw[hm]at hx;exact hg2 hx),hg2⟩,((H1.o2.mono (by simp)).step H2.out.fr (λy hy=>.inl (by simp[hy]))).step f6 (λy hy=>.inl (by simp at hy;simp[hy])),λx hx=>?_⟩;rcases H2.out.at_ x hx with k|k
  ·exact .inl k
  ·exact .inr (qan H1.o2.size k)
 generalize w2.setCell ⟨g,6,none⟩ (.slice a2 (R+L) q2)=w3 at *;have HS:=zhd2 hsh hlen2;clear hsh hlen2 c62 z62 c6' z6;go_wp2;go_loopg [] (R+L) (λk wr=>∃(h':H5) (ra':Option Addr) (rc':Nat) (ps:List UInt8),Sh wr g h' ra' rc' ps (len+L)∧Fr (g::lib.blk ra) w wr∧(∀x∈lib.blk ra',x∈lib.blk ra∨w.heap.size≤x)∧ps.length≤k∧blocks k h' ps=blocks (rs++bs).length h (rs++bs)∧leftOf k ps=leftOf (rs++bs).length (rs++bs));case atStart=>exact⟨h,a2,q2,rs++bs,HS.o0.1,HS.o0.2.1,HS.o0.2.2,by rw[HS.l1];exact qag _,by rw[HS.l1],by rw[HS.l1]⟩
 case round=>
  obtain⟨h',ra',rc',ps,hs,hf,hn,hk,hbl,hdo⟩:=hrel;obtain⟨P,hP⟩:=zex ps.length;obtain⟨C',hC,hc⟩:=hs.blk;obtain⟨o1',o2',o3'⟩:=hs.own.shape;rw[qa8]at o1';rw[<-hP]at hc hk o1';have c6:=(cell_of hC 6).trans hc.r;have HR:=zhd8 hs hf hn hbl hdo hP hC hc;clear hs hf hn hbl hdo hP;by_cases h64:64≤P
  ·obtain⟨k,rfl⟩:∃k,gk=k+1:=⟨gk-1,by omega⟩;have d1:decide ((64:Int)≤P)=true:=by simp;omega
   go_upto_region 5 with fail;have c1:=(cell_of hC 1).trans hc.a;have c2:=(cell_of hC 2).trans hc.b;have c3:=(cell_of hC 3).trans hc.c;have c4:=(cell_of hC 4).trans hc.d;have c5:=(cell_of hC 5).trans hc.e;have hmx:=λw' (f:Fr [] wr w')=>qwg h' ra' P rc' ps w' (HR.o0.own.rd.fr f) HR.o5.symm h64
   unfold H5.vals at hmx;have HM:=zhd hmx;clear hmx hC hc;refine qcj 12 [(false,0),(false,1),(false,2),(false,3),(false,4),(false,5),(false,6),(false,7),(false,8),(true,9),(false,10),(false,11)] [] (by kernel_rfl) (by kernel_rfl) (λ_ _ d _ _ h=>by cases d<;>exact h) ?_;simp only[qak,qap,qbh,qbi,qah,qaj,qce];refine qb9 9 rfl ?_;simp only[qai,qao,qah,qaj,qak,qap];repeat (go_big_quiet_step (fail))
   refine wpQuiet_nil ?_;refine qc5 rfl ?_;intro X hX;go_wp2_with (go_at_call 91;refine (HM.out _ (Fr.drew1 [] wr)).mono ?_;rintro e w5 ⟨rfl,f5⟩);refine hX.out _ _ f5 ?_;clear hX X c1 c2 c3 c4 c5 c6;refine qb9 2 rfl ?_;simp only[qai,qao,qah,qaj,qak,qap];repeat (go_big_quiet_step (fail))
   refine wpQuiet_nil ?_;refine qc4 ?_;have hb5:=f5.blk (show wr.drew.heap[g]?=_ from HR.o6) (by simp);have hcc:=HR.l7;have c1:=(cell_of hb5 1).trans hcc.a;have c2:=(cell_of hb5 2).trans hcc.b;have c3:=(cell_of hb5 3).trans hcc.c;have c4:=(cell_of hb5 4).trans hcc.d;have c5:=(cell_of hb5 5).trans hcc.e;have z1:=qay hb5 1;have z2:=qay hb5 2;have z3:=qay hb5 3;have z4:=qay hb5 4;have z5:=qay hb5 5;obtain⟨mh,hmh⟩:=zex (mixH h' ps);rw[<-hmh];obtain⟨ma,mb,mc,md,me⟩:=mh;simp only;have H5':=zhd4 hb5 hcc f5 hmh;clear hb5 hcc f5 hmh;go_upto_region 6 with fail;have f6:Fr [g] w5 (((((w5.setCell ⟨g,1,none⟩ (.int .u32 ma)).setCell ⟨g,2,none⟩ (.int .u32 mb)).setCell ⟨g,3,none⟩ (.int .u32 mc)).setCell ⟨g,4,none⟩ (.int .u32 md)).setCell ⟨g,5,none⟩ (.int .u32 me)):=(((((Fr.refl [g] w5).setCell (by simp) _).setCell (by simp) _).setCell (by simp) _).setCell (by simp) _).setCell (by simp) _;have hb6:=qa0 (o:=5) (qa0 (o:=4) (qa0 (o:=3) (qa0 (o:=2) (qa0 (o:=1) H5'.out.1 (.int .u32 ma)) (.int .u32 mb)) (.int .u32 mc)) (.int .u32 md)) (.int .u32 me);have hc6:=H5'.out.2.1.setH ma mb mc md me;clear c1 c2 c3 c4 c5 z1 z2 z3 z4 z5;generalize ((((w5.setCell ⟨g,1,none⟩ (.int .u32 ma)).setCell ⟨g,2,none⟩ (.int .u32 mb)).setCell ⟨g,3,none⟩ (.int .u32 mc)).setCell ⟨g,4,none⟩ (.int .u32 md)).setCell ⟨g,5,none⟩ (.int .u32 me)=w6 at *;have c6:=(cell_of hb6 6).trans hc6.r;have z6:=qay hb6 6;have H6:=zhd3 hb6 hc6 f6;clear hb6 hc6 f6;have hca:cutAtN ra' rc' 64 1=if rc'=64 then ra' else Option.map (λx=>x.add (64*1)) ra':=rfl
   have HCA:=zhd hca;clear hca;go_wp2_with (refine qfr sums.sliceU8 64 rfl _ _ rfl ra' P rc' _ rfl rfl rfl h64 o1' ?_);go_roundg k;case measure=>omega
   case rel=>
    have f7:Fr [g] w6 (w6.setCell ⟨g,6,none⟩ (.slice (cutAtN ra' rc' 64 1) (P-64) (rc'-64))):=(Fr.refl [g] w6).setCell (by simp) _;have hdl:(ps.drop 64).length=P-64:=by rw[qau,<-HR.o5]
    have fAll:Fr (g::lib.blk ra) w (w6.setCell ⟨g,6,none⟩ (.slice (cutAtN ra' rc' 64 1) (P-64) (rc'-64))):=(((HR.o1.trans ((Fr.drew1 [] wr).mono (by simp))).trans (H5'.out.2.2.1.mono (by simp))).step H6.l2 (λy hy=>.inl (by simp at hy;simp[hy]))).step f7 (λy hy=>.inl (by simp at hy;simp[hy]));have hne:g∉lib.blk (cutAtN ra' rc' 64 1):=by rw[qhc];exact HR.o0.ne
    have how:Own (w6.setCell ⟨g,6,none⟩ (.slice (cutAtN ra' rc' 64 1) (P-64) (rc'-64))) 5 (cutAtN ra' rc' 64 1) (rc'-64) ((ps.drop 64).map bv):=by have h1:=((HR.o0.own.fr (Fr.drew1 [] wr) (by simp)).fr H5'.out.2.2.1 (by simp)).drop 64 (by rw[qa8,<-HR.o5];exact h64);rw[<-List.map_drop]at h1;exact (h1.fr H6.l2 (λx hx hm=>by simp at hm;rw[hm]at hx;exact hne hx)).fr f7 (λx hx hm=>by simp at hm;rw[hm]at hx;exact hne hx)
    refine⟨⟨ma,mb,mc,md,me⟩,_,_,ps.drop 64,⟨⟨_,qa0 H6.o0 _,by rw[hdl];exact H6.o1.set6 _⟩,how,hne⟩,fAll,λx hx=>HR.o2 x (by rw[qhc]at hx;exact hx),by rw[hdl];omega,?_,?_⟩
    ·have:=HR.o3;rw[blocks,if_pos (by rw[<-HR.o5];exact h64),<-H5'.out.2.2.2]at this;exact this
    ·have:=HR.o4;rw[leftOf,if_pos (by rw[<-HR.o5];exact h64)]at this;exact this
  ·have d1:decide ((64:Int)≤P)=false:=by simp;omega
   have hb0:blocks gk h' ps=h':=by
    cases gk with
    | zero=>rfl
    | succ k=>rw[blocks,if_neg (by rw[<-HR.o5];exact h64)]
   have hd0:leftOf gk ps=ps:=by
    cases gk with
    | zero=>rfl
    | succ k=>rw[leftOf,if_neg (by rw[<-HR.o5];exact h64)]
   have HZ:=zhd2 hb0 hd0;clear hb0 hd0 hC hc;go_wp2;go_end0;refine⟨rfl,HR.o1,ra',rc',?_,HR.o2⟩;rw[<-HR.o3,<-HR.o4,HZ.o0,HZ.l1];exact HR.o0
def zer (n:Nat):Nat:=(56+64-n%64)%64
def padTo (rs:List UInt8):List UInt8:=rs++[128]++List.replicate (zer (rs.length+1)) 0
def padded (rs:List UInt8) (len:Nat):List UInt8:=padTo rs++sums.be4 (len/536870912)++sums.be4 (len*8%4294967296)
theorem qo1 (rs:List UInt8):(padTo rs).length%64=56:=by unfold padTo zer;simp only[qab,qc6,qb2];omega
theorem qnn (rs:List UInt8) (len:Nat):(padded rs len).length%64=0:=by have:=qo1 rs;unfold padded;rw[qab,qab,sums.qdg,sums.qdg];omega
def Rng (h:H5):Prop:=(0≤h.a∧h.a<4294967296)∧(0≤h.b∧h.b<4294967296)∧(0≤h.c∧h.c<4294967296)∧(0≤h.d∧h.d<4294967296)∧(0≤h.e∧h.e<4294967296)
theorem qgy (a b:Int):0≤add32 a b∧add32 a b<4294967296:=by unfold add32;omega
theorem qsd (h:H5) (p:List UInt8):Rng (mixH h p):=⟨qgy _ _,qgy _ _,qgy _ _,qgy _ _,qgy _ _⟩
theorem zdp:Rng h0:=by unfold Rng h0;decide
theorem qi9:∀(f:Nat) (h:H5) (p:List UInt8),Rng h→Rng (blocks f h p)
 | 0,_,_,h=>h
 | f+1,h,p,hr=>by
  rw[blocks];split
  ·exact qi9 f _ _ (qsd h p)
  ·exact hr
def dig5 (h:H5):List UInt8:=sums.be4 h.a.toNat++sums.be4 h.b.toNat++sums.be4 h.c.toNat++sums.be4 h.d.toNat++sums.be4 h.e.toNat
theorem zb4 (g:Nat) (h:H5) (ra:Option Addr) (rc:Nat) (rs:List UInt8) (len:Nat) (w:World) (hs:Sh w g h ra rc rs len) (hrl:rs.length<64) (hrng:Rng h) (hlen:len≤140737488355328) :
  Calls Tryz.prog 57 #[.pointer (some ⟨g,0,none⟩)] w λe w'=>(∃ao c,e = .returned (.slice ao 20 c)∧Rd w' ao c (dig5 (blocks (padded rs len).length h (padded rs len))))∧Fr [] w w':=by
 obtain⟨R,hR⟩:=zex rs.length;obtain⟨C,hC,hc⟩:=hs.blk;obtain⟨o1,o2,o3⟩:=hs.own.shape;rw[qa8,<-hR]at o1;rw[<-hR]at hc hrl;have c0:=(cell_of hC 0).trans hc.k;have c6:=(cell_of hC 6).trans hc.r;have hrd:=hs.own.rd;have H:=zhd5 hC hc hs hR hrd;clear hC hc hs hR hrd;go_enter Tryz.func57,Tryz.ntmps57;have tok1:True:=trivial;go_upto_block 1 with (first|(have _t:=tok1;refine qco sums.sliceU8 rfl _ _ rfl none 0 0 [] rfl (Own.nil _ _) rfl ra R rc (rs.map bv) rfl o1 o3 H.l4.cs (by rw[qa8];exact H.o3.symm) (sums.qev _) (by omega) (by unfold maxLen;omega) ?_;intro a1 q1 w1 A1;rw[qck]at A1;have H1:=zhd A1;clear A1;clear tok1 _t)|(refine qco sums.sliceU8 rfl _ _ rfl a1 R q1 (rs.map bv) rfl (H1.out.own.fr ((Fr.refl [] w1).alloc (.cells #[.int .u8 128] 5)) (by simp)) (by rw[qa8];exact H.o3.symm) (some ⟨w1.heap.size,0,none⟩) 1 1 [.int .u8 128] rfl (by omega) (by simp) (qgx w1 _ _ _) rfl (by simp[Value.oneCell']) (by omega) (by unfold maxLen;omega) ?_;intro a2 q2 w2 A2;have H2:=zhd A2;clear A2));have fw2:Fr [] w w2:=((H1.out.fr.mono (T:=[]) (by simp[lib.blk])).trans ((Fr.refl [] w1).alloc (.cells #[.int .u8 128] 5))).step H2.out.fr (λy hy=>by
  rcases H1.out.at_ y hy with k|k
  ·simp[lib.blk]at k
  ·exact .inr k)
 have hnew2:∀x∈lib.blk a2,w.heap.size≤x:=λx hx=>by
  have h1:=H1.out.fr.size;rcases H2.out.at_ x hx with k|k
  ·rcases H1.out.at_ x k with k2|k2
   ·simp[lib.blk]at k2
   ·exact k2
  ·rw[qav]at k;omega
 have hown2:Own w2 5 a2 q2 ((rs++[128]).map bv):=by rw[qbt];exact H2.out.own
 obtain⟨Z,hZ⟩:=zex (zer (R+1));have hZ2:Z<64∧(R+1+Z)%64=56:=by rw[hZ];unfold zer;omega
 have HW:=zhd4 fw2 hnew2 hown2 hZ;clear fw2 hnew2 hown2 hZ c6 H1 H2;go_wp2;go_loopg [3] Z (λk s3 wr=>∃(j N:Nat) (a:Option Addr) (q:Nat),s3 = .slice a N q∧N=R+1+j∧j+k=Z∧Own wr 5 a q ((rs++[128]++List.replicate j 0).map bv)∧Fr [] w wr∧∀x∈lib.blk a,w.heap.size≤x);case atStart=>exact⟨0,R+1,a2,q2,rfl,rfl,by omega,by simpa using HW.o2,HW.o0,HW.o1⟩
 case round=>
  obtain⟨j,N,a,q,rfl,hN,hjk,hown,hf,hnew⟩:=hrel;obtain⟨p1,p2,p3⟩:=hown.shape;have hll:(rs++[128]++List.replicate j (0:UInt8)).length=N:=by simp only[qab,qc6,qb2];rw[<-H.o3,hN]
  rw[qa8,hll]at p1;have HR:=zhd4 hown hf hnew hll;clear hown hf hnew hll;by_cases hj:j<Z
  ·obtain⟨k,rfl⟩:∃k,gk=k+1:=⟨gk-1,by omega⟩;have hne:¬(N%64=56):=by omega
   have d1:((N:Int)%64 !=56)=true:=by simp;omega
   have HN:=zhd2 hN hjk;have hNb:N≤200:=by omega
   clear hne hN hjk;go_wp2_with (refine qco sums.sliceU8 rfl _ _ rfl a N q ((rs++[128]++List.replicate j 0).map bv) rfl (HR.o0.fr ((Fr.refl [] wr).alloc (.cells #[.int .u8 0] 5)) (by simp)) (by rw[qa8];exact HR.l3) (some ⟨wr.heap.size,0,none⟩) 1 1 [.int .u8 0] rfl (by omega) (by simp) (qgx wr _ _ _) rfl (by simp[Value.oneCell']) (by omega) (by unfold maxLen;omega) ?_;intro a4 q4 w4 A4;have H4:=zhd A4;clear A4);go_roundg k;case measure=>omega
   case rel=>
    obtain⟨hN,hjk⟩:=HN.out;refine⟨j+1,N+1,a4,q4,rfl,by omega,by omega,?_,(HR.o1.trans ((Fr.refl [] wr).alloc (.cells #[.int .u8 0] 5))).step H4.out.fr (λy hy=>.inr (HR.o2 y hy)),λx hx=>?_⟩
    ·rw[qdw,<-qat,qbt];exact H4.out.own
    ·have h1:=HR.o1.size;rcases H4.out.at_ x hx with k|k
     ·exact HR.o2 x k
     ·rw[qav]at k;omega
  ·obtain rfl:j=Z:=by omega
   obtain rfl:gk=0:=by omega
   have d1:((N:Int)%64 !=56)=false:=by simp;omega
   have hNb:N≤200:=by omega
   have HN:=zhd hN;clear hN hjk;go_upto_region 9 with fail;clear d1;obtain⟨x1,hx1⟩:∃x,x=len/536870912:=⟨_,rfl⟩;obtain⟨x2,hx2⟩:∃x,x=len*8%4294967296:=⟨_,rfl⟩;have e1:(len:Int)/536870912=(x1:Int):=by omega
   have e2:((len:Int)*8)%4294967296=(x2:Int):=by omega
   obtain⟨bs,hbs⟩:∃bs,bs=rs++[128]++List.replicate j (0:UInt8):=⟨_,rfl⟩;have hpt:bs=padTo rs:=by rw[hbs,padTo,<-H.o3,<-HW.l3]
   have hbl:bs.length=N:=by rw[hbs];exact HR.l3
   have hob:=HR.o0;rw[<-hbs]at hob;have hbg:=HR.o1.blk H.o0 (by simp);have hgs:g<w.heap.size:=lt_of_block H.o0;have hga:g∉lib.blk a:=λhm=>by have:=HR.o2 g hm;omega
   obtain⟨S,hS⟩:=zex (lib.blk a);have s7:∀x,(sup S wr.drew x).cell? ⟨g,7,none⟩=some (.int .u64 len):=λx=>(qes S wr.drew x).cell (show wr.drew.cell? _=_ from (cell_of hbg 7).trans H.o1.n) (by rw[hS];exact hga)
   have hf1:Calls Tryz.prog 92 #[.slice a N q,.int .u32 x1] wr.drew (sums.Foured wr.drew a bs x1):=by have:=sums.qj0 a q bs x1 wr.drew (by omega) hob (by omega);rw[hbl]at this;exact this
   have hf2:=λw' a' q' (ho:Own w' 5 a' q' ((bs++sums.be4 x1).map bv))=>sums.qj0 a' q' (bs++sums.be4 x1) x2 w' (by omega) ho (by rw[qab,sums.qdg];omega)
   rw[show (bs++sums.be4 x1).length=N+4 from by rw[qab,sums.qdg,hbl]]at hf2;unfold sums.Foured at hf1 hf2;rw[hbl]at hf1;have hx2l:x2<4294967296:=by omega
   have HF:=zhd9 hf1 hf2 hbg hga hS hpt hbl hx1 hx2;clear hf1 hf2 hbg hga hS hpt hbl hbs hob hx1 hx2;refine qkt 16 [(false,0),(false,1),(false,2),(false,3),(false,4),(false,5),(false,6),(false,8),(false,9),(false,10),(false,11),(false,12),(false,13),(true,7),(true,14),(false,15)] S (by kernel_rfl) (by kernel_rfl) (λ_ _ d _ _ h=>by cases d<;>exact h) ?_;simp only[qak,qap,qbh,qbi,qah,qaj,qce];refine qju 13 rfl ?_;simp only[qai,qao,qah,qaj,qak,qap];repeat (go_big_quiet_step (fail))
   refine wpQuiet_nil ?_;have HE2:=zhd e2;clear s7 e1 e2;refine qjv rfl ?_;intro X hX;go_wp2_with (go_at_call 92;refine HF.o0.mono ?_;rintro e w5 ⟨a5,q5,rfl,A5⟩);have fb1:Fr S wr.drew w5:=by rw[HF.o4];exact A5.fr
   refine hX.out _ _ wr.drew (Fr.refl _ _) fb1 ?_;clear hX X;have HA5:=zhd A5;clear A5;refine qjv rfl ?_;intro X hX;have hf2:=HF.o1 _ a5 q5 HA5.out.own;rw[<-HE2.out,show (bs++sums.be4 x1).length=N+4 from by rw[qab,sums.qdg,HF.o6]]at hf2;have HF2:=zhd hf2;clear hf2;go_wp2_with (go_at_call 92;go_loud (with_reducible refine HF2.out.mono ?_);rintro e w6 ⟨a6,q6,rfl,A6⟩);have fb2:Fr S wr.drew w6:=fb1.step A6.fr λy hy=>by
    rcases HA5.out.at_ y hy with k|k
    ·exact .inl (by rw[HF.o4];exact k)
    ·exact .inr k
   refine hX.out _ _ wr.drew (Fr.refl _ _) fb2 ?_;clear hX X;have HA6:=zhd A6;clear A6;refine qju 1 rfl ?_;simp only[qai,qao,qah,qaj,qak,qap];repeat (go_big_quiet_step (fail))
   refine wpQuiet_nil ?_;refine qsc ?_;have fw6:Fr [] w w6:=(HR.o1.trans (Fr.drew1 [] wr)).step fb2 (λy hy=>.inr (by rw[HF.o4]at hy;exact HR.o2 y hy));have hbg:=fw6.blk H.o0 (by simp);have c1:=(cell_of hbg 1).trans H.o1.a;have c2:=(cell_of hbg 2).trans H.o1.b;have c3:=(cell_of hbg 3).trans H.o1.c;have c4:=(cell_of hbg 4).trans H.o1.d;have c5:=(cell_of hbg 5).trans H.o1.e;obtain⟨pd,hpd⟩:=zex (padded rs len);have hpd2:bs++sums.be4 x1++sums.be4 x2=pd:=by rw[hpd,padded,HF.o5,HF.o7,HF.l8]
   have hpl:pd.length=N+4+4:=by rw[<-hpd2,qab,qab,sums.qdg,sums.qdg,HF.o6]
   have hpm:pd.length%64=0:=by rw[hpd];exact qnn rs len
   have hop:Own w6 5 a6 q6 (pd.map bv):=by rw[<-hpd2];exact HA6.out.own
   have hnp:∀x∈lib.blk a6,w.heap.size≤x:=λx hx=>by
    have k0:=HR.o1.size;rcases HA6.out.at_ x hx with k|k
    ·rcases HA5.out.at_ x k with k2|k2
     ·exact HR.o2 x k2
     ·exact qan k0 k2
    ·exact qan (qan k0 fb1.size) k
   rw[<-hpl];have HP:=zhd6 fw6 hop hnp hpd hpl hpm;clear fw6 hop hnp hpd hpl hpm hpd2 hbg fb1 fb2 HA5 HA6;go_upto_block 3 with fail;clear c1 c2 c3 c4 c5;obtain⟨Q,w7,hQ,hw7,f7,b7⟩:∃Q w7,Q=w6.heap.size∧w7=w6.alloc (.cells #[.int .u32 h.a,.int .u32 h.b,.int .u32 h.c,.int .u32 h.d,.int .u32 h.e] 140)∧Fr [] w6 w7∧w7.heap[Q]?=some (.cells h.vals 140 (0,0)):=⟨_,_,rfl,rfl,(Fr.refl [] w6).alloc _,qa4 w6 _⟩;rw[<-hw7,<-hQ];have H7:=zhd3 f7 b7 hQ;clear hw7 hQ f7 b7;go_wp2;go_loopg [3] pd.length (λk s3 wr=>∃(h':H5) (ps:List UInt8) (P:Nat) (a:Option Addr) (q:Nat),s3 = .slice a P q∧P=ps.length∧P%64=0∧P≤k∧Own w7 5 a q (ps.map bv)∧Q∉lib.blk a∧wr.heap[Q]?=some (.cells h'.vals 140 (0,0))∧Fr [Q] w7 wr∧Rng h'∧blocks k h' ps=blocks pd.length h pd);case atStart=>exact⟨h,pd,pd.length,a6,q6,rfl,rfl,HP.l5,qag _,HP.o1.fr H7.o0 (by simp),λhm=>by have:=HP.o1.lt _ hm;rw[H7.l2]at this;omega,H7.o1,Fr.refl _ _,hrng,rfl⟩
   case round=>
    obtain⟨h',ps,P,a,q,rfl,hP,hP64,hPk,hown,hQa,hbQ,hf,hrg,hbl⟩:=hrel;obtain⟨p1,p2,p3⟩:=hown.shape;rw[qa8,<-hP]at p1;have HL:=zhd8 hown hQa hbQ hf hrg hbl hP hP64;have c0:=cell_of hbQ 0;have c1:=cell_of hbQ 1;have c2:=cell_of hbQ 2;have c3:=cell_of hbQ 3;have c4:=cell_of hbQ 4;unfold H5.vals at c0 c1 c2 c3 c4;simp only[qae,qaa,qad]at c0 c1 c2 c3 c4;by_cases h0:0<P
    ·have h64:64≤P:=by omega
     obtain⟨k,rfl⟩:∃k,gk=k+1:=⟨gk-1,by omega⟩;clear hown hQa hbQ hf hrg hbl hP hP64;have hmx:=qwg h' a P q ps wr (HL.o0.fr HL.o3 (λx hx hm=>by simp at hm;rw[hm]at hx;exact HL.o1 hx)).rd HL.o6.symm h64;unfold H5.vals at hmx;have HM:=zhd hmx;clear hmx;go_wp2_with (first|(go_at_call 91;refine HM.out.mono ?_;rintro e w8 ⟨rfl,f8⟩;have hb8:=f8.blk HL.o2 (by simp);have d0:=cell_of hb8 0;have d1:=cell_of hb8 1;have d2:=cell_of hb8 2;have d3:=cell_of hb8 3;have d4:=cell_of hb8 4;have y0:=qay hb8 0;have y1:=qay hb8 1;have y2:=qay hb8 2;have y3:=qay hb8 3;have y4:=qay hb8 4;unfold H5.vals at d0 d1 d2 d3 d4;simp only[qae,qaa,qad]at d0 d1 d2 d3 d4;have H8:=zhd2 f8 hb8;clear f8 hb8 c0 c1 c2 c3 c4)|(refine qfr sums.sliceU8 64 rfl _ _ rfl a P q _ rfl rfl rfl h64 p1 ?_));obtain⟨k1,k2⟩:=put5 H8.out.2 (.int .u32 (mixH h' ps).a) (.int .u32 (mixH h' ps).b) (.int .u32 (mixH h' ps).c) (.int .u32 (mixH h' ps).d) (.int .u32 (mixH h' ps).e);have HK:=zhd2 k1 k2;clear k1 k2;go_roundg k;case measure=>omega
     case rel=>have hd:=HL.o0.drop 64 (by rw[qa8,<-HL.o6];exact h64);rw[<-List.map_drop]at hd;refine⟨mixH h' ps,ps.drop 64,P-64,_,_,rfl,by rw[qau,<-HL.o6],by have:=HL.l7;omega,by omega,hd,by rw[qhc];exact HL.o1,HK.out.1,(HL.o3.trans (H8.out.1.mono (by simp))).trans HK.out.2,qsd _ _,?_⟩;have:=HL.o5;rw[blocks,if_pos (by rw[<-HL.o6];exact h64)]at this;exact this
    ·have hbz:blocks gk h' ps=h':=by
      cases gk with
      | zero=>rfl
      | succ k=>rw[blocks,if_neg (by rw[<-hP];omega)]
     rw[hbz]at hbl;obtain⟨ha,hb,hc,hd,he⟩:=h';obtain⟨⟨r1,l1⟩,⟨r2,l2⟩,⟨r3,l3⟩,⟨r4,l4⟩,⟨r5,l5⟩⟩:=hrg;simp only at r1 r2 r3 r4 r5 l1 l2 l3 l4 l5 c0 c1 c2 c3 c4;obtain⟨na,rfl⟩:=qcv r1;obtain⟨nb,rfl⟩:=qcv r2;obtain⟨nc,rfl⟩:=qcv r3;obtain⟨nd,rfl⟩:=qcv r4;obtain⟨ne,rfl⟩:=qcv r5;have fwr:Fr [] w wr:=(HP.o0.trans H7.o0).step hf (λy hy=>.inr (by simp at hy;rw[hy,H7.l2];exact HP.o0.size));have hdg:dig5 (blocks pd.length h pd)=sums.be4 na++sums.be4 nb++sums.be4 nc++sums.be4 nd++sums.be4 ne:=by rw[<-hbl];rfl
     have HD:=zhd2 fwr hdg;have HL5:Hid ((na<4294967296∧nb<4294967296)∧(nc<4294967296∧nd<4294967296∧ne<4294967296)):=zhd (by omega);clear hown hQa hbQ hf hbl hP hP64 hbz fwr hdg HL r1 r2 r3 r4 r5 l1 l2 l3 l4 l5;have hmk:∀w:World,(Instr.makeSlice 22 (.int .i64 0) (.int .i64 20)).run Tryz.prog w = .ok (.slice (some ⟨w.heap.size,0,none⟩) 0 20) (w.alloc (.cells #[.int .u8 0,.int .u8 0,.int .u8 0,.int .u8 0,.int .u8 0,.int .u8 0,.int .u8 0,.int .u8 0,.int .u8 0,.int .u8 0,.int .u8 0,.int .u8 0,.int .u8 0,.int .u8 0,.int .u8 0,.int .u8 0,.int .u8 0,.int .u8 0,.int .u8 0,.int .u8 0] 5)):=λ_=>by kernel_rfl
     go_upto_region 15 with fail;obtain⟨Bo,w9,hBo,hw9,f9,b9⟩:∃Bo w9,Bo=wr.heap.size∧w9=wr.alloc (.cells #[.int .u8 0,.int .u8 0,.int .u8 0,.int .u8 0,.int .u8 0,.int .u8 0,.int .u8 0,.int .u8 0,.int .u8 0,.int .u8 0,.int .u8 0,.int .u8 0,.int .u8 0,.int .u8 0,.int .u8 0,.int .u8 0,.int .u8 0,.int .u8 0,.int .u8 0,.int .u8 0] 5)∧Fr [] wr w9∧w9.heap[Bo]?=some (.cells #[.int .u8 0,.int .u8 0,.int .u8 0,.int .u8 0,.int .u8 0,.int .u8 0,.int .u8 0,.int .u8 0,.int .u8 0,.int .u8 0,.int .u8 0,.int .u8 0,.int .u8 0,.int .u8 0,.int .u8 0,.int .u8 0,.int .u8 0,.int .u8 0,.int .u8 0,.int .u8 0] 5 (0,0)):=⟨_,_,rfl,rfl,(Fr.refl [] wr).alloc _,qa4 wr _⟩;rw[<-hw9,<-hBo];have e0:=f9.cell c0 (by simp);have e1:=f9.cell c1 (by simp);have e2:=f9.cell c2 (by simp);have e3:=f9.cell c3 (by simp);have e4:=f9.cell c4 (by simp);have o9:Own w9 5 (some ⟨Bo,0,none⟩) 20 (([]:List UInt8).map bv):=.inr ⟨Bo,0,_,rfl,b9,qba _,by decide,qag _,rfl⟩;have n9:w.heap.size≤Bo:=by rw[hBo];exact HD.o0.size
     have H9:=zhd3 (HD.o0.trans f9) o9 n9;clear hw9 hBo f9 b9 o9 n9 c0 c1 c2 c3 c4 hmk;go_upto_block 5 with fail;clear e0 e1 e2 e3 e4;go_wp2;go_loopg [5,7,78] 5 (λk s5 s7 s78 wr=>∃(j n:Nat) (a:Option Addr) (q:Nat) (out:List UInt8),s78 = .int .i64 (j:Nat)∧s5 = .slice a n q∧n=out.length∧j+k=5∧n=4*j∧Own wr 5 a q (out.map bv)∧Fr [] w wr∧(∀x∈lib.blk a,w.heap.size≤x)∧out=([na,nb,nc,nd,ne].take j).flatMap sums.be4);case atStart=>exact⟨0,0,_,20,[],rfl,rfl,rfl,rfl,rfl,H9.o1,H9.o0,λx hx=>by simp[lib.blk]at hx;rw[hx];exact H9.l2,rfl⟩
     case round=>
      obtain⟨j,n,a,q,out,rfl,rfl,hn,hjk,hn4,hown,hf,hnew,hout⟩:=hrel;by_cases hj:j<5
      ·obtain⟨k,rfl⟩:∃k,gk=k+1:=⟨gk-1,by omega⟩;obtain⟨⟨m1,m2⟩,m3,m4,m5⟩:=HL5.out;have hfour:=λx (hx:x<4294967296)=>sums.qj0 a q out x wr hx hown (by omega)
       rw[<-hn]at hfour;unfold sums.Foured at hfour;rw[<-hn]at hfour;have HFO:=zhd5 hfour hf hnew hout hn;clear hfour hf hnew hout hown hn;have key:∀(x:Nat) (w':World) (a':Option Addr) (q':Nat),([na,nb,nc,nd,ne].take (j+1)).flatMap sums.be4=out++sums.be4 x→OwnMore wr w' 5 a a' q' ((out++sums.be4 x).map bv)→
         ∃out',n+4=out'.length∧n+4=4*(j+1)∧Own w' 5 a' q' (out'.map bv)∧Fr [] w w'∧(∀x∈lib.blk a',w.heap.size≤x)∧out'=([na,nb,nc,nd,ne].take (j+1)).flatMap sums.be4:=λx w' a' q' hx A=>
        ⟨out++sums.be4 x,by rw[qab,sums.qdg,HFO.out.2.2.2.2],by omega,A.own,HFO.out.2.1.step A.fr (λy hy=>.inr (HFO.out.2.2.1 y hy)),λy hy=>by
         rcases A.at_ y hy with k|k
         ·exact HFO.out.2.2.1 y k
         ·exact qan HFO.out.2.1.size k,hx.symm⟩
       have HK:=zhd key;have HJ:=zhd2 hn4 hjk;clear key hn4 hjk;rcases (show j=0∨j=1∨j=2∨j=3∨j=4 by omega) with rfl|rfl|rfl|rfl|rfl
       ·have ix:∀w:World,(Instr.index 140 (.agg #[.int .u32 na,.int .u32 nb,.int .u32 nc,.int .u32 nd,.int .u32 ne]) (.int .i64 0)).run Tryz.prog w = .ok (.int .u32 na) w:=λ_=>by kernel_rfl
        go_wp2_with (go_at_call 92;(with_reducible refine (HFO.out.1 na m1).mono ?_);rintro e w10 ⟨a10,q10,rfl,A10⟩;have HA10:=zhd A10;clear A10);go_roundg k;case measure=>have:=HJ.l1;omega
        case rel=>have hjk:=HJ.l1;obtain⟨out',t1,t2,t3,t4,t5,t6⟩:=HK.out na _ _ _ (by rw[HFO.out.2.2.2.1];simp) HA10.out;exact⟨1,n+4,a10,q10,out',rfl,rfl,t1,by omega,t2,t3,t4,t5,t6⟩
       ·have ix:∀w:World,(Instr.index 140 (.agg #[.int .u32 na,.int .u32 nb,.int .u32 nc,.int .u32 nd,.int .u32 ne]) (.int .i64 1)).run Tryz.prog w = .ok (.int .u32 nb) w:=λ_=>by kernel_rfl
        go_wp2_with (go_at_call 92;(with_reducible refine (HFO.out.1 nb m2).mono ?_);rintro e w10 ⟨a10,q10,rfl,A10⟩;have HA10:=zhd A10;clear A10);go_roundg k;case measure=>have:=HJ.l1;omega
        case rel=>have hjk:=HJ.l1;obtain⟨out',t1,t2,t3,t4,t5,t6⟩:=HK.out nb _ _ _ (by rw[HFO.out.2.2.2.1];simp) HA10.out;exact⟨2,n+4,a10,q10,out',rfl,rfl,t1,by omega,t2,t3,t4,t5,t6⟩
       ·have ix:∀w:World,(Instr.index 140 (.agg #[.int .u32 na,.int .u32 nb,.int .u32 nc,.int .u32 nd,.int .u32 ne]) (.int .i64 2)).run Tryz.prog w = .ok (.int .u32 nc) w:=λ_=>by kernel_rfl
        go_wp2_with (go_at_call 92;(with_reducible refine (HFO.out.1 nc m3).mono ?_);rintro e w10 ⟨a10,q10,rfl,A10⟩;have HA10:=zhd A10;clear A10);go_roundg k;case measure=>have:=HJ.l1;omega
        case rel=>have hjk:=HJ.l1;obtain⟨out',t1,t2,t3,t4,t5,t6⟩:=HK.out nc _ _ _ (by rw[HFO.out.2.2.2.1];simp) HA10.out;exact⟨3,n+4,a10,q10,out',rfl,rfl,t1,by omega,t2,t3,t4,t5,t6⟩
       ·have ix:∀w:World,(Instr.index 140 (.agg #[.int .u32 na,.int .u32 nb,.int .u32 nc,.int .u32 nd,.int .u32 ne]) (.int .i64 3)).run Tryz.prog w = .ok (.int .u32 nd) w:=λ_=>by kernel_rfl
        go_wp2_with (go_at_call 92;(with_reducible refine (HFO.out.1 nd m4).mono ?_);rintro e w10 ⟨a10,q10,rfl,A10⟩;have HA10:=zhd A10;clear A10);go_roundg k;case measure=>have:=HJ.l1;omega
        case rel=>have hjk:=HJ.l1;obtain⟨out',t1,t2,t3,t4,t5,t6⟩:=HK.out nd _ _ _ (by rw[HFO.out.2.2.2.1];simp) HA10.out;exact⟨4,n+4,a10,q10,out',rfl,rfl,t1,by omega,t2,t3,t4,t5,t6⟩
       ·have ix:∀w:World,(Instr.index 140 (.agg #[.int .u32 na,.int .u32 nb,.int .u32 nc,.int .u32 nd,.int .u32 ne]) (.int .i64 4)).run Tryz.prog w = .ok (.int .u32 ne) w:=λ_=>by kernel_rfl
        go_wp2_with (go_at_call 92;(with_reducible refine (HFO.out.1 ne m5).mono ?_);rintro e w10 ⟨a10,q10,rfl,A10⟩;have HA10:=zhd A10;clear A10);go_roundg k;case measure=>have:=HJ.l1;omega
        case rel=>have hjk:=HJ.l1;obtain⟨out',t1,t2,t3,t4,t5,t6⟩:=HK.out ne _ _ _ (by rw[HFO.out.2.2.2.1];simp) HA10.out;exact⟨5,n+4,a10,q10,out',rfl,rfl,t1,by omega,t2,t3,t4,t5,t6⟩
      ·obtain rfl:j=5:=by omega
       have HZ:=zhd4 hown hf hout hn;have hn20:n=20:=by omega
       subst hn20;clear hown hf hout hn hnew hn4 hjk;go_wp2;go_ret;refine⟨⟨a,q,rfl,?_⟩,HZ.o1⟩;have e:out=dig5 (blocks (padded rs len).length h (padded rs len)):=by rw[<-HP.o3,HD.l1,HZ.o2];simp
       rw[<-e];exact HZ.o0.rd
theorem qlb:∀(f:Nat) (p:List UInt8),p.length≤f→(leftOf f p).length<64
 | 0,p,h=>by rw[leftOf];omega
 | f+1,p,h=>by
  rw[leftOf];split
  ·exact qlb f _ (by rw[qau];omega)
  ·omega
def sha1 (b:List UInt8):List UInt8:=
 dig5 (blocks (padded (leftOf b.length b) b.length).length (blocks b.length h0 b) (padded (leftOf b.length b) b.length))
theorem qko (b:List UInt8):(sha1 b).length=20:=rfl
end Go.Proofs.YtbabjlohkniciaaGreatDoor.sha
