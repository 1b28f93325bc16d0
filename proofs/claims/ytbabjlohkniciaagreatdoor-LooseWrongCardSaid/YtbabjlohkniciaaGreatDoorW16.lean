/-
  Texts of this proof, one behind the other: LoHash, AppStr, LoPath, ObjName, Digits, RHeader, LooseLaw, LooseLaw2.
-/
import Derived.Test.YtbabjlohkniciaaGreatDoorW15
import Derived.Lib.AppendStr
import Derived.Laws.ResultCell
import Derived.Lib.ItoaNum
set_option maxHeartbeats 16000000
set_option maxRecDepth 100000
set_option linter.unusedVariables false
set_option linter.unusedSimpArgs false
namespace Go.Proofs.YtbabjlohkniciaaGreatDoor.lo
open Go Go.RowKit lib bm crc pk
set_option maxRecDepth 100000
def HD:List UInt8:=[48,49,50,51,52,53,54,55,56,57,97,98,99,100,101,102]
theorem zb6 (i:Nat) (hi:i<16):dgv (HD[i]'hi)=some i:=by
 have h:∀k:_root_.Fin 16,dgv (HD[k.1]'k.2)=some k.1:=by decide
 exact h ⟨i,hi⟩
theorem zb0 {c:UInt8} {x:Nat} (h:dgv c=some x):∃hx:x<16,HD[x]'hx=c:=by
 have hx:=qv3 h;refine⟨hx,?_⟩;have h2:∀k:_root_.Fin 256,∀y:_root_.Fin 16,dgv (UInt8.ofNat k.1)=some y.1→HD[y.1]'y.2=UInt8.ofNat k.1:=by decide +kernel
 have h3:=h2 ⟨c.toNat,c.toNat_lt⟩ ⟨x,hx⟩;simp only[UInt8.ofNat_toNat]at h3;exact h3 h
theorem za7 (c:UInt8) (w:World):Calls Tryz.prog 63 #[.int .u8 ((c.toNat:Nat):Int)] w λe w'=>e = .returned (.int .i64 (match dgv c with|some x=>(x:Int)|none=>-1))∧w'=w:=by
 have hidx:∀i (hi:i<16) (w:World),(Instr.index 9 (.string ⟨#[48,49,50,51,52,53,54,55,56,57,97,98,99,100,101,102]⟩) (.int .i64 (i:Nat))).run Tryz.prog w = .ok (.int .u8 (((HD[i]'hi).toNat:Nat):Int)) w:=λi hi w=>qoq HD hi w
 obtain⟨R,hR⟩:∃R:Int,R=(match dgv c with|some x=>(x:Int)|none=>-1):=⟨_,rfl⟩;rw[<-hR];obtain⟨n,hn⟩:=zex c.toNat;rw[<-hn];have H:=zhd3 hidx hR hn;clear hidx hR hn;go_enter Tryz.func63,Tryz.ntmps63;go_wp2;go_loopg [3] 16 (λk s3 wr=>∃i:Nat,s3 = .int .i64 (i:Nat)∧i+k=16∧wr=w∧∀j (hj:j<16),j<i→HD[j]'hj≠c);case atStart=>exact⟨0,rfl,rfl,rfl,λj hj h=>absurd h (Nat.not_lt_zero j)⟩
 case round=>
  obtain⟨i,rfl,hik,hwr,hno⟩:=hrel;have hwr:=hwr.symm;subst hwr;have HN:=zhd hno;clear hno;by_cases hi:i<16
  ·obtain⟨k,rfl⟩:∃k,gk=k+1:=⟨gk-1,by omega⟩;have hx:=H.o0 i hi;have hd:=zb6 i hi;obtain⟨d,hd'⟩:∃d,d=HD[i]'hi:=⟨_,rfl⟩;rw[<-hd']at hx hd;obtain⟨m,hm⟩:=zex d.toNat;rw[<-hm]at hx;have HD':=zhd3 hd' hd hm;clear hd' hd hm;by_cases he:m=n
   ·have g1:((m:Int)==(n:Int))=true:=by rw[he];simp
    clear he;go_wp2;go_ret;refine⟨?_,rfl⟩;have e1:d=c:=UInt8.toNat_inj.1 (by rw[<-HD'.out.2.2,<-H.l2];have:=beq_iff_eq.1 g1;omega);have e2:=HD'.out.2.1;rw[e1]at e2;rw[H.o1,e2];rfl
   ·have g1:((m:Int)==(n:Int))=false:=by simp only[beq_eq_false_iff_ne];omega
    have HE:=zhd he;clear he;go_wp2;go_roundg k;case measure=>omega
    case rel=>
     refine⟨i+1,by go_num,by omega,rfl,λj hj h=>?_⟩;by_cases hji:j=i
     ·subst hji;rw[<-HD'.out.1];rintro rfl;exact HE.out (by rw[HD'.out.2.2,H.l2])
     ·exact HN.out j hj (by omega)
  ·obtain rfl:i=16:=by omega
   go_wp2;go_ret;refine⟨?_,rfl⟩;have e:dgv c=none:=by
    cases hd:dgv c with
    | none=>rfl
    | some x=>obtain⟨hx,h1⟩:=zb0 hd;exact absurd h1 (HN.out x hx hx)
   rw[H.o1,e];rfl
theorem qru (s:List UInt8) (w:World) (hlen:s.length≤140737488355328):Calls Tryz.prog 25 #[.string (str s)] w λe w'=>e = .returned (.bool (hashB s))∧Fr [] w w':=by
 have hu:=unhexA s w hlen;unfold hashB;cases hs:unhexL s with
 | none=>
  have hu:=hu.mono λe w' (h:UnhexP w s e w')=>by unfold UnhexP at h;rw[hs]at h;exact h
  dsimp only at hu ⊢;have H:=zhd hu;clear hu hs;go_enter Tryz.func25,Tryz.ntmps25;go_wp2_with (go_at_call 53;refine H.out.mono ?_;rintro e w1 ⟨rfl,f1⟩;have H1:=zhd f1;clear f1);go_ret;exact⟨rfl,H1.out⟩
 | some bs=>
  have hu:=hu.mono λe w' (h:UnhexP w s e w')=>by unfold UnhexP at h;rw[hs]at h;exact h
  dsimp only at hu ⊢;obtain⟨n,hn⟩:=zex bs.length;unfold GotHex at hu;rw[<-hn]at hu ⊢;have H:=zhd hu;clear hu hs hn;by_cases h20:n=20
  ·subst h20;go_enter Tryz.func25,Tryz.ntmps25;go_wp2_with (go_at_call 53;refine H.out.mono ?_;rintro e w1 ⟨a,c,rfl,W1⟩;have H1:=zhd W1;clear W1);go_ret;exact⟨rfl,H1.out.fr⟩
  ·have g1:((n:Int)==20)=false:=by simp only[beq_eq_false_iff_ne];omega
   have g2:(n==20)=false:=by simpa using h20
   rw[g2];clear h20 g2;go_enter Tryz.func25,Tryz.ntmps25;go_wp2_with (go_at_call 53;refine H.out.mono ?_;rintro e w1 ⟨a,c,rfl,W1⟩;have H1:=zhd W1;clear W1);go_ret;exact⟨rfl,H1.out.fr⟩
end Go.Proofs.YtbabjlohkniciaaGreatDoor.lo
namespace Go.Proofs.YtbabjlohkniciaaGreatDoor.lib
open Go Go.RowKit
theorem str_size (bs:List UInt8):(str bs).size=bs.length:=by simp[str,ByteArray.size]
section
variable {P : Program} {w : World} {t u e : TypeId}
end
section
variable {P : Program} {w : World} {ops : Array Oper} {rest : List Oper} {o : Oper} {a : Act} {Q : Exit → Act → World → Prop} {t : TypeId}
theorem qkd (bs:List UInt8) (l h:Nat):(str bs).extract l h=str ((bs.take h).drop l):=by apply ByteArray.ext;simp only[ByteArray.data_extract,str];apply Array.ext';simp[List.extract_eq_take_drop,List.drop_take]
theorem qct (a b:List UInt8):str a++str b=str (a++b):=by apply ByteArray.ext;simp[str,ByteArray.data_append]
end
end Go.Proofs.YtbabjlohkniciaaGreatDoor.lib
namespace Go.Proofs.YtbabjlohkniciaaGreatDoor.lo
open Go Go.RowKit lib bm crc pk
set_option maxRecDepth 100000
theorem zca (bs:List UInt8) (j:Nat) (h2:j≤bs.length) (w:World):(Instr.slice 9 (.string (str bs)) none (some (.int .i64 j)) none).run Tryz.prog w = .ok (.string (str (bs.take j))) w:=by rw[run_slice_string_h w 9 (str bs) Tryz.underlying9 .i64 j (by omega) (by rw[str_size];omega)];have:=qkd bs 0 j;simp only[qai]at this;simp[this]
theorem qy0 (bs:List UInt8) (i:Nat) (h2:i≤bs.length) (w:World):(Instr.slice 9 (.string (str bs)) (some (.int .i64 i)) none none).run Tryz.prog w = .ok (.string (str (bs.drop i))) w:=by rw[run_slice_string_l w 9 (str bs) Tryz.underlying9 .i64 i (by omega) (by rw[str_size];omega)];have:=qkd bs i bs.length;rw[qbd (qae _)]at this;simp[str_size,this]
def objs:List UInt8:=[111,98,106,101,99,116,115,47]
def pathL (s:List UInt8):List UInt8:=if hashB s=true then objs++s.take 2++[47]++s.drop 2 else []
theorem qxz (s:List UInt8):((⟨#[111,98,106,101,99,116,115,47]⟩:ByteArray)++str (s.take 2)++(⟨#[47]⟩:ByteArray)++str (s.drop 2))=str (objs++s.take 2++[47]++s.drop 2):=by rw[<-qct,<-qct,<-qct];rfl
theorem qgv (s:List UInt8) (w:World) (hlen:s.length≤140737488355328):Calls Tryz.prog 10 #[.string (str s)] w λe w'=>e = .returned (.string (str (pathL s)))∧Fr [] w w':=by
 have hh:=qru s w hlen;unfold pathL;obtain⟨b,hb⟩:=zex (hashB s);rw[<-hb]at hh ⊢;cases b with
 | false=>
  have H:=zhd hh;obtain⟨z,hz⟩:=zex (str s);rw[<-hz]at H ⊢;clear hh hb hz;go_enter Tryz.func10,Tryz.ntmps10;go_wp2_with (go_at_call 25;refine H.out.mono ?_;rintro e w1 ⟨rfl,f1⟩;have H1:=zhd f1;clear f1);go_ret;exact⟨rfl,H1.out⟩
 | true=>
  have h40:=qdm hb.symm;have k1:∀w:World,(Instr.slice 9 (.string (str s)) none (some (.int .i64 2)) none).run Tryz.prog w = .ok (.string (str (s.take 2))) w:=zca s 2 (by omega);have k2:∀w:World,(Instr.slice 9 (.string (str s)) (some (.int .i64 2)) none none).run Tryz.prog w = .ok (.string (str (s.drop 2))) w:=qy0 s 2 (by omega);rw[if_pos rfl];have hp:=qxz s;obtain⟨pz,hpz⟩:=zex (str (objs++s.take 2++[47]++s.drop 2));rw[<-hpz]at hp ⊢;obtain⟨z,hz⟩:=zex (str s);obtain⟨x,hx⟩:=zex (str (s.take 2));obtain⟨y,hy⟩:=zex (str (s.drop 2));rw[<-hz]at hh k1 k2 ⊢;rw[<-hx]at k1 hp;rw[<-hy]at k2 hp;have hxs:x.size=2:=by rw[hx,str_size,qas];omega
  have hys:y.size=38:=by rw[hy,str_size,qav];omega
  have H:=zhd2 hh hp;clear hh hb h40 hz hx hy hp hpz;go_enter Tryz.func10,Tryz.ntmps10;go_upto_region 3 with (go_at_call 25;refine H.out.1.mono ?_;rintro e w1 ⟨rfl,f1⟩;have H1:=zhd f1;clear f1);have k1:=λn=>k1 (w1.drewN n)
  have k2:=λn=>k2 (w1.drewN n)
  go_quiet (fail);go_wp2;go_ret;exact⟨by rw[<-H.out.2];rfl,H1.out.trans (Fr.drewN [] w1 _)⟩
end Go.Proofs.YtbabjlohkniciaaGreatDoor.lo
namespace Go.Proofs.YtbabjlohkniciaaGreatDoor.obj
open Go Go.RowKit lib
def kname (k:Int):List UInt8:=if k=1 then [99,111,109,109,105,116] else if k=2 then [116,114,101,101] else if k=3 then [98,108,111,98] else if k=4 then [116,97,103] else []
def names5:Array Value:=#[.string ⟨#[]⟩,.string ⟨#[99,111,109,109,105,116]⟩,.string ⟨#[116,114,101,101]⟩,.string ⟨#[98,108,111,98]⟩,.string ⟨#[116,97,103]⟩]
theorem infoN:(Tryz.prog.info? 107).map (·.size)=some 5:=by kernel_rfl
theorem qgj {fn:Func} {p:Tmp} (h:fn.results=#[.cell p 107]) (tmps:Array Value) (w:World) (g:Nat) (cs:Array Value) (fr:Nat×Nat)
  (hp:tmps.getD p undef = .pointer (some ⟨g,0,none⟩)) (hg:w.heap[g]?=some (.cells cs 107 fr)) (hs:cs.size=5):(results fn tmps).run Tryz.prog w = .ok (.agg cs) w:=
 results_cell_row h tmps w g 107 cs fr _ hp hg Tryz.underlying107 rfl (by rw[infoN,hs])
theorem quu (w:World):Calls Tryz.prog 64 #[] w λe w'=>e = .returned (.agg names5)∧Fr [] w w':=by go_enter Tryz.func64,Tryz.ntmps64;go_wp2;exact bodyPost_ret (qgj rfl _ _ w.heap.size _ (0,0) rfl (qa3 w _) rfl) rfl ⟨rfl,(Fr.refl [] w).alloc _⟩
theorem qm7 (k:Int) (w:World):Calls Tryz.prog 37 #[.int .i64 k] w λe w'=>e = .returned (.string (str (kname k)))∧Fr [] w w':=by
 by_cases h0:k<0
 ·have hn:kname k=[]:=by unfold kname;rw[if_neg (by omega),if_neg (by omega),if_neg (by omega),if_neg (by omega)]
  rw[hn];go_enter Tryz.func37,Tryz.ntmps37;go_wp2;go_ret;exact⟨rfl,Fr.refl _ _⟩
 ·by_cases h4:4<k
  ·have hn:kname k=[]:=by unfold kname;rw[if_neg (by omega),if_neg (by omega),if_neg (by omega),if_neg (by omega)]
   rw[hn];go_enter Tryz.func37,Tryz.ntmps37;go_wp2;go_ret;exact⟨rfl,Fr.refl _ _⟩
  ·have hk:k=0∨k=1∨k=2∨k=3∨k=4:=by omega
   have i0:∀w:World,(Instr.index 107 (.agg names5) (.int .i64 0)).run Tryz.prog w = .ok (.string ⟨#[]⟩) w:=λw=>by kernel_rfl
   have i1:∀w:World,(Instr.index 107 (.agg names5) (.int .i64 1)).run Tryz.prog w = .ok (.string ⟨#[99,111,109,109,105,116]⟩) w:=λw=>by kernel_rfl
   have i2:∀w:World,(Instr.index 107 (.agg names5) (.int .i64 2)).run Tryz.prog w = .ok (.string ⟨#[116,114,101,101]⟩) w:=λw=>by kernel_rfl
   have i3:∀w:World,(Instr.index 107 (.agg names5) (.int .i64 3)).run Tryz.prog w = .ok (.string ⟨#[98,108,111,98]⟩) w:=λw=>by kernel_rfl
   have i4:∀w:World,(Instr.index 107 (.agg names5) (.int .i64 4)).run Tryz.prog w = .ok (.string ⟨#[116,97,103]⟩) w:=λw=>by kernel_rfl
   clear h0 h4;rcases hk with rfl|rfl|rfl|rfl|rfl
   all_goals
    go_enter Tryz.func37,Tryz.ntmps37
    go_wp2_with (go_at_call 64;refine (quu _).mono ?_;rintro e w1 ⟨rfl,f1⟩)
    go_ret
    exact⟨rfl,f1⟩
theorem qt7 (k:Int) (w:World):Calls Tryz.prog 47 #[.int .i64 k] w λe w'=>e = .returned (.string (str (kname k)))∧Fr [] w w':=by
 by_cases h0:k<0
 ·have hn:kname k=[]:=by unfold kname;rw[if_neg (by omega),if_neg (by omega),if_neg (by omega),if_neg (by omega)]
  rw[hn];go_enter Tryz.func47,Tryz.ntmps47;go_wp2;go_ret;exact⟨rfl,(Fr.refl [] w).alloc _⟩
 ·by_cases h4:4<k
  ·have hn:kname k=[]:=by unfold kname;rw[if_neg (by omega),if_neg (by omega),if_neg (by omega),if_neg (by omega)]
   rw[hn];go_enter Tryz.func47,Tryz.ntmps47;go_wp2;go_ret;exact⟨rfl,(Fr.refl [] w).alloc _⟩
  ·have hk:k=0∨k=1∨k=2∨k=3∨k=4:=by omega
   clear h0 h4;rcases hk with rfl|rfl|rfl|rfl|rfl
   all_goals
    go_enter Tryz.func47,Tryz.ntmps47
    go_wp2
    go_ret
    exact⟨rfl,(Fr.refl [] w).alloc _⟩
theorem qnk {m:Nat} (h:9<m):Lib.decDigits m=Lib.decDigits (m/10)++[UInt8.ofNat (48+m%10)]:=by rw[Lib.decDigits,dif_neg (by omega)]
theorem qhz {m:Nat} (h:¬9<m):Lib.decDigits m=[UInt8.ofNat (48+m)]:=by rw[Lib.decDigits,dif_pos (by omega)]
theorem digb (x:Nat) (h:x<10):((UInt8.ofNat (48+x)).toNat:Nat)=48+x:=by rw[qb9];omega
theorem qs2 (N:Nat) (w:World) (hN:N≤140737488355328):Calls Tryz.prog 48 #[.int .i64 N] w λe w'=>e = .returned (.string (str (Lib.decDigits N)))∧Fr [] w w':=by
 go_enter Tryz.func48,Tryz.ntmps48;go_wp2;go_loopg [0,3] N (λk s0 s3 wr=>∃(m:Nat) (t:List UInt8),s0 = .int .i64 (m:Nat)∧s3 = .string (str t)∧m≤k∧t.length+m≤N∧Lib.decDigits m++t=Lib.decDigits N∧Fr [] w wr);case atStart=>exact⟨N,[],rfl,rfl,qae _,by simp,by simp,Fr.refl _ _⟩
 case round=>
  obtain⟨m,t,rfl,rfl,hk,hm,he,hf⟩:=hrel;have H:=zhd2 he hf;clear he hf;have htz:(str t).size=t.length:=by simp[str,ByteArray.size]
  have HN:=zhd hm;have htb:t.length≤140737488355328:=by omega
  have hmb:m≤140737488355328:=by omega
  obtain⟨T,hT⟩:=zex (str t);rw[<-hT]at htz ⊢;have hTs:T.size≤140737488355328:=by omega
  have HTT:=zhd hT;clear htz hm hT htb;by_cases h9:9<m
  ·obtain⟨z,hz⟩:=zex (str [UInt8.ofNat (48+m%10)]);have hzs:z.size=1:=by rw[hz];rfl
   have cv:∀c,(convert 22 9 (.slice (some ⟨wr.heap.size,0,none⟩) 1 c)).run Tryz.prog (wr.alloc (.cells #[.int .u8 (48+(m:Int)%10)] 5)) = .ok (.string z) (wr.alloc (.cells #[.int .u8 (48+(m:Int)%10)] 5)):=by
    rw[hz];exact qff _ Tryz.underlying22 Tryz.underlying5 Tryz.underlying9 (ao:=some ⟨wr.heap.size,0,none⟩) (n:=1) rfl (.inr ⟨wr.heap.size,0,rfl,λj u hj=>by
     rw[cell_of (qa3 wr _)]
     cases j with
     | zero=>simp only[qaj,qam,qaf,bv,digb _ (show m%10<10 by omega)]at hj;rw[<-hj];simp
     | succ j=>simp at hj⟩)
   have HZ:=zhd hz;clear hz;go_wp2;go_roundg (m/10);case measure=>omega
   case rel=>exact⟨m/10,[UInt8.ofNat (48+m%10)]++t,by go_num,by rw[HZ.out,HTT.out,qct],qae _,by have:=HN.out;simp;omega,by rw[<-qat,<-qnk h9];exact H.o0,H.l1.alloc _⟩
  ·obtain⟨z,hz⟩:=zex (str [UInt8.ofNat (48+m)]);have hzs:z.size=1:=by rw[hz];rfl
   have cv:∀c,(convert 22 9 (.slice (some ⟨wr.heap.size,0,none⟩) 1 c)).run Tryz.prog (wr.alloc (.cells #[.int .u8 (48+(m:Int))] 5)) = .ok (.string z) (wr.alloc (.cells #[.int .u8 (48+(m:Int))] 5)):=by
    rw[hz];exact qff _ Tryz.underlying22 Tryz.underlying5 Tryz.underlying9 (ao:=some ⟨wr.heap.size,0,none⟩) (n:=1) rfl (.inr ⟨wr.heap.size,0,rfl,λj u hj=>by
     rw[cell_of (qa3 wr _)]
     cases j with
     | zero=>simp only[qaj,qam,qaf,bv,digb _ (show m<10 by omega)]at hj;rw[<-hj];simp
     | succ j=>simp at hj⟩)
   have HZ:=zhd hz;clear hz;go_wp2;go_ret;exact⟨by rw[<-H.o0,qhz h9,<-qct,<-HZ.out,<-HTT.out];rfl,H.l1.alloc _⟩
def header (k:Int) (n:Nat):List UInt8:=kname k++[32]++Lib.decDigits n++[0]
theorem qhx (k:Int):(kname k).length≤6:=by unfold kname;repeat (split<;>first|decide|skip)
theorem zb7 (n:Nat):(Lib.decDigits n).length≤n+1:=by
 induction n using Nat.strongRecOn with
 | _ n ih=>
  by_cases h:9<n
  ·rw[qnk h,qaa];have:=ih (n/10) (by omega);simp only[qal,qa7];omega
  ·rw[qhz h];simp
theorem qqm:∀(k n:Nat),0<k→n<10^k→(Lib.decDigits n).length≤k
 | 0,n,h,_=>by omega
 | k+1,n,_,hn=>by
  by_cases h:9<n
  ·rw[qnk h,qaa];have h1:n/10<10^k:=by rw[qc2]at hn;omega
   have hk:0<k:=by
    rcases Nat.eq_zero_or_pos k with rfl|hk
    ·simp at h1;omega
    ·exact hk
   have:=qqm k (n/10) hk h1;simp only[qal,qa7];omega
  ·rw[qhz h];simp
theorem qe3 (k:Int) (n:Nat) (hn:n≤140737488355328):(header k n).length≤24:=by
 have h1:=qhx k;have h2:=qqm 16 n (by decide) (by
  have:10^16=10000000000000000:=by decide
  omega)
 unfold header;simp only[qaa,qal,qa7];omega
theorem qps (k:Int) (n:Nat) (w:World) (hn:n≤140737488355328):Calls Tryz.prog 20 #[.int .i64 k,.int .i64 n] w λe w'=>e = .returned (.string (str (header k n)))∧Fr [] w w':=by
 obtain⟨A,hA⟩:=zex (str (kname k));obtain⟨D,hD⟩:=zex (str (Lib.decDigits n));have hAs:A.size≤6:=by have:=qhx k;rw[hA];simpa[str,ByteArray.size] using this
 have hDs:D.size≤140737488355329:=by
  have:=zb7 n;have e:(str (Lib.decDigits n)).size=(Lib.decDigits n).length:=by simp[str,ByteArray.size]
  rw[hD,e];omega
 have h1:=λw'=>qt7 k w'
 have h2:=λw'=>qs2 n w' (by omega)
 rw[<-hA]at h1;rw[<-hD]at h2;have H:=zhd4 h1 h2 hA hD;clear h1 h2 hA hD;go_enter Tryz.func20,Tryz.ntmps20;go_wp2_with (first
  | (go_at_call 47;refine (H.o0 _).mono ?_;rintro e w1 ⟨rfl,f1⟩)
  | (go_at_call 48;refine (H.o1 _).mono ?_;rintro e w2 ⟨rfl,f2⟩)
  | (refine qju (n:Int) rfl _ _ _ rfl (n:Int) 0 rfl rfl (by split<;>omega) ?_))
 go_ret;have e1:({ data:=#[32] }:ByteArray)=str [32]:=rfl;have e0:({ data:=#[0] }:ByteArray)=str [0]:=rfl;exact⟨by unfold header;rw[<-qct,<-qct,<-qct,<-H.o2,<-H.l3,<-e1,<-e0];rfl,f1.trans f2⟩
end Go.Proofs.YtbabjlohkniciaaGreatDoor.obj
namespace Go.Proofs.YtbabjlohkniciaaGreatDoor.lo
open Go obj
def fz:List UInt8→Option Nat
 | []=>none
 | b::t=>if b=0 then some 0 else (fz t).map (·+1)
theorem qvr:∀{s:List UInt8} {i:Nat},fz s=some i→s[i]?=some 0∧∀j,j<i→∃c,s[j]?=some c∧c≠0
 | [],i,h=>by cases h
 | b::t,i,h=>by
  rw[fz]at h;split at h
  ·rename_i hb;obtain rfl:=qa0 h;exact⟨by rw[hb];rfl,λj hj=>absurd hj (Nat.not_lt_zero j)⟩
  ·rename_i hb;cases ht:fz t with
   | none=>rw[ht]at h;cases h
   | some k=>
    rw[ht]at h;simp only[qjc,qar]at h;subst h;obtain⟨h1,h2⟩:=qvr ht;refine⟨by simpa using h1,λj hj=>?_⟩;cases j with
    | zero=>exact⟨b,rfl,hb⟩
    | succ j=>simpa using h2 j (by omega)
theorem zb1:∀{s:List UInt8} {i:Nat},s[i]?=some 0→(∀j,j<i→∃c,s[j]?=some c∧c≠0)→fz s=some i
 | [],i,h,_=>by cases h
 | b::t,0,h,_=>by
  rw[fz,if_pos (by simpa using h)]
 | b::t,i+1,h,h2=>by
  obtain⟨c,hc,hne⟩:=h2 0 (by omega);have hb:b≠0:=by simp at hc;rw[hc];exact hne
  rw[fz,if_neg hb,zb1 (s:=t) (i:=i) (by simpa using h) (λj hj=>by simpa using h2 (j+1) (by omega))];rfl
theorem qoy:∀n,∀c∈Lib.decDigits n,48≤c.toNat∧c.toNat≤57:=by
 intro n;induction n using Nat.strongRecOn with
 | ind n ih=>
  intro c hc;by_cases h:9<n
  ·rw[qnk h,qbe,qa4]at hc;rcases hc with hc|rfl
   ·exact ih (n/10) (by omega) c hc
   ·rw[qb9];omega
  ·rw[qhz h,qa4]at hc;subst hc;rw[qb9];omega
theorem qqd (k:Int):∀c∈kname k,97≤c.toNat∧c.toNat≤122:=by unfold kname;repeat (split<;>first|decide|skip)
theorem qou (k:Int) (m:Nat):∃h,header k m=h++[0]∧∀c∈h,c≠0:=by
 refine⟨kname k++[32]++Lib.decDigits m,rfl,λc hc h0=>?_⟩;subst h0;rcases qbe.1 hc with hc|hc
 ·rcases qbe.1 hc with hc|hc
  ·have:=(qqd k 0 hc).1;revert this;decide
  ·simp at hc
 ·have:=(qoy m 0 hc).1;revert this;decide
theorem qvs {s:List UInt8} {k:Int} {m n:Nat} (h:header k m=s.take n):fz s=some ((header k m).length-1)∧(n=(header k m).length∨s.length<n):=by
 obtain⟨t,ht,hne⟩:=qou k m;have hl:(header k m).length=t.length+1:=by rw[ht];simp
 have hp:∀j,j<t.length+1→s[j]?=(t++[0])[j]?:=λj hj=>by
  have h1:=congrArg (λl=>l[j]?) h;rw[ht]at h1;simp only[qbk]at h1;split at h1
  ·exact h1.symm
  ·rw[qad (by simp;omega)]at h1;cases h1
 refine⟨?_,?_⟩
 ·rw[hl,qeh];refine zb1 (by rw[hp _ (by omega)];simp) λj hj=>?_
  rw[hp j (by omega),qce hj,qad hj];exact⟨_,rfl,hne _ (qci hj)⟩
 ·have h2:=congrArg List.length h;rw[qas]at h2;omega
def lkind (s:List UInt8):Option (Nat×Nat):=match fz s with
 | none=>none
 | some i=>([1,2,3,4].find? λk:Nat=>header k (s.length-(i+1))==s.take (i+1)).map λk=>(k,i+1)
theorem qk0 {j k:Nat} (hj:1≤j∧j≤4) (hk:1≤k∧k≤4) {s a b:List UInt8} (h1:s=kname j++[32]++a) (h2:s=kname k++[32]++b):j=k:=by obtain⟨j1,j2⟩:=hj;obtain⟨k1,k2⟩:=hk;have h:=h1.symm.trans h2;rcases (show j=1∨j=2∨j=3∨j=4 by omega) with rfl|rfl|rfl|rfl<;>rcases (show k=1∨k=2∨k=3∨k=4 by omega) with rfl|rfl|rfl|rfl<;>first|rfl|(simp[kname]at h)
theorem ql4 {s:List UInt8} {k n:Nat} (h:lkind s=some (k,n)):1≤k∧k≤4∧n≤s.length∧header k (s.length-n)=s.take n:=by
 unfold lkind at h;split at h
 ·cases h
 ·rename_i i hi;cases hf:([1,2,3,4].find? λk:Nat=>header k (s.length-(i+1))==s.take (i+1)) with
  | none=>rw[hf]at h;cases h
  | some q=>rw[hf]at h;simp only[qjc,qar,qay]at h;obtain⟨rfl,rfl⟩:=h;have h1:=List.find?_some hf;have h2:=List.mem_of_find?_eq_some hf;have h3:=(qbq.1 (qvr hi).1).1;simp only[beq_iff_eq]at h1;simp only[qaz,qbv,or_false]at h2;exact⟨by omega,by omega,by omega,h1⟩
theorem qrk {s:List UInt8} {k n:Nat} (hk:1≤k∧k≤4) (hn:n≤s.length) (h:header k (s.length-n)=s.take n):lkind s=some (k,n):=by
 obtain⟨h1,h2⟩:=qvs h;obtain⟨t,ht,_⟩:=qou k (s.length-n);have hl:(header k (s.length-n)).length=t.length+1:=by rw[ht];simp
 have hn2:n=t.length+1:=by omega
 rw[hl,qeh]at h1;unfold lkind;rw[h1];have e:([1,2,3,4].find? λj:Nat=>header j (s.length-(t.length+1))==s.take (t.length+1))=some k:=by
  rw[<-hn2];have hu:∀j:Nat,1≤j∧j≤4→(header j (s.length-n)==s.take n)=true→j=k:=λj hj e=>by have e1:header j (s.length-n)=header k (s.length-n):=(beq_iff_eq.1 e).trans h.symm;exact qk0 (s:=header j (s.length-n)) (a:=Lib.decDigits (s.length-n)++[0]) (b:=Lib.decDigits (s.length-n)++[0]) hj hk (by unfold header;simp) (by rw[e1];unfold header;simp)
  have hh:(header k (s.length-n)==s.take n)=true:=by rw[h];simp
  have hf:∀j:Nat,1≤j∧j≤4→j≠k→(header j (s.length-n)==s.take n)=false:=λj hj hne=>by
   cases hb:(header j (s.length-n)==s.take n) with
   | false=>rfl
   | true=>exact absurd (hu j hj hb) hne
  obtain⟨k1,k2⟩:=hk;rcases (show k=1∨k=2∨k=3∨k=4 by omega) with rfl|rfl|rfl|rfl
  ·simp only[qgd,hh]
  ·simp only[qgd,hh,hf 1 (by decide) (by decide)]
  ·simp only[qgd,hh,hf 1 (by decide) (by decide),hf 2 (by decide) (by decide)]
  ·simp only[qgd,hh,hf 1 (by decide) (by decide),hf 2 (by decide) (by decide),hf 3 (by decide) (by decide)]
 dsimp only;rw[e,hn2];rfl
theorem qsw {k:Nat} (hk:1≤k∧k≤4) (b:List UInt8):lkind (header k b.length++b)=some (k,(header k b.length).length):=
 qrk hk (by rw[qaa];omega) (by rw[qaa,Nat.add_sub_cancel_left,List.take_left' rfl])
def scan:List UInt8→Nat→Option (Option Nat)
 | [],_=>some none
 | c::t,i=>if c=0 then some (some i) else if c.toNat<48∨57<c.toNat then none else scan t (i+1)
theorem qt4:∀{t:List UInt8} {i n:Nat},scan t i=some (some n)→i≤n∧n<i+t.length
 | [],i,n,h=>by cases h
 | c::t,i,n,h=>by
  rw[scan]at h;split at h
  ·simp only[qar]at h;subst h;simp
  ·split at h
   ·cases h
   ·have:=qt4 h;simp only[qal];omega
theorem qkh:∀(d rest:List UInt8) (i:Nat),(∀c∈d,48≤c.toNat∧c.toNat≤57)→scan (d++0::rest) i=some (some (i+d.length))
 | [],rest,i,_=>by rw[qch,scan,if_pos rfl];rfl
 | c::t,rest,i,h=>by
  have hc:=h c (by simp);have h0:c≠0:=by rintro rfl;exact absurd hc.1 (by decide)
  rw[qc1,scan,if_neg h0,if_neg (by omega),qkh t rest (i+1) (λx hx=>h x (qbu _ hx)),qal];congr 2;omega
def pre (k:Nat):List UInt8:=kname k++[32]
def phead (s:List UInt8):Option (Nat×Nat):=match [1,2,3,4].find? λk=>(pre k).isPrefixOf s with
 | none=>none
 | some k=>match scan (s.drop (pre k).length) 0 with
  | some (some i)=>if header k (s.length-((pre k).length+i+1))=s.take ((pre k).length+i+1) then some (k,(pre k).length+i+1) else none
  | _=>none
theorem qra {s:List UInt8} {k:Nat} (hk:1≤k∧k≤4) {a:List UInt8} (h:s=pre k++a):([1,2,3,4].find? λk=>(pre k).isPrefixOf s)=some k:=by
 have hh:(pre k).isPrefixOf s=true:=by rw[List.isPrefixOf_iff_prefix,h];exact List.prefix_append _ _
 have hf:∀j:Nat,1≤j∧j≤4→j≠k→(pre j).isPrefixOf s=false:=λj hj hne=>by
  cases hb:(pre j).isPrefixOf s with
  | false=>rfl
  | true=>obtain⟨b,hb⟩:=List.isPrefixOf_iff_prefix.1 hb;exact absurd (qk0 hj hk hb.symm h) hne
 obtain⟨k1,k2⟩:=hk;rcases (show k=1∨k=2∨k=3∨k=4 by omega) with rfl|rfl|rfl|rfl
 ·simp only[qgd,hh]
 ·simp only[qgd,hh,hf 1 (by decide) (by decide)]
 ·simp only[qgd,hh,hf 1 (by decide) (by decide),hf 2 (by decide) (by decide)]
 ·simp only[qgd,hh,hf 1 (by decide) (by decide),hf 2 (by decide) (by decide),hf 3 (by decide) (by decide)]
theorem qrb (s:List UInt8):phead s=lkind s:=by
 cases hl:lkind s with
 | some kn=>
  obtain⟨k,n⟩:=kn;obtain⟨h1,h2,h3,h4⟩:=ql4 hl;have hs:s=pre k++(Lib.decDigits (s.length-n)++0::s.drop n):=by
   conv=>lhs;rw[<-qc3 n s,<-h4]
   unfold header pre;simp
  have hn:n=(pre k).length+(Lib.decDigits (s.length-n)).length+1:=by
   have h5:=congrArg List.length h4;rw[qas,qcq h3]at h5;have h6:(header k (s.length-n)).length=(pre k).length+(Lib.decDigits (s.length-n)).length+1:=by unfold header pre;simp only[qaa,qal,qa7]
   omega
  unfold phead;rw[qra ⟨h1,h2⟩ hs];dsimp only;have hd:s.drop (pre k).length=Lib.decDigits (s.length-n)++0::s.drop n:=by
   conv=>lhs;rw[hs]
   rw[List.drop_left' rfl]
  rw[hd,qkh _ _ _ (qoy _),qbf];dsimp only;rw[<-hn,if_pos h4]
 | none=>
  cases hp:phead s with
  | none=>rfl
  | some kn=>
   exfalso;obtain⟨k,n⟩:=kn;unfold phead at hp;split at hp
   ·cases hp
   ·rename_i k' hk;have h2:=List.mem_of_find?_eq_some hk;simp only[qaz,qbv,or_false]at h2;split at hp
    ·rename_i i hi;split at hp
     ·rename_i he;simp only[qar,qay]at hp;obtain⟨rfl,rfl⟩:=hp;have h3:=(qt4 hi).2;rw[qav]at h3;rw[qrk (by omega) (by omega) he]at hl;cases hl
     ·cases hp
    ·cases hp
def lparse (b:List UInt8):Nat×List UInt8×Nat:=match inf.izlib b 65568 with
 | .error e=>(0,[],e)
 | .ok (out,used)=>if used=b.length then (match lkind out with
  | none=>(0,[],3)
  | some (k,n)=>if 65536<out.length-n then (0,[],5) else (k,out.drop n,0)) else (0,[],3)
end Go.Proofs.YtbabjlohkniciaaGreatDoor.lo
