/-
  Texts of this proof, one behind the other: FsB, FsC, FsD, FsE, FsF, FsG, FsH, FsI, FsJ, FsK, IterS, FsL.
-/
import Derived.Test.YtbabjlohkniciaaGreatDoorV19
import Derived.Maps.RangeWalk
import Derived.Sort.MapsRangeIn
import Derived.Shelf.SlIter.Nil
import Derived.Shelf.SlMaps.Clone
import Derived.Ground.GgzProg
import Derived.Ground.SlmcProg
import Derived.Sort.OwnSorted
import Derived.Sort.KeysCollected
set_option maxHeartbeats 16000000
set_option maxRecDepth 100000
set_option linter.unusedVariables false
set_option linter.unusedSimpArgs false
namespace Go.Proofs.YtbabjlohkniciaaGreatDoor.fs
open Go Go.RowKit lib pk
set_option maxRecDepth 100000
inductive Lb|fs|names|chg|file|data (p:Nat)
def FileB (w:World) (p:Nat) (a:Option Addr) (c:Nat) (syn:Int) (bs:List UInt8):Prop:=w.heap[p]?=some (.cells #[.slice a bs.length c,.int .i64 syn] 60 (0,0))∧OwnB w 5 a c (bs.map bv)
theorem sliceChg:SliceTy Tryz.prog 44 96 .nilIface 1 16:=SliceTy.of Tryz.underlying44 (by kernel_rfl) rfl (by decide)
structure Fs (w:World) (F n M:Nat) (t:Nm→Option (List UInt8)) (lab:Nat→Option Lb):Prop where
 st:∃B las chg m vs g,FsB w F 1048576 B las chg∧Names w B n g∧w.ownsRow 0 96 1 chg m vs∧m≤n∧lab F=some .fs∧lab B=some .names∧(∀x,chg.ownBlock=some x→lab x=some .chg)∧
  (∀k,t k=none→g k=none)∧(∀k bs,t k=some bs→bs.length≤M∧∃p a c syn,g k=some p∧FileB w p a c syn bs∧lab p=some .file∧∀x∈blk a,lab x=some (.data p))∧∀k k' p,g k=some p→g k'=some p→k=k'
 few:n≤8
 most:M≤100000
 low:∀x,lab x≠none→x<w.heap.size
theorem Fs.fr {T:List Nat} {w w':World} {F n M:Nat} {t:Nm→Option (List UInt8)} {lab:Nat→Option Lb} (h:Fs w F n M t lab) (f:Fr T w w') (hT:∀x∈T,lab x=none):Fs w' F n M t lab:=by
 have no:∀x l,lab x=some l→x∉T:=λx l hx hm=>by rw[hT x hm]at hx;cases hx
 obtain⟨⟨B,las,chg,m,vs,g,h1,h2,h3,h4,h5,h6,h7,h8,h9,h10⟩,hn,hM,hlow⟩:=h;refine⟨⟨B,las,chg,m,vs,g,f.blk h1 (no _ _ h5),h2.fr f (no _ _ h6),qa7 h3 f (λx hx=>no _ _ (h7 x hx)),h4,h5,h6,h7,h8,λk bs hk=>?_,h10⟩,hn,hM,λx hx=>qal (hlow x hx) f.size⟩;obtain⟨k1,p,a,c,syn,k2,k3,k4,k5⟩:=h9 k bs hk;exact⟨k1,p,a,c,syn,k2,⟨f.blk k3.1 (no _ _ k4),k3.2.fr f (λx hx=>no _ _ (k5 x hx))⟩,k4,k5⟩
def Stp (w:World) (lab:Nat→Option Lb) (w':World) (lab':Nat→Option Lb):Prop:=(∃T,Fr T w w'∧∀x∈T,lab x≠none)∧∀x,lab' x≠none→lab x≠none∨w.heap.size≤x
theorem qqo (w:World):Calls Tryz.prog 5 #[.int .i64 1048576] w λe w'=>∃F lab,e = .returned (.tuple #[.pointer (some ⟨F,0,none⟩),.int .i64 0])∧Fs w' F 0 0 (λ_=>none) lab∧(∀x,lab x≠none→w.heap.size≤x)∧Fr [] w w':=by
 have hmm:=λw'=>run_makeMap (P:=Tryz.prog) 43 w'
 go_enter Tryz.func5,Tryz.ntmps5;go_wp2;go_ret2;have asz:∀(w:World) (o:Obj),(w.alloc o).heap.size=w.heap.size+1:=λw o=>Array.size_push _
 have f1:Fr [] w (w.alloc (.map #[] 0)):=(Fr.refl [] w).alloc _;have f2:Fr [] (w.alloc (.map #[] 0)) ((w.alloc (.map #[] 0)).alloc (.map #[] 0)):=(Fr.refl [] _).alloc _;have f3:=(Fr.refl [] ((w.alloc (.map #[] 0)).alloc (.map #[] 0))).alloc (.cells #[.int .i64 1048576,.map (some w.heap.size),.map (some (w.heap.size+1)),.slice none 0 0,.int .i64 (-1),.bool false] 46);have hsz:((w.alloc (.map #[] 0)).alloc (.map #[] 0)).heap.size=w.heap.size+1+1:=by rw[asz,asz]
 have hb:=qa4 ((w.alloc (.map #[] 0)).alloc (.map #[] 0)) (.cells #[.int .i64 1048576,.map (some w.heap.size),.map (some (w.heap.size+1)),.slice none 0 0,.int .i64 (-1),.bool false] 46);rw[hsz]at hb;refine⟨w.heap.size+1+1,λx=>if x=w.heap.size+1+1 then some .fs else if x=w.heap.size then some .names else none,rfl,⟨⟨w.heap.size,.map (some (w.heap.size+1)),.slice none 0 0,0,[],λ_=>none,hb,((Names.made w).fr f2 (by simp)).fr f3 (by simp),qch _ _ _ _,by decide,by simp,by rw[if_neg (by omega),if_pos rfl],(λx hx=>by cases hx),(λ_ _=>rfl),(λk bs hk=>by cases hk),(λk k' p hp=>by cases hp)⟩,by decide,by decide,λx hx=>?_⟩,λx hx=>?_,(f1.trans f2).trans f3⟩
 ·try simp only at hx
  have hs3:(((w.alloc (.map #[] 0)).alloc (.map #[] 0)).alloc (.cells #[.int .i64 1048576,.map (some w.heap.size),.map (some (w.heap.size+1)),.slice none 0 0,.int .i64 (-1),.bool false] 46)).heap.size=w.heap.size+1+1+1:=by rw[asz,asz,asz]
  rw[hs3];by_cases h1:x=w.heap.size+1+1
  ·omega
  ·rw[if_neg h1]at hx;by_cases h2:x=w.heap.size
   ·omega
   ·rw[if_neg h2]at hx;exact absurd rfl hx
 ·try simp only at hx
  by_cases h1:x=w.heap.size+1+1
  ·omega
  ·rw[if_neg h1]at hx;by_cases h2:x=w.heap.size
   ·omega
   ·rw[if_neg h2]at hx;exact absurd rfl hx
set_option maxRecDepth 100000
theorem qpo (B n:Nat) (g:Nm→Option Nat) (k:Nm) (P:Nat) (w:World) (hN:Names w B n g) (hn:n<1000) (hk:NOk k) :
  Calls Tryz.prog 231 #[.agg #[.string (str k),.pointer (some ⟨P,0,none⟩)],.map (some B)] w λe w'=>e = .returned (.tuple #[])∧Names w' B (n+1) (set g k (some P))∧Fr [B] w w':=by
 have f1:Fr [] w (w.alloc (.cells #[.string (str k),.pointer (some ⟨P,0,none⟩)] 62)):=(Fr.refl [] w).alloc _;have hb:=qa4 w (.cells #[.string (str k),.pointer (some ⟨P,0,none⟩)] 62);obtain⟨X,hX⟩:=zex w.heap.size;obtain⟨w1,hw1⟩:=zex (w.alloc (.cells #[.string (str k),.pointer (some ⟨P,0,none⟩)] 62));rw[<-hw1,<-hX]at hb;rw[<-hw1]at f1;have c0:w1.cell? ⟨X,0,none⟩=some (.string (str k)):=by rw[cell_of hb];rfl
 have c1:w1.cell? ⟨X,1,none⟩=some (.pointer (some ⟨P,0,none⟩)):=by rw[cell_of hb];rfl
 obtain⟨w2,hst,hN2,f2⟩:=(hN.fr f1 (by simp)).store hn k (by have:=hk.2.1;omega) P;have hst':(Instr.mapUpdate 43 (.map (some B)) (.string (str k)) (.pointer (some ⟨P,0,none⟩))).run Tryz.prog w1 = .ok () w2:=hst;obtain⟨z,hz⟩:=zex (str k);rw[<-hz]at c0 hst' hw1 ⊢;have H:=zhd4 hN2 (f1.mono (T:=[B]) (by simp) |>.trans f2) hX hw1;clear hst hN hN2 f1 f2 hb hX hw1 hz hk;go_enter Tryz.func231,Tryz.ntmps231;go_upto_region 1 with fail;rw[<-H.o2,<-H.l3];go_wp2;exact bodyPost_end (results_none rfl _ _ _) rfl ⟨rfl,H.o0,H.o1⟩
theorem qqi {P:Program} {ops:Array Oper} {C:World→Prop} {Q:Act→Prop} {o:Oper} {rest:List Oper} {a:Act} (hg:Region.wanted o (yielded ops a.tmps)=true) (x:Operand) (ho:o.op = .nilCheck x) (nm:String) (t:TypeId) (v:Value) (caps:Array Value)
  (hx:a.eval x = .func (.method nm) #[.iface t v] caps) (hn:∀w,(nilAhead (P.types.size+Made.depth) t v nm).run P w = .ok (some false) w) (h:wpQuiet P ops C Q rest (a.put o.dst (.func (.method nm) #[.iface t v] caps))):wpQuiet P ops C Q (o::rest) a:=by
 show if Region.wanted o (yielded ops a.tmps) then o.quiet P a C (wpQuiet P ops C Q rest) else wpQuiet P ops C Q rest (a.put o.dst undef)
 rw[if_pos hg];refine⟨_,λw _=>?_,h⟩;unfold Oper.quietAt;simp[execOp,ho,hx,hn,Oper.quietUpon,Result.andThen]
theorem qp2 (k:Nm) (P:Nat) (w:World):(nilAhead (Tryz.prog.types.size+Made.depth) 62 (.agg #[.string (str k),.pointer (some ⟨P,0,none⟩)]) "stemma/fs.apply").run Tryz.prog w = .ok (some false) w:=by kernel_rfl
theorem qqt (k:Nm) (P:Nat) (w:World):(method 412 62 (.agg #[.string (str k),.pointer (some ⟨P,0,none⟩)]) "stemma/fs.apply").run Tryz.prog w = .ok (231,.agg #[.string (str k),.pointer (some ⟨P,0,none⟩)]) w:=by kernel_rfl
theorem qrh (B:Nat) (k:Nm) (P:Nat) (w:World):(callFunc 231 #[.agg #[.string (str k),.pointer (some ⟨P,0,none⟩)],.map (some B)]).run Tryz.prog w = .ok (.enter 231 #[.agg #[.string (str k),.pointer (some ⟨P,0,none⟩)],.map (some B)]) w:=by kernel_rfl
def ChP (w:World) (F q B:Nat) (las chg:Value) (m n':Nat) (g':Nm→Option Nat) (e:Ending) (w':World):Prop:=
 e = .returned (.int .i64 0)∧∃chg' vs',FsB w' F q B las chg'∧Names w' B n' g'∧w'.ownsRow 0 96 1 chg' (m+1) vs'∧Fr (F::B::chg.ownBlock.toList) w w'∧∀x,chg'.ownBlock=some x→chg.ownBlock=some x∨w.heap.size≤x
theorem qmx (F q B n n' m:Nat) (las chg:Value) (vs:List Value) (g g':Nm→Option Nat) (ty:TypeId) (val:Value) (fid:FuncId) (w:World) (hF:FsB w F q B las chg) (hN:Names w B n g) (hc:w.ownsRow 0 96 1 chg m vs) (hm:m≤1000) (hFB:F≠B) (hcF:∀x,chg.ownBlock=some x→x≠F∧x≠B)
  (hna:∀w,(nilAhead (Tryz.prog.types.size+Made.depth) ty val "stemma/fs.apply").run Tryz.prog w = .ok (some false) w) (hme:∀w,(method 412 ty val "stemma/fs.apply").run Tryz.prog w = .ok (fid,val) w)
  (hcf:∀w,(callFunc fid #[val,.map (some B)]).run Tryz.prog w = .ok (.enter fid #[val,.map (some B)]) w)
  (hap:∀w',Names w' B n g→Calls Tryz.prog fid #[val,.map (some B)] w' λe w''=>e = .returned (.tuple #[])∧Names w'' B n' g'∧Fr [B] w' w'') :
  Calls Tryz.prog 24 #[.pointer (some ⟨F,0,none⟩),.iface ty val] w (ChP w F q B las chg m n' g'):=by
 have hb:=qoa F q B las chg w hF;have H:=zhd5 hb hN hc hcF hap;clear hb hF hN hc hcF hap;go_enter Tryz.func24,Tryz.ntmps24;go_upto_region 4 with (go_at_call 28;refine H.o0.mono ?_;rintro e w1 ⟨rfl,b1,f1⟩;have H1:=zhd2 b1 f1;clear b1 f1);have c1:w1.drew.cell? ⟨F,1,none⟩=some (.map (some B)):=(show w1.cell? _=_ by rw[cell_of H1.o0];rfl);have s1:∀x,(sup [B] w1.drew x).cell? ⟨F,1,none⟩=some (.map (some B)):=λx=>(qes [B] w1.drew x).cell c1 (by simpa using hFB)
 refine qcj 9 [(false,0),(false,1),(false,2),(false,3),(false,4),(true,5),(false,6),(false,7),(true,8)] [B] (by kernel_rfl) (by kernel_rfl) (λ_ _ d _ _ h=>by cases d<;>exact h) ?_;simp only[qak,qap,qbh,qbi,qah,qaj,qce];refine qb9 5 rfl ?_;simp only[qai,qao,qah,qaj,qak,qap];repeat (go_big_quiet_step (fail))
 refine wpQuiet_nil ?_;refine qc5 rfl ?_;intro XX hXX;go_wp2_with fail;refine hXX.out _ _ (Fr.refl _ _) ?_;clear hXX XX;refine qb9 2 rfl ?_;simp only[qai,qao,qah,qaj,qak,qap];refine qqi rfl _ rfl _ _ _ _ rfl hna ?_;simp only[Act.put,qyq,List.set_cons_succ,List.set_cons_zero];repeat (go_big_quiet_step (fail))
 refine wpQuiet_nil ?_;refine qc5 rfl ?_;intro XX hXX;have hap:=H.l4 w1.drew ((H.o1.fr H1.l1 (by simp;exact λe=>hFB e.symm)).fr (Fr.drew1 [] w1) (by simp));go_wp2_with fail;refine hap.mono ?_;rintro e w2 ⟨rfl,hN2,f2⟩;refine hXX.out _ _ f2 ?_;clear hXX XX hap;refine qc4 ?_;have b2:FsB w2 F q B las chg:=f2.blk (show w1.drew.heap[F]?=_ from H1.o0) (by simpa using hFB);have c3:w2.cell? ⟨F,3,none⟩=some chg:=by rw[cell_of b2];rfl
 have fa:Fr [] w2 (w2.alloc (.cells #[.iface ty val] 96)):=(Fr.refl [] w2).alloc _;have fc:∀x,chg.ownBlock=some x→x∉[F]∧x∉[B]:=λx hx=>by have:=H.o3 x hx;simpa using this
 have own2:=qa7 (qa7 (qa7 (qa7 H.o2 H1.l1 (λx hx=>(fc x hx).1)) (Fr.drew1 [] w1) (by simp)) f2 (λx hx=>(fc x hx).2)) fa (by simp);have H2:=zhd5 b2 hN2 f2 fa own2;clear b2 hN2 f2 fa own2 fc c1 s1;go_wp2_with (at_builtin;refine qa5 sliceChg rfl _ _ rfl chg m vs chg.ownBlock.toList rfl rfl H2.out.2.2.2.2 (some ⟨w2.heap.size,0,none⟩) 1 1 [.iface ty val] rfl (qag _) (by simp) (qgx w2 _ _ _) rfl (by simp[Value.oneCell']) (by omega) (by unfold maxLen;omega) ?_;intro a3 q3 w3 A3;have b3:FsB w3 F q B las chg:=A3.fr.blk (H2.out.2.2.2.1.blk H2.out.1 (by simp)) (λhx=>by have e:=H.o3 F (by simpa using hx);exact e.1 rfl);have d3:w3.cell? ⟨F,3,none⟩=some chg:=(by rw[cell_of b3];rfl);have z3:=qay b3 3;have H3:=zhd2 A3 b3;clear A3 b3);go_ret;obtain⟨b2,hN2,f2,fa,own2⟩:=H2.out;obtain⟨A3,b3⟩:=H3.out;have hcF:=H.o3;have f4:Fr [F] w3 (w3.setCell ⟨F,3,none⟩ (.slice a3 (m+1) q3)):=(Fr.refl [F] w3).setCell (by simp) _;have s12:w.heap.size≤w2.heap.size:=qan H1.l1.size f2.size;have hat:∀x,(Value.slice a3 (m+1) q3).ownBlock=some x→chg.ownBlock=some x∨w2.heap.size≤x:=λx hx=>by
  have hx2:x∈blk a3:=by rw[<-qbp a3 (m+1) q3,hx];simp
  rcases A3.at_ x hx2 with h|h
  ·exact .inl (by simpa using h)
  ·right;rw[h];exact fa.size
 have hF2:=lt_of_block b2;have hBc:B∉chg.ownBlock.toList:=λhx=>(hcF B (by simpa using hx)).2 rfl
 have hT:∀y,y∈[F]∨y∈[B]∨y∈chg.ownBlock.toList→y∈F::B::chg.ownBlock.toList:=λy hy=>by simp only[qaw,qby,or_false]at hy ⊢;exact hy
 refine⟨rfl,.slice a3 (m+1) q3,vs++[.iface ty val],(qa0 (o:=3) b3 _).trans rfl,((hN2.fr fa (by simp)).fr A3.fr hBc).fr f4 (by simpa using λe=>hFB e.symm),qa7 A3.own f4 (λx hx hm=>?_),?_,λx hx=>?_⟩
 ·simp only[qaz]at hm;subst hm;rcases hat x hx with h|h
  ·exact (hcF x h).1 rfl
  ·omega
 ·exact ((((H1.l1.mono (T:=F::B::chg.ownBlock.toList) (λy hy=>.inl (hT y (.inl hy)))).trans ((Fr.drew1 _ w1))).trans (f2.mono (T:=F::B::chg.ownBlock.toList) (λy hy=>.inl (hT y (.inr (.inl hy)))))).trans ((fa.mono (by simp)).trans (A3.fr.mono (T:=F::B::chg.ownBlock.toList) (λy hy=>.inl (hT y (.inr (.inr hy))))))).trans (f4.mono (T:=F::B::chg.ownBlock.toList) (λy hy=>.inl (hT y (.inl hy))))
 ·rcases hat x hx with h|h
  ·exact .inl h
  ·exact .inr (by omega)
set_option maxRecDepth 100000
def upd (t:Nm→Option (List UInt8)) (k:Nm) (v:Option (List UInt8)):Nm→Option (List UInt8):=λx=>if x=k then v else t x
theorem qui (F q B n m:Nat) (las chg:Value) (vs:List Value) (g:Nm→Option Nat) (k:Nm) (w:World) (hF:FsB w F q B las chg) (hN:Names w B n g) (hn:n<1000) (hc:w.ownsRow 0 96 1 chg m vs) (hm:m≤1000) (hFB:F≠B) (hcF:∀x,chg.ownBlock=some x→x≠F∧x≠B) (hk:NOk k) (hg:g k=none) :
  Calls Tryz.prog 9 #[.pointer (some ⟨F,0,none⟩),.string (str k)] w λe w'=>∃w1 P,Fr [] w w1∧w1.heap[P]?=some (.cells #[.slice none 0 0,.int .i64 0] 60 (0,0))∧w.heap.size≤P∧ChP w1 F q B las chg m (n+1) (set g k (some P)) e w':=by
 have f1:Fr [] w (w.alloc (.cells #[.string (str k)] 9)):=(Fr.refl [] w).alloc _;have hb:=qa4 w (.cells #[.string (str k)] 9);obtain⟨w1,hw1⟩:=zex (w.alloc (.cells #[.string (str k)] 9));rw[<-hw1]at f1 hb;obtain⟨X,hX⟩:=zex w.heap.size;rw[<-hX]at hb;have hnm:=qnp F q B las chg X 1 [k] w1 (f1.blk hF (by simp)) (λi x hi=>by
  match i,hi with
  | 0,hi=>
   obtain rfl:=qa2 hi
   rw[cell_of hb]
   rfl) (λx hx=>by simp only[qaz]at hx;rw[hx];exact hk) (by show (1:Nat)≤2;decide)
 rw[show [k].length=1 from rfl]at hnm;have c1:w1.cell? ⟨F,1,none⟩=some (.map (some B)):=by rw[cell_of (f1.blk hF (by simp))];rfl
 have hlk:=(hN.fr f1 (by simp)).look k (by have:=hk.2.1;omega);rw[hg]at hlk;have hlk':(Instr.lookup 43 (.map (some B)) (.string (str k)) false).run Tryz.prog w1 = .ok (.pointer none) w1:=hlk;have f2:Fr [] w1 (w1.alloc (.cells #[.slice none 0 0,.int .i64 0] 60)):=(Fr.refl [] w1).alloc _;have hb2:=qa4 w1 (.cells #[.slice none 0 0,.int .i64 0] 60);obtain⟨P,hP⟩:=zex w1.heap.size;obtain⟨w2,hw2⟩:=zex (w1.alloc (.cells #[.slice none 0 0,.int .i64 0] 60));rw[<-hw2]at f2 hb2;rw[<-hP]at hb2;have f12:=f1.trans f2;have hch:=qmx F q B n (n+1) m las chg vs g (set g k (some P)) 62 (.agg #[.string (str k),.pointer (some ⟨P,0,none⟩)]) 231 w2 (f12.blk hF (by simp)) (hN.fr f12 (by simp)) (qa7 hc f12 (by simp)) hm hFB hcF (λw=>qp2 k P w) (λw=>qqt k P w) (λw=>qrh B k P w) (λw' h=>qpo B n g k P w' h hn hk);obtain⟨z,hz⟩:=zex (str k);rw[<-hz]at hlk' hw1 hch ⊢;have H:=zhd5 hnm hch f12 hb2 (by rw[hP];exact f1.size:w.heap.size≤P);have HW:=zhd4 hX hw1 hP hw2;clear hnm hch f1 f2 f12 hb hb2 hF hN hk hz hX hw1 hlk hP hw2 hc hg hcF;go_enter Tryz.func9,Tryz.ntmps9;go_upto_region 2 with (go_at_call 23;rw[<-HW.o0,<-HW.o1];refine H.o0.mono ?_;rintro e w3 ⟨rfl,hw⟩;obtain rfl:=hw.symm);go_wp2_with (go_at_call 24;rw[<-HW.o2,<-HW.l3];refine H.o1.mono ?_;rintro e w4 h4;obtain⟨rfl,h5⟩:=h4;have H5:=zhd h5;clear h5);go_ret;exact⟨w2,P,H.o2,H.o3,H.l4,rfl,H5.out⟩
theorem za6 {w:World} {e:TypeId} {v:Value} {n:Nat} {xs:List Value} (h:w.ownsRow 0 e 1 v n xs) {x:Nat} (hx:v.ownBlock=some x):x<w.heap.size:=by
 rcases h.2 with⟨h1,h2⟩|⟨g,cap,cur,h1,hb,hg,_⟩
 ·rw[h1]at hx;cases hx
 ·rw[h1]at hx;obtain rfl:=qa2 hx;exact lt_of_block hg
theorem quj (F n M:Nat) (t:Nm→Option (List UInt8)) (lab:Nat→Option Lb) (k:Nm) (w:World) (h:Fs w F n M t lab) (hk:NOk k) (ht:t k=none) (hn:n<8) :
  Calls Tryz.prog 9 #[.pointer (some ⟨F,0,none⟩),.string (str k)] w λe w'=>e = .returned (.int .i64 0)∧∃lab',Fs w' F (n+1) M (upd t k (some [])) lab'∧Stp w lab w' lab':=by
 obtain⟨⟨B,las,chg,m,vs,g,h1,h2,h3,h4,h5,h6,h7,h8,h9,h10⟩,hn8,hM,hlow⟩:=h;have hFB:F≠B:=by rintro rfl;rw[h5]at h6;cases h6
 have hcF:∀x,chg.ownBlock=some x→x≠F∧x≠B:=λx hx=>by
  have:=h7 x hx;constructor
  ·rintro rfl;rw[h5]at this;cases this
  ·rintro rfl;rw[h6]at this;cases this
 refine (qui F 1048576 B n m las chg vs g k w h1 h2 (by omega) h3 (by omega) hFB hcF hk (h8 k ht)).mono ?_;rintro e w' ⟨w1,P,f1,hP,hPw,he,chg',vs',k1,k2,k3,f2,k4⟩;have hP1:=lt_of_block hP;have hPno:lab P=none:=by
  cases hl:lab P with
  | none=>rfl
  | some l=>have:=hlow P (by rw[hl];exact qbv l);omega
 have hPt:P∉F::B::chg.ownBlock.toList:=λhm=>by
  have hl:lab P≠none:=by
   simp only[qaw,Option.mem_toList]at hm;rcases hm with rfl|rfl|hm
   ·rw[h5];exact qbv _
   ·rw[h6];exact qbv _
   ·rw[h7 P hm];exact qbv _
  exact hl hPno
 have hTl:∀x∈F::B::chg.ownBlock.toList,∃l,lab x=some l∧(l = .fs∨l = .names∨l = .chg):=λx hm=>by
  simp only[qaw,Option.mem_toList]at hm;rcases hm with rfl|rfl|hm
  ·exact⟨_,h5,.inl rfl⟩
  ·exact⟨_,h6,.inr (.inl rfl)⟩
  ·exact⟨_,h7 x hm,.inr (.inr rfl)⟩
 have hold:∀x l,lab x=some l→x≠P∧(chg'.ownBlock=some x→l = .chg):=λx l hl=>by
  have hx:=hlow x (by rw[hl];exact qbv l);refine⟨by omega,λhc=>?_⟩;rcases k4 x hc with hc|hc
  ·have:=h7 x hc;rw[hl]at this;exact qa2 this
  ·have:=f1.size;omega
 obtain⟨lab',hlab⟩:∃lab':Nat→Option Lb,lab'=λx=>if x=P then some .file else if chg'.ownBlock=some x then some .chg else lab x:=⟨_,rfl⟩
 have hkeep:∀x l,lab x=some l→lab' x=some l:=λx l hl=>by
  obtain⟨a1,a2⟩:=hold x l hl;rw[hlab];simp only[if_neg a1];split
  ·next hc=>rw[a2 hc]
  ·exact hl
 have hnew:∀x,lab' x≠none→lab x≠none∨w.heap.size≤x:=λx hx=>by
  rw[hlab]at hx;simp only at hx;by_cases e1:x=P
  ·right;omega
  ·rw[if_neg e1]at hx;by_cases e2:chg'.ownBlock=some x
   ·rcases k4 x e2 with hc|hc
    ·left;rw[h7 x hc];exact qbv _
    ·right;have:=f1.size;omega
   ·rw[if_neg e2]at hx;exact .inl hx
 have f12:Fr (F::B::chg.ownBlock.toList) w w':=(f1.mono (T:=F::B::chg.ownBlock.toList) (by simp)).trans f2;refine⟨he,lab',⟨⟨B,las,chg',m+1,vs',set g k (some P),k1,k2,k3,by omega,hkeep _ _ h5,hkeep _ _ h6,λx hx=>?_,λx hx=>?_,λx bs hx=>?_,λx y p hx hy=>?_⟩,by omega,hM,λx hx=>?_⟩,⟨_,f12,λx hx=>?_⟩,hnew⟩
 ·rw[hlab];have hxP:x≠P:=by
   rintro rfl;rcases k4 x hx with hc|hc
   ·exact hPt (by simp[hc])
   ·omega
  simp only[if_neg hxP,if_pos hx]
 ·unfold upd at hx;unfold set;by_cases e:x=k
  ·rw[if_pos e]at hx;cases hx
  ·rw[if_neg e]at hx ⊢;exact h8 x hx
 ·unfold upd at hx;unfold set;by_cases e:x=k
  ·rw[if_pos e]at hx ⊢;obtain rfl:=qa2 hx;exact⟨by simp,P,none,0,0,rfl,⟨f2.blk hP hPt,.inl ⟨rfl,rfl,rfl⟩⟩,by rw[hlab];simp,by simp[blk]⟩
  ·rw[if_neg e]at hx ⊢;obtain⟨b1,p,a,c,syn,b2,b3,b4,b5⟩:=h9 x bs hx;have hpT:p∉F::B::chg.ownBlock.toList:=λhm=>by obtain⟨l,hl,hl2⟩:=hTl p hm;rw[b4]at hl;obtain rfl:=qa2 hl;rcases hl2 with h|h|h<;>cases h
   refine⟨b1,p,a,c,syn,b2,⟨f12.blk b3.1 hpT,b3.2.fr f12 (λy hy hm=>?_)⟩,hkeep _ _ b4,λy hy=>hkeep _ _ (b5 y hy)⟩;obtain⟨l,hl,hl2⟩:=hTl y hm;rw[b5 y hy]at hl;obtain rfl:=qa2 hl;rcases hl2 with h|h|h<;>cases h
 ·unfold set at hx hy;have gP:∀z,g z≠some P:=λz hz=>by
   cases htz:t z with
   | none=>rw[h8 z htz]at hz;cases hz
   | some bs=>obtain⟨_,p,a,c,syn,b2,_,b4,_⟩:=h9 z bs htz;rw[b2]at hz;obtain rfl:=qa2 hz;rw[hPno]at b4;cases b4
  by_cases e1:x=k
  ·rw[if_pos e1]at hx;obtain rfl:=qa2 hx;by_cases e2:y=k
   ·rw[e1,e2]
   ·rw[if_neg e2]at hy;exact absurd hy (gP y)
  ·rw[if_neg e1]at hx;by_cases e2:y=k
   ·rw[if_pos e2]at hy;obtain rfl:=qa2 hy;exact absurd hx (gP x)
   ·rw[if_neg e2]at hy;exact h10 x y p hx hy
 ·rw[hlab]at hx;simp only at hx;by_cases e1:x=P
  ·have:=f2.size;omega
  ·rw[if_neg e1]at hx;by_cases e2:chg'.ownBlock=some x
   ·exact za6 k3 e2
   ·rw[if_neg e2]at hx;exact qal (hlow x hx) f12.size
 ·obtain⟨l,hl,_⟩:=hTl x hx;rw[hl];exact qbv _
set_option maxRecDepth 100000
theorem qst {w w':World} {row:Option Nat} (h:w.grownBy w' row):Fr row.toList w w':=
 ⟨h.os,h.tape,h.output,h.size,λk hk hm=>h.block k hk (λe=>hm (by simp[e]))⟩
theorem zcn {key:Value} {kl:Lit} (h:keyOf Tryz.prog 9 key=some kl):∃x:Nm,key = .string (str x)∧kl = .string x:=by obtain⟨s,rfl⟩:=Maps.keyOf_string_inv Tryz.underlying9 h;have es:s=str s.data.toList:=rfl;refine⟨s.data.toList,by rw[<-es],?_⟩;rw[keyOf_string Tryz.underlying9]at h;unfold mapKey at h;simp[Tryz.underlying9]at h;first|exact h.2.symm|exact h.symm|exact ()
theorem zbx (v:Value) (y:DataW Unit×List MemPlace) (h:pR v=some y):∃c,v=pV c:=by obtain⟨q,hq,_⟩:=za9 h;exact⟨q,hq⟩
theorem qm7 (F n M:Nat) (t:Nm→Option (List UInt8)) (lab:Nat→Option Lb) (w:World) (h:Fs w F n M t lab) :
  Calls Tryz.prog 27 #[.pointer (some ⟨F,0,none⟩)] w λe w'=>(∃u:Nat,u≤n*M∧e = .returned (.int .i64 (u:Nat)))∧Fr [] w w':=by
 obtain⟨⟨B,las,chg,m,vs,g,h1,⟨D,hD,hV⟩,h3,h4,h5,h6,h7,h8,h9,h10⟩,hn8,hM,hlow⟩:=h;have c1:w.cell? ⟨F,1,none⟩=some (.map (some B)):=by rw[cell_of h1];rfl
 have hfile:∀x p,g x=some p→∃(a:Option Addr) (c:Nat) (syn:Int) (bs:List UInt8),bs.length≤M∧w.heap[p]?=some (.cells #[.slice a bs.length c,.int .i64 syn] 60 (0,0)):=λx p hp=>by
  cases htx:t x with
  | none=>rw[h8 x htx]at hp;cases hp
  | some bs=>obtain⟨b1,p',a,c,syn,b2,b3,_⟩:=h9 x bs htx;rw[hp]at b2;obtain rfl:=qa2 b2;exact⟨a,c,syn,bs,b1,b3.1⟩
 have hnM:n*M≤800000:=by have:=qm3 hn8 hM;omega
 have hsz:=hD.size_le;have H:=zhd4 hD hV hfile hsz;clear hD hV h1 h3 h4 h5 h6 h7 h8 h9 h10 hlow hfile hsz;go_enter Tryz.func27,Tryz.ntmps27;go_upto_block 0 with (at_range;refine wpList_range_own _ rfl _ 43 rfl 9 57 qft qhz pR B n D rfl H.out.1 ?_;intro w0 hrg0 hg0 hs0;have H0:=zhd3 hrg0 hg0 hs0;clear hrg0 hg0 hs0);obtain⟨r,hr⟩:=zex w.heap.size;rw[<-hr];have HR:=zhd hr;have f0:Fr [] w w0:=qst H0.o1;have hrg0:=H0.o0;rw[<-hr]at hrg0;have HG:=zhd2 hrg0 f0;clear hr c1 H0 hrg0 f0;go_wp2;go_frame;go_loopg [3] (Maps.size D) (λk s3 wr=>∃(u cnt:Nat) (left:Lit→Bool),s3 = .int .i64 (u:Nat)∧cnt≤k∧u+cnt*M≤n*M∧wr.ranges Tryz.prog 9 pR B r n D left cnt∧(∀z,left z=true→Maps.has D z=true)∧Fr [] w wr);case atStart=>exact⟨0,_,_,rfl,qag _,by rw[qbe];exact qcy _ H.out.2.2.2,HG.o0,λ_ h=>h,HG.l1⟩
 case round=>
  obtain⟨u,cnt,left,rfl,hck,hu,hrg,hleft,hf⟩:=hrel;have HL:=zhd3 hrg hleft hf;clear hrg hleft hf;have hub:u≤800000:=by omega
  go_upto_region 4 with (at_next;refine wpList_next_ranges _ rfl _ rfl 9 qft pR (λs:ByteArray=>Value.string s) pV (λkey kl h=>Maps.keyOf_string_inv Tryz.underlying9 h) zbx B r n D left cnt rfl HL.o0 ?_ ?_)
  ·intro hc0 hl0;go_wp2;go_ret;exact⟨⟨u,by omega,rfl⟩,HL.l2⟩
  ·intro x c kl a b w' cnt' hkey hlk hv hat hrg hlt hgr hsz hen;obtain⟨x',hx',rfl⟩:=zcn hkey;have hha:=HL.o1 _ hlk;obtain⟨v1,v2⟩:=H.out.2.1 x';have hgx:∃p,g x'=some p:=by
    cases hg:g x' with
    | none=>rw[v1 hg]at hha;cases hha
    | some p=>exact⟨p,rfl⟩
   obtain⟨p,hp⟩:=hgx;have hc:c=some p:=by rw[zcd]at hv;have e1:=congrArg Prod.fst (qa2 hv);simp only at e1;have e2:=hat .nil;rw[(v2 p hp).2,<-e1]at e2;exact (qv4 e2).symm
   subst hc;rw[show pV (some p) = .pointer (some ⟨p,0,none⟩) from rfl]at hen ⊢;obtain⟨fa,fc,fs,fb,hfl,hfb⟩:=H.out.2.2.1 x' p hp;have f1:Fr [] w w':=HL.l2.step (qst hgr) (λy hy=>.inr (by simp at hy;have:=HR.out;omega));have c0:w'.cell? ⟨p,0,none⟩=some (.slice fa fb.length fc):=by rw[cell_of (f1.blk hfb (by simp))];rfl
   have hmul:(cnt'+1)*M≤cnt*M:=qcy _ hlt;rw[qct,qut]at hmul;obtain⟨fl,hfl2⟩:=zex fb.length;rw[<-hfl2]at c0 hfl;have HX:=zhd3 f1 hrg (λz hz=>HL.o1 z (by simp only[qbf]at hz;exact hz.1):∀z,(left z&&!z.sameKey (.string x'))=true→Maps.has D z=true);clear hkey hlk hv hat hrg hgr hsz hha v1 v2 hp hfb f1 hfl2 hx';go_wp2;go_roundg cnt';case measure=>omega
   case rel=>exact⟨u+fl,cnt',_,by go_num,qag _,by omega,HX.o1,HX.l2,HX.o0⟩
set_option maxRecDepth 100000
theorem qup (F q B n U:Nat) (las chg:Value) (g:Nm→Option Nat) (k:Nm) (p:Nat) (a:Option Addr) (c:Nat) (syn:Int) (bs:List UInt8) (ba:Option Addr) (bc:Nat) (nb:List UInt8) (w:World) (hF:FsB w F q B las chg) (hN:Names w B n g) (hk:NOk k) (hg:g k=some p)
  (hp:FileB w p a c syn bs) (hb:lib.Rd w ba bc nb) (hu:∀w',Fr [] w w'→Calls Tryz.prog 27 #[.pointer (some ⟨F,0,none⟩)] w' λe w''=>(∃u:Nat,u≤U∧e = .returned (.int .i64 (u:Nat)))∧Fr [] w' w'')
  (hroom:nb.length+U≤q) (hq:q≤2000000) (hbl:bs.length≤1000000) (hpF:p≠F) (haF:∀x∈blk a,x≠F∧x≠p) (hbF:nb≠[]→∀x∈blk ba,x≠F) :
  Calls Tryz.prog 11 #[.pointer (some ⟨F,0,none⟩),.string (str k),.slice ba nb.length bc] w λe w'=>e = .returned (.int .i64 0)∧∃a' c',FileB w' p a' c' syn (bs++nb)∧Fr (F::p::blk a) w w'∧FsB w' F q B las chg∧∀x∈blk a',x∈blk a∨w.heap.size≤x:=by
 have hof:=qr6 F q B n las chg g k w hF hN hk;rw[hg]at hof;unfold OfP at hof;simp only at hof;obtain⟨L,hL⟩:=zex nb.length;rw[<-hL]at hroom ⊢;have hle:=hb.le;rw[<-hL]at hle;obtain⟨z,hz⟩:=zex (str k);rw[<-hz]at hof ⊢;have H:=zhd8 hof hF hp hb hu hL haF hbF;clear hof hF hp hb hu hL hz hN hk hg haF hbF;go_enter Tryz.func11,Tryz.ntmps11;go_upto_region 4 with (go_at_call 26;refine H.out.1.mono ?_;rintro e w1 ⟨rfl,f1⟩;have H1:=zhd f1;clear f1);have c0:w1.drew.cell? ⟨F,0,none⟩=some (.int .i64 q):=(show w1.cell? _=_ by rw[cell_of (H1.out.blk H.out.2.1 (by simp))];rfl);have s0:∀x,(sup [] w1.drew x).cell? ⟨F,0,none⟩=some (.int .i64 q):=λx=>(qes [] w1.drew x).cell c0 (by simp)
 refine qcj 10 [(false,0),(false,1),(false,2),(false,3),(false,4),(false,5),(false,6),(true,7),(false,8),(false,9)] [] (by kernel_rfl) (by kernel_rfl) (λ_ _ d _ _ h=>by cases d<;>exact h) ?_;simp only[qak,qap,qbh,qbi,qah,qaj,qce];refine qb9 7 rfl ?_;simp only[qai,qao,qah,qaj,qak,qap];repeat (go_big_quiet_step (fail))
 refine wpQuiet_nil ?_;clear s0 c0;refine qc5 rfl ?_;intro XX hXX;go_wp2_with (go_at_call 27;refine (H.out.2.2.2.2.1 _ (H1.out.trans (Fr.drew1 [] w1))).mono ?_;rintro e w2 ⟨⟨u,hu,rfl⟩,f2⟩);refine hXX.out _ _ f2 ?_;clear hXX XX;have H2:=zhd f2;clear f2;have g1:decide ((q:Int)-(u:Int)<(L:Int))=false:=by simp;omega
 refine qb9 2 rfl ?_;simp only[qai,qao,qah,qaj,qak,qap];repeat (go_big_quiet_step (fail))
 refine wpQuiet_nil ?_;refine qc4 ?_;have f02:Fr [] w w2:=(H1.out.trans (Fr.drew1 [] w1)).trans H2.out;have hbn:=qoa F q B las chg w2 (f02.blk H.out.2.1 (by simp));have HB:=zhd2 hbn f02;clear hbn f02;go_upto_region 9 with (go_at_call 28;refine HB.o0.mono ?_;rintro e w3 ⟨rfl,b3,f3⟩;have H3:=zhd2 b3 f3;clear b3 f3);have f03:Fr [F] w w3:=(HB.l1.mono (T:=[F]) (by simp)).trans H3.l1;obtain⟨hp1,hp2⟩:=H.out.2.2.1;obtain⟨haF,hbF⟩:=H.out.2.2.2.2.2.2;have p3:FileB w3 p a c syn bs:=⟨f03.blk hp1 (by simpa using hpF),hp2.fr f03 (λx hx=>by have:=(haF x hx).1;simpa using this)⟩;have rd3:=qji H.out.2.2.2.1 f03 (λhb x hx=>by simpa using hbF hb x hx);have c0:w3.cell? ⟨p,0,none⟩=some (.slice a bs.length c):=by rw[cell_of p3.1];rfl
 obtain⟨BL,hBL⟩:=zex bs.length;rw[<-hBL]at c0 hbl;have H4:=zhd4 p3 rd3 f03 hBL;clear p3 rd3 f03 hp1 hp2 haF hbF hBL;go_wp2_with (at_builtin;go_loud (refine qgk sliceU8 rfl _ _ rfl a BL c (bs.map bv) rfl H4.o0.2 (by rw[qa8,H4.l3]) ba L bc (nb.map bv) rfl hle H4.o1.nil H4.o1.cs (by rw[qa8,H.out.2.2.2.2.2.1]) (qev _) (by omega) (by unfold maxLen;omega) ?_;intro a4 q4 w4 A4;have p4:=A4.fr.blk H4.o0.1 (λhx=>(H.out.2.2.2.2.2.2.1 p hx).2 rfl);have d4:w4.cell? ⟨p,0,none⟩=some (.slice a bs.length c):=(by rw[cell_of p4];rfl);have z4:=qay p4 0;have H5:=zhd2 A4 p4;clear A4 p4));go_ret;obtain⟨A4,p4⟩:=H5.out;have f03:=H4.o2;have f5:Fr [p] w4 (w4.setCell ⟨p,0,none⟩ (.slice a4 (BL+L) q4)):=(Fr.refl [p] w4).setCell (by simp) _;have haF:=H.out.2.2.2.2.2.2.1;have hap:∀x∈blk a4,x∉[p]:=λx hx hm=>by
  simp only[qaz]at hm;subst hm;rcases A4.at_ x hx with h|h
  ·exact (haF x h).2 rfl
  ·have:=lt_of_block H4.o0.1;omega
 have hT:∀y,y∈[F]∨y∈[p]∨y∈blk a→y∈F::p::blk a:=λy hy=>by simp only[qaw,qby,or_false]at hy ⊢;exact hy
 refine⟨rfl,a4,q4,⟨?_,?_⟩,?_,?_,λx hx=>?_⟩
 ·rw[qab,<-H4.l3,<-H.out.2.2.2.2.2.1];exact (qa0 (o:=0) p4 _).trans rfl
 ·rw[qbt];exact A4.own.fr f5 hap
 ·exact ((f03.mono (T:=F::p::blk a) (λy hy=>.inl (hT y (.inl hy)))).trans (A4.fr.mono (T:=F::p::blk a) (λy hy=>.inl (hT y (.inr (.inr hy)))))).trans (f5.mono (T:=F::p::blk a) (λy hy=>.inl (hT y (.inr (.inl hy)))))
 ·exact f5.blk (A4.fr.blk H3.o0 (λhx=>(haF F hx).1 rfl)) (by simpa using λe=>hpF e.symm)
 ·rcases A4.at_ x hx with h|h
  ·exact .inl h
  ·exact .inr (qan f03.size h)
set_option maxRecDepth 100000
theorem quq (F n M M':Nat) (t:Nm→Option (List UInt8)) (lab:Nat→Option Lb) (k:Nm) (bs:List UInt8) (ba:Option Addr) (bc:Nat) (nb:List UInt8) (w:World) (h:Fs w F n M t lab) (hk:NOk k) (ht:t k=some bs) (hb:lib.Rd w ba bc nb) (hbl:nb≠[]→∀x∈blk ba,lab x=none)
  (hM':M≤M') (hM2:bs.length+nb.length≤M') (hM3:M'≤100000) (hroom:nb.length+n*M≤1048576) :
  Calls Tryz.prog 11 #[.pointer (some ⟨F,0,none⟩),.string (str k),.slice ba nb.length bc] w λe w'=>e = .returned (.int .i64 0)∧∃lab',Fs w' F n M' (upd t k (some (bs++nb))) lab'∧Stp w lab w' lab':=by
 have hus:∀w',Fr [] w w'→Calls Tryz.prog 27 #[.pointer (some ⟨F,0,none⟩)] w' λe w''=>(∃u:Nat,u≤n*M∧e = .returned (.int .i64 (u:Nat)))∧Fr [] w' w'':=λw' f=>qm7 F n M t lab w' (h.fr f (by simp))
 obtain⟨⟨B,las,chg,m,vs,g,h1,h2,h3,h4,h5,h6,h7,h8,h9,h10⟩,hn8,hM,hlow⟩:=h;obtain⟨b1,p,a,c,syn,b2,b3,b4,b5⟩:=h9 k bs ht;have ne:∀{x y:Nat} {l l':Lb},lab x=some l→lab y=some l'→l≠l'→x≠y:=λhx hy hl e=>by rw[e,hy]at hx;exact hl (qa2 hx).symm
 refine (qup F 1048576 B n (n*M) las chg g k p a c syn bs ba bc nb w h1 h2 hk b2 b3 hb hus hroom (by decide) (by omega) (ne b4 h5 (by intro e;cases e)) (λx hx=>⟨ne (b5 x hx) h5 (by intro e;cases e),ne (b5 x hx) b4 (by intro e;cases e)⟩) (λhnb x hx e=>by rw[e]at hx;have:=hbl hnb F hx;rw[h5]at this;cases this)).mono ?_;rintro e w' ⟨he,a',c',f1,f2,k1,k4⟩;have hTl:∀x∈F::p::blk a,∃l,lab x=some l∧(l = .fs∨l = .file∨l = .data p)∧(l = .file→x=p):=λx hm=>by
  simp only[qaw]at hm;rcases hm with rfl|rfl|hm
  ·exact⟨_,h5,.inl rfl,by intro e;cases e⟩
  ·exact⟨_,b4,.inr (.inl rfl),λ_=>rfl⟩
  ·exact⟨_,b5 x hm,.inr (.inr rfl),by intro e;cases e⟩
 obtain⟨lab',hlab⟩:∃lab':Nat→Option Lb,lab'=λx=>if x∈blk a' then some (.data p) else lab x:=⟨_,rfl⟩
 have hkeep:∀x l,lab x=some l→lab' x=some l:=λx l hl=>by
  rw[hlab];simp only;split
  ·next hm=>
   rcases k4 x hm with hc|hc
   ·rw[b5 x hc]at hl;exact hl
   ·have:=hlow x (by rw[hl];exact qbv l);omega
  ·exact hl
 have off:∀x l,lab x=some l→l≠.fs→l≠.data p→x≠p→x∉F::p::blk a:=λx l hl n1 n2 n3 hm=>by
  obtain⟨l',hl',hc,hf⟩:=hTl x hm;rw[hl]at hl';obtain rfl:=qa2 hl';rcases hc with e|e|e
  ·exact n1 e
  ·exact n3 (hf e)
  ·exact n2 e
 refine⟨he,lab',⟨⟨B,las,chg,m,vs,g,k1,h2.fr f2 (off _ _ h6 (by intro e;cases e) (by intro e;cases e) (ne h6 b4 (by intro e;cases e))),qa7 h3 f2 (λx hx=>off _ _ (h7 x hx) (by intro e;cases e) (by intro e;cases e) (ne (h7 x hx) b4 (by intro e;cases e))),h4,hkeep _ _ h5,hkeep _ _ h6,λx hx=>hkeep _ _ (h7 x hx),λx hx=>?_,λx bs' hx=>?_,h10⟩,hn8,hM3,λx hx=>?_⟩,⟨_,f2,λx hx=>?_⟩,λx hx=>?_⟩
 ·unfold upd at hx;by_cases e:x=k
  ·rw[if_pos e]at hx;cases hx
  ·rw[if_neg e]at hx;exact h8 x hx
 ·unfold upd at hx;by_cases e:x=k
  ·rw[if_pos e]at hx;obtain rfl:=qa2 hx;exact⟨by rw[qab];omega,p,a',c',syn,by rw[e];exact b2,f1,hkeep _ _ b4,λy hy=>by rw[hlab];simp only[if_pos hy]⟩
  ·rw[if_neg e]at hx;obtain⟨d1,p',a2,c2,syn2,d2,d3,d4,d5⟩:=h9 x bs' hx;have hpp:p'≠p:=λhp=>e (h10 x k p (by rw[<-hp];exact d2) b2)
   exact⟨by omega,p',a2,c2,syn2,d2,⟨f2.blk d3.1 (off _ _ d4 (by intro e;cases e) (by intro e;cases e) hpp),d3.2.fr f2 (λy hy=>off _ _ (d5 y hy) (by intro e;cases e) (by intro e;cases e;exact hpp rfl) (ne (d5 y hy) b4 (by intro e;cases e)))⟩,hkeep _ _ d4,λy hy=>hkeep _ _ (d5 y hy)⟩
 ·rw[hlab]at hx;simp only at hx;by_cases e1:x∈blk a'
  ·exact f1.2.lt x e1
  ·rw[if_neg e1]at hx;exact qal (hlow x hx) f2.size
 ·obtain⟨l,hl,_⟩:=hTl x hx;rw[hl];exact qbv _
 ·rw[hlab]at hx;simp only at hx;by_cases e1:x∈blk a'
  ·rcases k4 x e1 with hc|hc
   ·left;rw[b5 x hc];exact qbv _
   ·exact .inr hc
  ·rw[if_neg e1]at hx;exact .inl hx
set_option maxRecDepth 100000
def ReadP (w:World) (q:Option (List UInt8)) (e:Ending) (w':World):Prop:=(match q with
 | none=>e = .returned (.tuple #[.slice none 0 0,.int .i64 61])
 | some bs=>∃a,e = .returned (.tuple #[.slice a bs.length bs.length,.int .i64 0])∧lib.Rd w' a bs.length bs∧∀x∈blk a,w.heap.size≤x∧x<w'.heap.size)∧Fr [] w w'
theorem qf8 (F n M:Nat) (t:Nm→Option (List UInt8)) (lab:Nat→Option Lb) (k:Nm) (w:World) (h:Fs w F n M t lab) (hk:NOk k) :
  Calls Tryz.prog 29 #[.pointer (some ⟨F,0,none⟩),.string (str k)] w (ReadP w (t k)):=by
 have hM:=h.most;obtain⟨⟨B,las,chg,m,vs,g,h1,h2,h3,h4,h5,h6,h7,h8,h9,h10⟩,_,_,hlow⟩:=h;have hof:=qr6 F 1048576 B n las chg g k w h1 h2 hk;obtain⟨z,hz⟩:=zex (str k);rw[<-hz]at hof ⊢;cases ht:t k with
 | none=>
  rw[h8 k ht]at hof;unfold OfP at hof;have H:=zhd hof;clear hof h1 h2 h3 h4 h5 h6 h7 h8 h9 h10 hlow hz ht;go_enter Tryz.func29,Tryz.ntmps29;go_wp2_with (go_at_call 26;refine H.out.mono ?_;rintro e w1 ⟨rfl,f1⟩;have H1:=zhd f1;clear f1);go_ret2;exact⟨rfl,H1.out⟩
 | some bs=>
  obtain⟨b1,p,a,c,syn,b2,b3,b4,b5⟩:=h9 k bs ht;rw[b2]at hof;unfold OfP at hof;obtain⟨L,hL⟩:=zex bs.length;have H:=zhd3 hof b3 hL;rw[<-hL]at b1;clear hof h1 h2 h3 h4 h5 h6 h7 h8 h9 h10 hlow hz ht b2 b3 b4 b5 hL;go_enter Tryz.func29,Tryz.ntmps29;go_upto_region 4 with (go_at_call 26;refine H.out.1.mono ?_;rintro e w1 ⟨rfl,f1⟩;have H1:=zhd f1;clear f1);have p1:=H1.out.blk H.out.2.1.1 (by simp);have c0:w1.cell? ⟨p,0,none⟩=some (.slice a L c):=by rw[cell_of p1,H.out.2.2];rfl
  have hcl:=qx6 a c bs w1 (H.out.2.1.2.fr H1.out (by simp)).rd (by rw[<-H.out.2.2];omega);rw[<-H.out.2.2]at hcl;have H2:=zhd hcl;clear p1 hcl;go_wp2_with (first
   | (go_at_call 34;refine H2.out.mono ?_;rintro e w3 ⟨a3,c3,rfl,r3,l3,m3,n3,f3⟩;rw[<-H.out.2.2];rw[<-H.out.2.2]at l3;have H3:=zhd5 r3 l3 m3 n3 f3;clear r3 l3 m3 n3 f3)
   | (go_at_call 33;refine (zbr a3 L c3 w3 H3.o1 H3.o2).mono ?_;rintro e w4 ⟨rfl,hw⟩;obtain rfl:=hw.symm))
  go_ret2;refine⟨⟨a3,by rw[<-H.out.2.2];rfl,?_,λx hx=>?_⟩,H1.out.trans H3.l4⟩
  ·have r3:=H3.o0;exact⟨r3.cs,qag _,qan r3.le r3.max,λe=>by have h1:=r3.nil e;have h2:=r3.le;omega⟩
  ·have h1:=H3.o3 x hx;have h2:=H1.out.size;omega
set_option maxRecDepth 100000
theorem qox (B n:Nat) (g:Nm→Option Nat) (k k2:Nm) (P:Nat) (w:World) (hN:Names w B n g) (hn:n<1000) (hk:NOk k) (hk2:NOk k2) (hg:g k=some P) :
  Calls Tryz.prog 242 #[.agg #[.string (str k),.string (str k2)],.map (some B)] w λe w'=>e = .returned (.tuple #[])∧Names w' B (n+1) (set (set g k2 (some P)) k none)∧Fr [B] w w':=by
 have f1:Fr [] w (w.alloc (.cells #[.string (str k),.string (str k2)] 168)):=(Fr.refl [] w).alloc _;have hb:=qa4 w (.cells #[.string (str k),.string (str k2)] 168);obtain⟨X,hX⟩:=zex w.heap.size;obtain⟨w1,hw1⟩:=zex (w.alloc (.cells #[.string (str k),.string (str k2)] 168));rw[<-hw1,<-hX]at hb;rw[<-hw1]at f1;have hN1:=hN.fr f1 (by simp);have hXB:X≠B:=hN1.at_.ne hb;have c0:w1.cell? ⟨X,0,none⟩=some (.string (str k)):=by rw[cell_of hb];rfl
 have c1:w1.cell? ⟨X,1,none⟩=some (.string (str k2)):=by rw[cell_of hb];rfl
 have hlk:=hN1.look k (by have:=hk.2.1;omega);rw[hg]at hlk;have hlk':(Instr.lookup 43 (.map (some B)) (.string (str k)) false).run Tryz.prog w1 = .ok (.pointer (some ⟨P,0,none⟩)) w1:=hlk;obtain⟨w2,hst,hN2,f2⟩:=hN1.store hn k2 (by have:=hk2.2.1;omega) P;have hst':(Instr.mapUpdate 43 (.map (some B)) (.string (str k2)) (.pointer (some ⟨P,0,none⟩))).run Tryz.prog w1 = .ok () w2:=hst;have d0:w2.cell? ⟨X,0,none⟩=some (.string (str k)):=by rw[cell_of (f2.blk hb (by simpa using hXB))];rfl
 obtain⟨w3,hdel,hN3,f3⟩:=hN2.drop k (by have:=hk.2.1;omega) 0;obtain⟨z,hz⟩:=zex (str k);obtain⟨y,hy⟩:=zex (str k2);rw[<-hz]at c0 hlk' hw1 d0 hdel ⊢;rw[<-hy]at c1 hst' hw1 ⊢;have H:=zhd4 hN3 (((f1.mono (T:=[B]) (by simp)).trans f2).trans f3) hX hw1;clear hst hN hN1 hN2 hN3 f1 f2 f3 hb hX hw1 hz hy hk hk2 hg hlk hXB;go_enter Tryz.func242,Tryz.ntmps242;go_upto_region 1 with fail;rw[<-H.o2,<-H.l3];go_wp2;exact bodyPost_end (results_none rfl _ _ _) rfl ⟨rfl,H.o0,H.o1⟩
theorem qp1 (k k2:Nm) (w:World):(nilAhead (Tryz.prog.types.size+Made.depth) 168 (.agg #[.string (str k),.string (str k2)]) "stemma/fs.apply").run Tryz.prog w = .ok (some false) w:=by kernel_rfl
theorem qqs (k k2:Nm) (w:World):(method 412 168 (.agg #[.string (str k),.string (str k2)]) "stemma/fs.apply").run Tryz.prog w = .ok (242,.agg #[.string (str k),.string (str k2)]) w:=by kernel_rfl
theorem qrg (B:Nat) (k k2:Nm) (w:World):(callFunc 242 #[.agg #[.string (str k),.string (str k2)],.map (some B)]).run Tryz.prog w = .ok (.enter 242 #[.agg #[.string (str k),.string (str k2)],.map (some B)]) w:=by kernel_rfl
theorem qtq (F q B n m:Nat) (las chg:Value) (vs:List Value) (g:Nm→Option Nat) (k k2:Nm) (P:Nat) (w:World) (hF:FsB w F q B las chg) (hN:Names w B n g) (hn:n<1000) (hc:w.ownsRow 0 96 1 chg m vs) (hm:m≤1000) (hFB:F≠B) (hcF:∀x,chg.ownBlock=some x→x≠F∧x≠B) (hk:NOk k) (hk2:NOk k2) (hne:k≠k2) (hg:g k=some P) :
  Calls Tryz.prog 67 #[.pointer (some ⟨F,0,none⟩),.string (str k),.string (str k2)] w λe w'=>∃w1,Fr [] w w1∧ChP w1 F q B las chg m (n+1) (set (set g k2 (some P)) k none) e w':=by
 have f1:Fr [] w (w.alloc (.cells #[.string (str k),.string (str k2)] 9)):=(Fr.refl [] w).alloc _;have hb:=qa4 w (.cells #[.string (str k),.string (str k2)] 9);obtain⟨w1,hw1⟩:=zex (w.alloc (.cells #[.string (str k),.string (str k2)] 9));rw[<-hw1]at f1 hb;obtain⟨X,hX⟩:=zex w.heap.size;rw[<-hX]at hb;have hnm:=qnp F q B las chg X 2 [k,k2] w1 (f1.blk hF (by simp)) (λi x hi=>by
  match i,hi with
  | 0,hi=>
   obtain rfl:=qa2 hi
   rw[cell_of hb]
   rfl
  | 1,hi=>
   obtain rfl:=qa2 hi
   rw[cell_of hb]
   rfl) (λx hx=>by simp only[qaw,qby,or_false]at hx;rcases hx with rfl|rfl;exact hk;exact hk2) (by show (2:Nat)≤2;decide)
 rw[show [k,k2].length=2 from rfl]at hnm;have c1:w1.cell? ⟨F,1,none⟩=some (.map (some B)):=by rw[cell_of (f1.blk hF (by simp))];rfl
 have hlk:=(hN.fr f1 (by simp)).look k (by have:=hk.2.1;omega);rw[hg]at hlk;have hlk':(Instr.lookup 43 (.map (some B)) (.string (str k)) false).run Tryz.prog w1 = .ok (.pointer (some ⟨P,0,none⟩)) w1:=hlk;have hch:=qmx F q B n (n+1) m las chg vs g (set (set g k2 (some P)) k none) 168 (.agg #[.string (str k),.string (str k2)]) 242 w1 (f1.blk hF (by simp)) (hN.fr f1 (by simp)) (qa7 hc f1 (by simp)) hm hFB hcF (λw=>qp1 k k2 w) (λw=>qqs k k2 w) (λw=>qrg B k k2 w) (λw' h=>qox B n g k k2 P w' h hn hk hk2 hg);have hzy:((str k).toList==(str k2).toList)=false:=by rw[str_toList,str_toList];simpa using hne
 obtain⟨z,hz⟩:=zex (str k);obtain⟨y,hy⟩:=zex (str k2);rw[<-hz]at hlk' hw1 hch hzy ⊢;rw[<-hy]at hw1 hch hzy ⊢;have H:=zhd3 hnm hch f1;have HW:=zhd2 hX hw1;clear hnm hch f1 hb hF hN hk hk2 hz hy hX hw1 hlk hc hg hcF hne;go_enter Tryz.func67,Tryz.ntmps67;go_wp2_with (first
  | (go_at_call 23;rw[<-HW.o0,<-HW.l1];refine H.o0.mono ?_;rintro e w3 ⟨rfl,hw⟩;obtain rfl:=hw.symm)
  | (go_at_call 24;refine H.o1.mono ?_;rintro e w4 h4;obtain⟨rfl,h5⟩:=h4;have H5:=zhd h5;clear h5))
 go_ret;exact⟨w1,H.l2,rfl,H5.out⟩
set_option maxRecDepth 100000
theorem qtr (F n M:Nat) (t:Nm→Option (List UInt8)) (lab:Nat→Option Lb) (k k2:Nm) (bs:List UInt8) (w:World) (h:Fs w F n M t lab) (hk:NOk k) (hk2:NOk k2) (hne:k≠k2) (ht:t k=some bs) (hn:n<8) :
  Calls Tryz.prog 67 #[.pointer (some ⟨F,0,none⟩),.string (str k),.string (str k2)] w λe w'=>e = .returned (.int .i64 0)∧∃lab',Fs w' F (n+1) M (upd (upd t k2 (some bs)) k none) lab'∧Stp w lab w' lab':=by
 obtain⟨⟨B,las,chg,m,vs,g,h1,h2,h3,h4,h5,h6,h7,h8,h9,h10⟩,hn8,hM,hlow⟩:=h;obtain⟨b1,P,a,c,syn,b2,b3,b4,b5⟩:=h9 k bs ht;have ne:∀{x y:Nat} {l l':Lb},lab x=some l→lab y=some l'→l≠l'→x≠y:=λhx hy hl e=>by rw[e,hy]at hx;exact hl (qa2 hx).symm
 have hFB:F≠B:=ne h5 h6 (by intro e;cases e);have hcF:∀x,chg.ownBlock=some x→x≠F∧x≠B:=λx hx=>⟨ne (h7 x hx) h5 (by intro e;cases e),ne (h7 x hx) h6 (by intro e;cases e)⟩
 refine (qtq F 1048576 B n m las chg vs g k k2 P w h1 h2 (by omega) h3 (by omega) hFB hcF hk hk2 hne b2).mono ?_;rintro e w' ⟨w1,f1,he,chg',vs',k1,k3,k5,f2,k4⟩;have hTl:∀x∈F::B::chg.ownBlock.toList,∃l,lab x=some l∧(l = .fs∨l = .names∨l = .chg):=λx hm=>by
  simp only[qaw,Option.mem_toList]at hm;rcases hm with rfl|rfl|hm
  ·exact⟨_,h5,.inl rfl⟩
  ·exact⟨_,h6,.inr (.inl rfl)⟩
  ·exact⟨_,h7 x hm,.inr (.inr rfl)⟩
 have f12:Fr (F::B::chg.ownBlock.toList) w w':=(f1.mono (T:=F::B::chg.ownBlock.toList) (by simp)).trans f2;obtain⟨lab',hlab⟩:∃lab':Nat→Option Lb,lab'=λx=>if chg'.ownBlock=some x then some .chg else lab x:=⟨_,rfl⟩
 have hkeep:∀x l,lab x=some l→lab' x=some l:=λx l hl=>by
  rw[hlab];simp only;split
  ·next hc=>
   rcases k4 x hc with hc|hc
   ·rw[h7 x hc]at hl;exact hl
   ·have:=hlow x (by rw[hl];exact qbv l);have:=f1.size;omega
  ·exact hl
 have off:∀x l,lab x=some l→l≠.fs→l≠.names→l≠.chg→x∉F::B::chg.ownBlock.toList:=λx l hl n1 n2 n3 hm=>by
  obtain⟨l',hl',hc⟩:=hTl x hm;rw[hl]at hl';obtain rfl:=qa2 hl';rcases hc with e|e|e
  ·exact n1 e
  ·exact n2 e
  ·exact n3 e
 have keepF:∀x bs',t x=some bs'→bs'.length≤M∧∃p a c syn,g x=some p∧FileB w' p a c syn bs'∧lab' p=some .file∧∀y∈blk a,lab' y=some (.data p):=λx bs' hx=>by obtain⟨d1,p',a2,c2,syn2,d2,d3,d4,d5⟩:=h9 x bs' hx;exact⟨d1,p',a2,c2,syn2,d2,⟨f12.blk d3.1 (off _ _ d4 (by intro e;cases e) (by intro e;cases e) (by intro e;cases e)),d3.2.fr f12 (λy hy=>off _ _ (d5 y hy) (by intro e;cases e) (by intro e;cases e) (by intro e;cases e))⟩,hkeep _ _ d4,λy hy=>hkeep _ _ (d5 y hy)⟩
 have gk:∀x p,set (set g k2 (some P)) k none x=some p→x≠k∧((x=k2∧p=P)∨(x≠k2∧g x=some p)):=λx p hx=>by
  unfold set at hx;by_cases e1:x=k
  ·rw[if_pos e1]at hx;cases hx
  ·rw[if_neg e1]at hx;by_cases e2:x=k2
   ·rw[if_pos e2]at hx;exact⟨e1,.inl ⟨e2,(qa2 hx).symm⟩⟩
   ·rw[if_neg e2]at hx;exact⟨e1,.inr ⟨e2,hx⟩⟩
 refine⟨he,lab',⟨⟨B,las,chg',m+1,vs',_,k1,k3,k5,by omega,hkeep _ _ h5,hkeep _ _ h6,λx hx=>by rw[hlab];simp only[if_pos hx],λx hx=>?_,λx bs' hx=>?_,λx y p hx hy=>?_⟩,by omega,hM,λx hx=>?_⟩,⟨_,f12,λx hx=>?_⟩,λx hx=>?_⟩
 ·unfold upd at hx;unfold set;by_cases e1:x=k
  ·rw[if_pos e1]
  ·rw[if_neg e1]at hx ⊢;by_cases e2:x=k2
   ·rw[if_pos e2]at hx;cases hx
   ·rw[if_neg e2]at hx ⊢;exact h8 x hx
 ·unfold upd at hx;unfold set;by_cases e1:x=k
  ·rw[if_pos e1]at hx;cases hx
  ·rw[if_neg e1]at hx ⊢;by_cases e2:x=k2
   ·rw[if_pos e2]at hx ⊢;obtain rfl:=qa2 hx;have:=keepF k bs ht;rw[b2]at this;exact this
   ·rw[if_neg e2]at hx ⊢;exact keepF x bs' hx
 ·obtain⟨x1,hx⟩:=gk x p hx;obtain⟨y1,hy⟩:=gk y p hy;rcases hx with⟨x2,x3⟩|⟨x2,x3⟩
  ·rcases hy with⟨y2,y3⟩|⟨y2,y3⟩
   ·rw[x2,y2]
   ·rw[x3]at y3;exact absurd (h10 y k P y3 b2) y1
  ·rcases hy with⟨y2,y3⟩|⟨y2,y3⟩
   ·rw[y3]at x3;exact absurd (h10 x k P x3 b2) x1
   ·exact h10 x y p x3 y3
 ·rw[hlab]at hx;simp only at hx;by_cases e1:chg'.ownBlock=some x
  ·exact za6 k5 e1
  ·rw[if_neg e1]at hx;exact qal (hlow x hx) f12.size
 ·obtain⟨l,hl,_⟩:=hTl x hx;rw[hl];exact qbv _
 ·rw[hlab]at hx;simp only at hx;by_cases e1:chg'.ownBlock=some x
  ·rcases k4 x e1 with hc|hc
   ·left;rw[h7 x hc];exact qbv _
   ·right;have:=f1.size;omega
  ·rw[if_neg e1]at hx;exact .inl hx
set_option maxRecDepth 100000
theorem qqg (F n M:Nat) (t:Nm→Option (List UInt8)) (lab:Nat→Option Lb) (k:Nm) (w:World) (h:Fs w F n M t lab) (hk:NOk k) (ht:t k=none) :
  Calls Tryz.prog 65 #[.pointer (some ⟨F,0,none⟩),.string (str k)] w λe w'=>e = .returned (.int .i64 61)∧Fr [] w w':=by
 obtain⟨⟨B,las,chg,m,vs,g,h1,h2,h3,h4,h5,h6,h7,h8,h9,h10⟩,_,_,hlow⟩:=h;have hof:=qr6 F 1048576 B n las chg g k w h1 h2 hk;rw[h8 k ht]at hof;unfold OfP at hof;obtain⟨z,hz⟩:=zex (str k);rw[<-hz]at hof ⊢;have H:=zhd hof;clear hof h1 h2 h3 h4 h5 h6 h7 h8 h9 h10 hlow hz ht;go_enter Tryz.func65,Tryz.ntmps65;go_wp2_with (go_at_call 26;refine H.out.mono ?_;rintro e w1 ⟨rfl,f1⟩;have H1:=zhd f1;clear f1);go_ret;exact⟨rfl,H1.out⟩
theorem qy1 (F n M:Nat) (t:Nm→Option (List UInt8)) (lab:Nat→Option Lb) (k:Nm) (bs:List UInt8) (w:World) (h:Fs w F n M t lab) (hk:NOk k) (ht:t k=some bs) :
  Calls Tryz.prog 66 #[.pointer (some ⟨F,0,none⟩),.string (str k)] w λe w'=>e = .returned (.int .i64 0)∧Fs w' F n M t lab∧Stp w lab w' lab:=by
 obtain⟨⟨B,las,chg,m,vs,g,h1,h2,h3,h4,h5,h6,h7,h8,h9,h10⟩,hn8,hM,hlow⟩:=h;obtain⟨b1,p,a,c,syn,b2,b3,b4,b5⟩:=h9 k bs ht;have ne:∀{x y:Nat} {l l':Lb},lab x=some l→lab y=some l'→l≠l'→x≠y:=λhx hy hl e=>by rw[e,hy]at hx;exact hl (qa2 hx).symm
 have hpF:p≠F:=ne b4 h5 (by intro e;cases e);have hof:=qr6 F 1048576 B n las chg g k w h1 h2 hk;rw[b2]at hof;unfold OfP at hof;have hraw:Calls Tryz.prog 66 #[.pointer (some ⟨F,0,none⟩),.string (str k)] w λe w'=>e = .returned (.int .i64 0)∧FileB w' p a c (bs.length:Nat) bs∧FsB w' F 1048576 B las chg∧Fr [F,p] w w':=by
  obtain⟨z,hz⟩:=zex (str k);rw[<-hz]at hof ⊢;have haF:∀x∈blk a,x≠F∧x≠p:=λx hx=>⟨ne (b5 x hx) h5 (by intro e;cases e),ne (b5 x hx) b4 (by intro e;cases e)⟩
  obtain⟨L,hL⟩:=zex bs.length;have H:=zhd5 hof h1 b3 haF hL;clear hof h1 h2 h3 h4 h5 h6 h7 h8 h9 h10 hlow hz ht b2 b3 b4 b5 haF ne;rw[<-hL]at b1 ⊢;clear hL;go_enter Tryz.func66,Tryz.ntmps66;go_upto_region 3 with (go_at_call 26;refine H.o0.mono ?_;rintro e w1 ⟨rfl,f1⟩;have H1:=zhd f1;clear f1);have hbn:=qoa F 1048576 B las chg w1 (H1.out.blk H.o1 (by simp));have HB:=zhd hbn;clear hbn;go_upto_region 5 with (go_at_call 28;refine HB.out.mono ?_;rintro e w3 ⟨rfl,b3,f3⟩;have H3:=zhd2 b3 f3;clear b3 f3);have f13:Fr [F] w w3:=(H1.out.mono (T:=[F]) (by simp)).trans H3.l1;have p3:=f13.blk H.o2.1 (by simpa using hpF);have c0:w3.cell? ⟨p,0,none⟩=some (.slice a L c):=by rw[cell_of p3,H.l4];rfl
  have c1:w3.cell? ⟨p,1,none⟩=some (.int .i64 syn):=by rw[cell_of p3];rfl
  have z1:=qay p3 1;have H4:=zhd2 f13 p3;clear f13 p3;go_wp2;go_ret;obtain⟨f13,p3⟩:=H4.out;have f5:Fr [p] w3 (w3.setCell ⟨p,1,none⟩ (.int .i64 L)):=(Fr.refl [p] w3).setCell (by simp) _;have hT:Fr [F,p] w (w3.setCell ⟨p,1,none⟩ (.int .i64 L)):=(f13.mono (T:=[F,p]) (λy hy=>.inl (by simp at hy ⊢;exact .inl hy))).trans (f5.mono (T:=[F,p]) (λy hy=>.inl (by simp at hy ⊢;exact .inr hy)));refine⟨rfl,⟨(qa0 (o:=1) p3 _).trans rfl,H.o2.2.fr hT (λx hx=>by have:=H.o3 x hx;simpa using this)⟩,f5.blk H3.o0 (by simpa using λe=>hpF e.symm),hT⟩
 refine hraw.mono ?_;rintro e w' ⟨he,k1,k2,f⟩;have off:∀x l,lab x=some l→l≠.fs→x≠p→x∉[F,p]:=λx l hl n1 n2 hm=>by
  simp only[qaw,qby,or_false]at hm;rcases hm with rfl|rfl
  ·rw[h5]at hl;exact n1 (qa2 hl).symm
  ·exact n2 rfl
 refine⟨he,⟨⟨B,las,chg,m,vs,g,k2,h2.fr f (off _ _ h6 (by intro e;cases e) (ne h6 b4 (by intro e;cases e))),qa7 h3 f (λx hx=>off _ _ (h7 x hx) (by intro e;cases e) (ne (h7 x hx) b4 (by intro e;cases e))),h4,h5,h6,h7,h8,λx bs' hx=>?_,h10⟩,hn8,hM,λx hx=>qal (hlow x hx) f.size⟩,⟨_,f,λx hx=>?_⟩,λx hx=>.inl hx⟩
 ·by_cases e:x=k
  ·subst e;rw[ht]at hx;obtain rfl:=qa2 hx;exact⟨b1,p,a,c,_,b2,k1,b4,b5⟩
  ·obtain⟨d1,p',a2,c2,syn2,d2,d3,d4,d5⟩:=h9 x bs' hx;have hpp:p'≠p:=λhp=>e (h10 x k p (by rw[<-hp];exact d2) b2)
   exact⟨d1,p',a2,c2,syn2,d2,⟨f.blk d3.1 (off _ _ d4 (by intro e;cases e) hpp),d3.2.fr f (λy hy=>off _ _ (d5 y hy) (by intro e;cases e) (ne (d5 y hy) b4 (by intro e;cases e)))⟩,d4,d5⟩
 ·simp only[qaw,qby,or_false]at hx;rcases hx with rfl|rfl
  ·rw[h5];exact qbv _
  ·rw[b4];exact qbv _
end Go.Proofs.YtbabjlohkniciaaGreatDoor.fs
namespace Go.Proofs
open Go.Shelf
def Tryz.keysI_ren:Go.Shelf.Ren:=⟨fun|7=>107|10=>155|n=>n,fun|23=>43|26=>9|3=>57|28=>172|0=>0|27=>171|33=>41|4=>4|n=>n,fun|n=>n⟩
theorem Tryz.keysI:Go.Proofs.SlLaysZ.n7 Tryz.prog Tryz.keysI_ren:={
 mixed:=by kernel_rfl
 f7:=⟨Tryz.f107.name,by decide,Tryz.func107.trans (congrArg some (by kernel_rfl))⟩
 f10:=⟨Tryz.f155.name,by decide,Tryz.func155.trans (congrArg some (by kernel_rfl))⟩
 t0:=Tryz.underlying0
 a0:=Tryz.isAgg0
 z0:=Tryz.sizeOf0
 v0:=Tryz.zeroValue0
 t4:=Tryz.underlying4
 a4:=Tryz.isAgg4
 z4:=Tryz.sizeOf4
 v4:=Tryz.zeroValue4
 t23:=Tryz.underlying43
 a23:=Tryz.isAgg43
 z23:=Tryz.sizeOf43
 v23:=Tryz.zeroValue43
 t26:=Tryz.underlying9
 a26:=Tryz.isAgg9
 z26:=Tryz.sizeOf9
 v26:=Tryz.zeroValue9
 t27:=Tryz.underlying171
 a27:=Tryz.isAgg171
 z27:=Tryz.sizeOf171
 v27:=Tryz.zeroValue171
 t28:=Tryz.underlying172
 a28:=Tryz.isAgg172
 z28:=Tryz.sizeOf172
 v28:=Tryz.zeroValue172
 t33:=Tryz.underlying41
 a33:=Tryz.isAgg41
 z33:=Tryz.sizeOf41
 v33:=Tryz.zeroValue41 }
def Tryz.sortedI_ren:Go.Shelf.Ren:=⟨fun|6=>106|8=>154|9=>43|11=>189|13=>78|12=>77|23=>123|24=>124|14=>114|15=>115|16=>116|17=>117|18=>118|19=>119|20=>120|21=>121|22=>122|25=>161|26=>162|27=>163|28=>164|29=>165|30=>166|31=>191|n=>n,fun|26=>9|28=>172|24=>49|0=>0|3=>3|37=>87|48=>90|50=>88|4=>4|40=>178|39=>177|45=>182|5=>5|9=>9|51=>237|55=>241|57=>268|58=>262|33=>41|n=>n,fun|n=>n⟩
theorem Tryz.sortedI:Go.Proofs.SlLaysZ.n6 Tryz.prog Tryz.sortedI_ren:={
 mixed:=by kernel_rfl
 f6:=⟨Tryz.f106.name,by decide,Tryz.func106.trans (congrArg some (by kernel_rfl))⟩
 f8:=⟨Tryz.f154.name,by decide,Tryz.func154.trans (congrArg some (by kernel_rfl))⟩
 f11:=⟨Tryz.f189.name,by decide,Tryz.func189.trans (congrArg some (by kernel_rfl))⟩
 t0:=Tryz.underlying0
 a0:=Tryz.isAgg0
 z0:=Tryz.sizeOf0
 v0:=Tryz.zeroValue0
 t24:=Tryz.underlying49
 a24:=Tryz.isAgg49
 z24:=Tryz.sizeOf49
 v24:=Tryz.zeroValue49
 t26:=Tryz.underlying9
 a26:=Tryz.isAgg9
 z26:=Tryz.sizeOf9
 v26:=Tryz.zeroValue9
 t28:=Tryz.underlying172
 a28:=Tryz.isAgg172
 z28:=Tryz.sizeOf172
 v28:=Tryz.zeroValue172
 i26:=by kernel_rfl }
def Tryz.cloneI_ren:Go.Shelf.Ren:=⟨fun|5=>68|7=>105|n=>n,fun|23=>43|25=>9|3=>57|4=>4|20=>20|n=>n,fun|n=>n⟩
theorem Tryz.cloneI:Go.Proofs.SlLaysW.n5 Tryz.prog Tryz.cloneI_ren:={
 mixed:=by kernel_rfl
 f5:=⟨Tryz.f68.name,by decide,Tryz.func68.trans (congrArg some (by kernel_rfl))⟩
 f7:=Tryz.func105.trans (congrArg some (by kernel_rfl))
 t4:=Tryz.underlying4
 a4:=Tryz.isAgg4
 z4:=Tryz.sizeOf4
 v4:=Tryz.zeroValue4
 t20:=Tryz.underlying20
 a20:=Tryz.isAgg20
 z20:=Tryz.sizeOf20
 v20:=Tryz.zeroValue20
 t23:=Tryz.underlying43
 a23:=Tryz.isAgg43
 z23:=Tryz.sizeOf43
 v23:=Tryz.zeroValue43 }
theorem Tryz.sortsI (m:Nat):AnyZ.SortsIn Tryz.prog Tryz.sortedI_ren Fence.wide m:=
 ⟨λblk off cap ss W hH hblk hsz=>callsIn_wide.2 (Tryz.slices_Sort_string blk off cap ss W hH hblk hsz),
  λp cap W=>callsIn_wide.2 (Any.slices_Sort_string_none Tryz.lays190 p cap W)⟩
end Go.Proofs
namespace Go.Proofs.YtbabjlohkniciaaGreatDoor.fs
open Go Go.RowKit lib pk
set_option maxRecDepth 100000
theorem qtc (F n M:Nat) (t:Nm→Option (List UInt8)) (lab:Nat→Option Lb) (w:World) (h:Fs w F n M t lab) :
  Calls Tryz.prog 39 #[.pointer (some ⟨F,0,none⟩)] w λe w'=>e = .returned (.int .i64 0)∧Fs w' F n M t lab∧Stp w lab w' lab:=by
 obtain⟨⟨B,las,chg,m,vs,g,h1,h2,h3,h4,h5,h6,h7,h8,h9,h10⟩,hn8,hM,hlow⟩:=h;have hFB:F≠B:=by rintro rfl;rw[h5]at h6;cases h6
 have hraw:Calls Tryz.prog 39 #[.pointer (some ⟨F,0,none⟩)] w λe w'=>e = .returned (.int .i64 0)∧∃las',FsB w' F 1048576 B las' (.slice none 0 0)∧Fr [F] w w':=by
  have hbn:=qoa F 1048576 B las chg w h1;have c5:w.cell? ⟨F,5,none⟩=some (.bool false):=by rw[cell_of h1];rfl
  have H:=zhd3 hbn h2.at_ hFB;clear hbn h1 h2 h3 h4 h5 h6 h7 h8 h9 h10 hlow hFB;go_enter Tryz.func39,Tryz.ntmps39;go_upto_region 6 with (go_at_call 28;refine H.out.1.mono ?_;rintro e w1 ⟨rfl,b1,f1⟩;have H1:=zhd2 b1 f1;clear b1 f1);have c1:w1.cell? ⟨F,1,none⟩=some (.map (some B)):=by rw[cell_of H1.o0];rfl
  obtain⟨es,clock,hm⟩:=H.out.2.1;have hm:=H1.l1.blk hm (by simpa using λe=>H.out.2.2 e.symm);have hcl:Calls Tryz.prog 68 #[.map (some B)] w1 λe w'=>∃x,e = .returned (.map (some x))∧FsB w' F 1048576 B las chg∧Fr [] w1 w':=(AnyW.maps_Clone Tryz.cloneI B es clock w1 hm).mono λe w' ⟨he,hw⟩=>⟨_,he,by rw[hw];exact ((Fr.refl [] w1).alloc _).blk H1.o0 (by simp),by rw[hw];exact (Fr.refl [] w1).alloc _⟩
  have HC:=zhd hcl;clear hcl hm c5;go_wp2_with (go_at_call 68;refine HC.out.mono ?_;rintro e w2 ⟨x,rfl,b2,f2⟩;have z2:=qay b2 2;have z3:=qay b2 3;have d2:w2.cell? ⟨F,2,none⟩=some las:=(by rw[cell_of b2];rfl);have d3:w2.cell? ⟨F,3,none⟩=some chg:=(by rw[cell_of b2];rfl);have H2:=zhd2 b2 f2;clear b2 f2);go_ret;obtain⟨b2,f2⟩:=H2.out;refine⟨rfl,_,(qa0 (o:=3) (qa0 (o:=2) b2 _) _).trans rfl,?_⟩;exact (((H1.l1.trans (f2.mono (by simp))).setCell (by simp) _).setCell (by simp) _)
 refine hraw.mono ?_;rintro e w' ⟨he,las',k1,f⟩;have off:∀x l,lab x=some l→l≠.fs→x∉[F]:=λx l hl n1 hm=>by simp only[qaz]at hm;rw[hm,h5]at hl;exact n1 (qa2 hl).symm
 refine⟨he,⟨⟨B,las',.slice none 0 0,0,[],g,k1,h2.fr f (off _ _ h6 (by intro e;cases e)),qch _ _ _ _,qba _,h5,h6,(λx hx=>by cases hx),h8,λx bs' hx=>?_,h10⟩,hn8,hM,λx hx=>qal (hlow x hx) f.size⟩,⟨_,f,λx hx=>?_⟩,λx hx=>.inl hx⟩
 ·obtain⟨d1,p',a2,c2,syn2,d2,d3,d4,d5⟩:=h9 x bs' hx;exact⟨d1,p',a2,c2,syn2,d2,⟨f.blk d3.1 (off _ _ d4 (by intro e;cases e)),d3.2.fr f (λy hy=>off _ _ (d5 y hy) (by intro e;cases e))⟩,d4,d5⟩
 ·simp only[qaz]at hx;rw[hx,h5];exact qbv _
def Lst (t:Nm→Option (List UInt8)) (ss:List Nm):Prop:=ss.Nodup∧ss.Pairwise (·≤·)∧∀x,x∈ss↔t x≠none
theorem qvd (x:Nm):encStr x = .string (str x):=rfl
theorem qth {n:Nat} {t:Nm→Option (List UInt8)} {g:Nm→Option Nat} {w:World} {B:Nat} {D:DataW Unit} (hD:w.ownsMap Tryz.prog 9 pR B n D) (hV:MView D g) (hg:∀x,t x≠none↔g x≠none) {ss:List Nm} (hp:ss.Perm (strKeys D)) :
  Lst t (ss.mergeSort λx y=>decide (x≤y))∧(ss.mergeSort λx y=>decide (x≤y)).length=ss.length∧ss.length≤n:=by
 obtain⟨es,hD1,hpw,_⟩:=hD.entries qft;obtain⟨es',hD',hko⟩:=hD.keysOf;have hsz:=hD.size_le;obtain rfl:es=es':=by rw[hD1]at hD';simpa using hD'
 subst hD1;have hk:∀p∈es,∃x,p.1 = .string x:=λp hp=>by obtain⟨v,hv⟩:=hko p hp;obtain⟨x,_,hx,_⟩:=Maps.keyOf_str Tryz.underlying9 hv;exact⟨x,hx⟩
 have hnd:(strKeys (.map es)).Nodup:=by show (es.map λp=>strOf p.1).Nodup;refine List.pairwise_map.2 (hpw.imp_of_mem λ{p q} hp' hq' hne e=>hne ?_);obtain⟨a,ha⟩:=hk p hp';obtain⟨b,hb⟩:=hk q hq';rw[ha,hb]at e ⊢;exact congrArg _ e
 have hm:∀x,x∈strKeys (.map es)↔Maps.has (.map es) (.string x)=true:=λx=>by
  rw[Maps.has_eq,List.any_eq_true];show x∈es.map (λp=>strOf p.1)↔_;rw[qb8];constructor
  ·rintro⟨p,hp',rfl⟩;obtain⟨a,ha⟩:=hk p hp';exact⟨p,hp',by rw[ha];simp[Lit.sameKey,strOf]⟩
  ·rintro⟨p,hp',hs⟩;obtain⟨a,ha⟩:=hk p hp';rw[ha]at hs;exact⟨p,hp',by rw[ha];simpa[Lit.sameKey,strOf] using hs⟩
 have pm:=List.mergeSort_perm ss λx y=>decide (x≤y)
 have pm2:=pm.trans hp;have tr:∀a b c:List UInt8,decide (a≤b)=true→decide (b≤c)=true→decide (a≤c)=true:=λa b c h1 h2=>by simp only[decide_eq_true_eq]at *;exact List.le_trans h1 h2
 have tt:∀a b:List UInt8,(decide (a≤b)||decide (b≤a))=true:=λa b=>by simp only[Bool.or_eq_true,decide_eq_true_eq];exact List.le_total a b
 refine⟨⟨pm2.nodup_iff.2 hnd,(List.pairwise_mergeSort tr tt ss).imp (λh=>of_decide_eq_true h),λx=>?_⟩,pm.length_eq,?_⟩
 ·rw[pm2.mem_iff,hm x,hg x];obtain⟨v1,v2⟩:=hV x;cases hgx:g x with
  | none=>rw[v1 hgx];simp
  | some p=>rw[(v2 p hgx).1];simp
 ·rw[hp.length_eq];show (es.map λp=>strOf p.1).length≤n;rw[qa8];exact hsz
theorem qwd {t:Nm→Option (List UInt8)} {g:Nm→Option Nat} (h8:∀k,t k=none→g k=none) (h9:∀k bs,t k=some bs→∃p,g k=some p) (x:Nm):t x≠none↔g x≠none:=by
 cases htx:t x with
 | none=>rw[h8 x htx];simp
 | some bs=>obtain⟨p,hp⟩:=h9 x bs htx;rw[hp];simp
theorem qti (F n M:Nat) (t:Nm→Option (List UInt8)) (lab:Nat→Option Lb) (w:World) (h:Fs w F n M t lab) :
  Calls Tryz.prog 69 #[.pointer (some ⟨F,0,none⟩)] w λe w'=>∃v ss,e = .returned v∧Lst t ss∧ss.length≤n∧w'.ownsRow w.heap.size 9 1 v ss.length (ss.map encStr)∧Fr [] w w':=by
 obtain⟨⟨B,las,chg,m,vs,g,h1,⟨D,hD,hV⟩,h3,h4,h5,h6,h7,h8,h9,h10⟩,hn8,hM,hlow⟩:=h;have c1:w.cell? ⟨F,1,none⟩=some (.map (some B)):=by rw[cell_of h1];rfl
 have hg:=qwd h8 (λk bs hk=>by obtain⟨_,p,_,_,_,hp,_⟩:=h9 k bs hk;exact⟨p,hp⟩);have hsz:=hD.size_le;have H:=zhd4 hD hV hg hsz;clear h1 hD hV h3 h4 h5 h6 h7 h8 h9 h10 hlow hg hsz;have hbl:=H.out.1.lt;have hseq:SeqGives Fence.wide 2 Tryz.prog 155 #[.pointer (some ⟨w.heap.size,0,none⟩)] encStr (λss=>ss.Perm (strKeys D)) (Maps.size D) (w.alloc (.cells #[.map (some B)] 43)):=
  AnyZ.keys_gives (ρ:=Tryz.keysI_ren) { Tryz.keysI with } Fence.wide _ trivial rfl (by omega) w.heap.size B n D _ (by simp) (by simp) (by
   obtain⟨es,clock,hb,Ft,hs,hD⟩:=H.out.1
   exact⟨es,clock,(Below.heap_alloc _ _ B hbl).trans hb,Ft,hs,hD⟩)
 have hso:=AnyZ.sorted_in Tryz.sortedI Fence.wide 5 trivial trivial trivial trivial rfl (by omega) (Tryz.sortsI _) (enters_of Tryz.func43 (by kernel_rfl) rfl) 155 #[.pointer (some ⟨w.heap.size,0,none⟩)] trivial (enters_of Tryz.func155 (by kernel_rfl) rfl) _ _ (by unfold maxLen;have:=H.out.2.2.2;omega) (by have:=H.out.2.2.2;omega) _ hseq;have hke:CallsIn Fence.wide 5 Tryz.prog 107 #[.map (some B)] w λe w'=>e = .returned (.func (.func 155) #[] #[.pointer (some ⟨w.heap.size,0,none⟩)])∧w'=w.alloc (.cells #[.map (some B)] 43):=AnyZ.keys_in Tryz.keysI Fence.wide 5 trivial rfl (some B) w
 have hso:CallsIn Fence.wide 5 Tryz.prog 106 #[.func (.func 155) #[] #[.pointer (some ⟨w.heap.size,0,none⟩)]] (w.alloc (.cells #[.map (some B)] 43)) λe w'=>∃(v:Value) (ss:List (List UInt8)),e = .returned v∧ss.Perm (strKeys D)∧
   w'.ownsRow (w.alloc (.cells #[.map (some B)] 43)).heap.size 9 1 v ss.length ((ss.mergeSort (λx y=>decide (x≤y))).map encStr)∧(v = .slice none 0 0↔ss=[])∧Below (w.alloc (.cells #[.map (some B)] 43)).heap.size (w.alloc (.cells #[.map (some B)] 43)) w':=hso
 have HS:=zhd2 hke hso;clear hso hke hseq hbl;refine (callsIn_wide (n:=6)).1 ?_;have hfK:Fence.wide.fn 107:=trivial;have hfS:Fence.wide.fn 106:=trivial;refine callsIn_of_wp Tryz.func69 rfl trivial ?_ rfl;simp only[Tryz.ntmps69,List.size_toArray,qam,qbb,Nat.reduceAdd,Nat.reduceSub,Array.replicate_succ,Array.replicate_zero,List.push_toArray,List.append_toArray,qck,qc3];gi_wp2_with (first
  | (gi_at_call 107;refine HS.o0.mono ?_;rintro e w' ⟨rfl,rfl⟩)
  | (gi_at_call 106;refine HS.l1.mono ?_;rintro e w' ⟨v,ss,rfl,hS,hrow,hnil,hb⟩))
 go_ret;have hl:=qth H.out.1 H.out.2.1 H.out.2.2.1 hS;exact⟨v,_,rfl,hl.1,by rw[hl.2.1];exact hl.2.2,by rw[hl.2.1];exact ownsRow_base_a hrow (by simp),((Fr.refl [] w).alloc _).trans (Fr.of_below hb [])⟩
end Go.Proofs.YtbabjlohkniciaaGreatDoor.fs
