/-
  Texts of this proof, one behind the other: GraphL, GraphK, GraphT, SortS, GraphC, RepoS, RepoM, RepoJ, RepoC.
-/
import Derived.Test.YticadfhpolhkeaaGreatDoorQ25
set_option maxHeartbeats 16000000
set_option maxRecDepth 100000
set_option linter.unusedVariables false
set_option linter.unusedSimpArgs false
namespace Go.Proofs.YticadfhpolhkeaaGreatDoor
namespace ob
open Go Go.RowKit lib fs lo
set_option maxRecDepth 100000
def mG (obj:LB) (ty:Int) (nm tg msg:LB):Value:=.iface 168 (.agg #[.string (str obj),.int .i64 ty,.string (str nm),.string (str tg),.string (str msg)])
theorem NP (obj:ByteArray) (ty:Int) (nm tg msg:ByteArray) (w:World):Calls Tryz.prog 428 #[.agg #[.string obj,.int .i64 ty,.string nm,.string tg,.string msg]] w λe w'=>e = .returned (.int .i64 4)/\Fr [] w w':=by go_enter Tryz.func428,Tryz.ntmps428;go_wp2;go_ret;exact⟨rfl,by first|exact Fr.refl _ _|exact (Fr.refl [] w).alloc _⟩
theorem Xg (a:OA) (n c:Nat) (w:World) (hle:n<=c) (dE:c<=maxLen):Calls Tryz.prog 426 #[.slice a n c] w λe w'=>e = .returned (.slice a n n)/\w'=w:=by
 go_enter Tryz.func426,Tryz.ntmps426;go_wp2;all_goals go_ret
 all_goals exact⟨by first|rfl|simp,rfl⟩
theorem GN (tid:ByteArray) (pa:OA) (au co msg:ByteArray) (w:World):Calls Tryz.prog 425 #[.agg #[.string tid,.slice pa 0 0,.string au,.string co,.string msg]] w λe w'=>∃la,e = .returned (.slice la 1 1)/\Cs w' la [.string tid,.int .i64 2]/\Fr [] w w':=by
 go_enter Tryz.func425,Tryz.ntmps425;go_wp2;obtain⟨w1,aJ⟩:=ah ((w.alloc (.cells #[.string tid,.slice pa 0 0,.string au,.string co,.string msg] 132)).alloc (.cells #[.string tid,.int .i64 2] 364));obtain⟨B,hB⟩:=ah (w.heap.size+1);have k1:Cs w1 (some ⟨B,0,none⟩) [.string tid,.int .i64 2]:=by have e:(w.alloc (.cells #[.string tid,.slice pa 0 0,.string au,.string co,.string msg] 132)).heap.size=w.heap.size+1:=ik _ _;rw[aJ,hB,<-e];exact oC _ _ _ _
 have H:=ai k1 (show Fr [] w w1 by rw[aJ];exact ((Fr.refl [] w).alloc _).alloc _);rw[<-aJ,<-hB];clear aJ hB k1;go_loopg [3,13] 0 (λk s3 s13 wr=>s3 = .slice (some ⟨B,0,none⟩) 1 1/\s13 = .int .i64 0/\wr=w1);case atStart=>exact⟨rfl,rfl,rfl⟩
 case round=>obtain⟨rfl,rfl,rfl⟩:=hrel;go_wp2_with (go_at_call 426;refine (Xg _ _ _ _ (by omega) (by unfold maxLen;omega)).mono ?_;rintro e w8 ⟨rfl,hw⟩;obtain rfl:=hw.symm);go_ret;exact⟨_,rfl,H.out⟩
theorem ED (w:World):Calls Tryz.prog 432 #[.agg #[.slice none 0 0]] w λe w'=>e = .returned (.slice none 0 0)/\Fr [] w w':=by
 go_enter Tryz.func432,Tryz.ntmps432;go_wp2;obtain⟨w1,aJ⟩:=ah (w.alloc (.cells #[.slice none 0 0] 197));have H:=af (show Fr [] w w1 by rw[aJ];exact (Fr.refl [] w).alloc _);rw[<-aJ];clear aJ;go_loopg [3,9] 0 (λk s3 s9 wr=>s3 = .slice none 0 0/\s9 = .int .i64 0/\wr=w1);case atStart=>exact⟨rfl,rfl,rfl⟩
 case round=>obtain⟨rfl,rfl,rfl⟩:=hrel;go_wp2_with (go_at_call 426;refine (Xg _ _ _ _ (by omega) (by unfold maxLen;omega)).mono ?_;rintro e w8 ⟨rfl,hw⟩;obtain rfl:=hw.symm);go_ret;exact⟨rfl,H.out⟩
theorem GF (obj:ByteArray) (ty:Int) (nm tg msg:ByteArray) (w:World):Calls Tryz.prog 429 #[.agg #[.string obj,.int .i64 ty,.string nm,.string tg,.string msg]] w λe w'=>∃la,e = .returned (.slice la 1 1)/\Cs w' la [.string obj,.int .i64 ty]/\Fr [] w w':=by go_enter Tryz.func429,Tryz.ntmps429;go_wp2;go_ret;have e:(w.alloc (.cells #[.string obj,.int .i64 ty,.string nm,.string tg,.string msg] 168)).heap.size=w.heap.size+1:=ik _ _;refine⟨_,rfl,?_,((Fr.refl [] w).alloc _).alloc _⟩;rw[<-e];exact oC _ _ _ _
theorem zaa (tid:LB) (pa:OA) (au co msg:LB) (w:World):Calls Tryz.prog 248 #[kN tid pa 0 au co msg] w λe w'=>∃la,e = .returned (.slice la 1 1)/\Cs w' la [.string (str tid),.int .i64 2]/\Fr [] w w':=by
 have hm:∀(f:Nat) (w:World),(method (f+1) 132 (.agg #[.string (str tid),.slice pa 0 0,.string (str au),.string (str co),.string (str msg)]) "Links").run Tryz.prog w = .ok (425,(.agg #[.string (str tid),.slice pa 0 0,.string (str au),.string (str co),.string (str msg)])) w:=λ_ _=>by kernel_rfl
 have hq:∀w:World,(binOp .eql 72 (.iface 132 (.agg #[.string (str tid),.slice pa 0 0,.string (str au),.string (str co),.string (str msg)])) .nilIface).run Tryz.prog w = .ok (.bool false) w:=λ_=>by kernel_rfl
 unfold kN;go_enter Tryz.func248,Tryz.ntmps248;go_wp2_with (go_at_call 425;refine (GN _ _ _ _ _ _).mono ?_;rintro e w2 ⟨la,rfl,r2,f2⟩;have H2:=ai r2 f2;clear r2 f2);go_ret;exact⟨la,rfl,H2.out⟩
theorem qxo (w:World):Calls Tryz.prog 248 #[kR] w λe w'=>e = .returned (.slice none 0 0)/\Fr [] w w':=by
 have hm:∀(f:Nat) (w:World),(method (f+1) 197 (.agg #[.slice none 0 0]) "Links").run Tryz.prog w = .ok (432,(.agg #[.slice none 0 0])) w:=λ_ _=>by kernel_rfl
 have hq:∀w:World,(binOp .eql 72 (.iface 197 (.agg #[.slice none 0 0])) .nilIface).run Tryz.prog w = .ok (.bool false) w:=λ_=>by kernel_rfl
 unfold kR;go_enter Tryz.func248,Tryz.ntmps248;go_wp2_with (go_at_call 432;refine (ED _).mono ?_;rintro e w2 ⟨rfl,f2⟩;have H2:=af f2;clear f2);go_ret;exact⟨rfl,H2.out⟩
theorem qz9 (obj:LB) (ty:Int) (nm tg msg:LB) (w:World):Calls Tryz.prog 248 #[mG obj ty nm tg msg] w λe w'=>∃la,e = .returned (.slice la 1 1)/\Cs w' la [.string (str obj),.int .i64 ty]/\Fr [] w w':=by
 have hm:∀(f:Nat) (w:World),(method (f+1) 168 (.agg #[.string (str obj),.int .i64 ty,.string (str nm),.string (str tg),.string (str msg)]) "Links").run Tryz.prog w = .ok (429,(.agg #[.string (str obj),.int .i64 ty,.string (str nm),.string (str tg),.string (str msg)])) w:=λ_ _=>by kernel_rfl
 have hq:∀w:World,(binOp .eql 72 (.iface 168 (.agg #[.string (str obj),.int .i64 ty,.string (str nm),.string (str tg),.string (str msg)])) .nilIface).run Tryz.prog w = .ok (.bool false) w:=λ_=>by kernel_rfl
 unfold mG;go_enter Tryz.func248,Tryz.ntmps248;go_wp2_with (go_at_call 429;refine (GF _ _ _ _ _ _).mono ?_;rintro e w2 ⟨la,rfl,r2,f2⟩;have H2:=ai r2 f2;clear r2 f2);go_ret;exact⟨la,rfl,H2.out⟩
open pk
variable {L:List It} {B W c g i k r:Nat} {w w0:World} {a:OA}
set_option maxRecDepth 100000
theorem OL {x:It} (h:L[i]?=some x):(L.flatMap DH)[i*2]?=some (.string (str x.1))/\(L.flatMap DH)[i*2+1]?=some (.int .i64 (x.2:Nat)):=by
 induction L generalizing i with
 | nil=>cases h
 | cons y r ih=>
  rw[qd];cases i with
  | zero=>
   obtain rfl:y=x:=by simpa using h
   exact⟨rfl,rfl⟩
  | succ j=>have:=ih (i:=j) (by simpa using h);rw[show (j+1)*2=j*2+1+1 by omega];exact this
theorem BD {e:TypeId} {size n cap:Nat} {xs:LV} (h:w.ownsRow 0 e size (.slice (some ⟨g,0,none⟩) n cap) n xs) (j:Nat):w.frozen? ⟨g,j,none⟩=false:=by
 obtain⟨h1,h2⟩:=h;rcases h2 with⟨h2,_⟩|⟨g',aM,cur,h2,hb,hg,hn,hm,hs,ht⟩
 ·cases h2
 ·simp only[kJ,fI,rB]at h2;obtain⟨⟨rfl,_,_⟩,_,rfl⟩:=h2;exact aT hg _
theorem zho {id:Nm} (h:L[i]?=some (id,k)) (k':Nat):(L.set i (id,k')).flatMap DH=(L.flatMap DH).set (i*2+1) (.int .i64 (k':Nat)):=by
 induction L generalizing i with
 | nil=>cases h
 | cons y r ih=>
  cases i with
  | zero=>
   obtain rfl:y=(id,k):=by simpa using h
   rfl
  | succ j=>have:=ih (i:=j) (by simpa using h);rw[nV,qd,qd,this,show (j+1)*2+1=j*2+1+1+1 by omega];rfl
theorem SC {id:Nm} (h:L[i]?=some (id,k)) {k':Nat}:(L.set i (id,k')).map (·.1)=L.map (·.1):=by
 induction L generalizing i with
 | nil=>rfl
 | cons y r ih=>
  cases i with
  | zero=>
   obtain rfl:y=(id,k):=by simpa using h
   rfl
  | succ j=>have:=ih (i:=j) (by simpa using h);rw[nV,jL,jL,this]
theorem Wk.kind {get:Value} (h:Wk w0 w W B get (some ⟨g,0,none⟩) c L) {id:Nm} (hi:L[i]?=some (id,k)) (k':Nat):Wk w0 (w.setCell ⟨g,i*2+1,none⟩ (.int .i64 (k':Nat))) W B get (some ⟨g,0,none⟩) c (L.set i (id,k')):=by
 have f:Fr [g] w (w.setCell ⟨g,i*2+1,none⟩ (.int .i64 (k':Nat))):=(Fr.refl [g] w).setCell (.inl (by simp)) _;have hW:W≠g:=λe=>h.offW (by rw[e];simp[ag])
 have hB:B≠g:=λe=>h.offB.2 (by rw[e];simp[ag])
 obtain⟨D,hD,mg⟩:=h.ids;refine⟨h.fr.step f (λx hx=>.inr (by rw[eF.1 hx];exact h.newA g (by simp[ag]))),?_,?_,⟨D,?_,λx hx=>mg x (by rwa [SC hi]at hx)⟩,h.newW,h.newB,h.newA,h.offW,h.offB⟩
 ·rw[Dc];exact f.ag h.box (by simpa using hW)
 ·rw[Dc,zho hi];exact zdz h.own
 ·rw[Dc];exact IP hD f (by simpa using hB)
theorem Y7 (h:Wk w0 w W B (.func (.func 36) #[.pointer (some ⟨r,0,none⟩)] #[]) a c L) (i:Nat) (id:Nm) (k:Nat) (hi:L[i]?=some (id,k)) (hk:k=0\/k=1) (mj:L.length<=4)
  (tid au co msg:Nm) (xq:tid.length<=1000) (bZ:tid∉L.map (·.1))
  (hA:∀w1,Fr [] w w1->Calls Tryz.prog 83 #[.func (.func 36) #[.pointer (some ⟨r,0,none⟩)] #[],.string (str id)] w1 λe w'=>∃pa,e = .returned (.tuple #[kN tid pa 0 au co msg,.int .i64 0])/\Fr [] w1 w') :
  Calls Tryz.prog 189 #[.pointer (some ⟨W,0,none⟩),.int .i64 (i:Nat)] w λe w'=>e = .returned (.int .i64 0)/\∃a' c',Wk w0 w' W B (.func (.func 36) #[.pointer (some ⟨r,0,none⟩)] #[]) a' c' (L.set i (id,1)++[(tid,2)]):=by
 obtain⟨cN,MZ⟩:=nF.1 hi;obtain⟨x0,x1⟩:=OL hi;obtain⟨g,rfl,d0,z0⟩:=Dr h.own x0;obtain⟨g',wm,d1,z1⟩:=Dr h.own x1;obtain rfl:g=g':=by injection wm with e;injection e with e
 have c0:=(cell_of h.box 0).trans (show _=some (Value.func (.func 36) #[.pointer (some ⟨r,0,none⟩)] #[]) from rfl);have c1:=(cell_of h.box 1).trans (show _=some (Value.slice (some ⟨g,0,none⟩) L.length c) from rfl);obtain⟨M,hM⟩:=ah L.length;obtain⟨I,hI⟩:=ah (str id);obtain⟨hle,dE⟩:M<=c/\c<=maxLen:=by obtain⟨_,_,e,h1,h2⟩:=um h.own;injection e with _ _ e3;rw[hM,e3];exact⟨h1,h2⟩
 rw[<-hM]at c1 cN mj;rw[<-hI]at d0;have s0:∀x,(sup [] w.drew x).cell? ⟨W,0,none⟩=_:=λx=>(gB [] w.drew x).cell (show w.drew.cell? _=_ from c0) (by simp)
 have s1:∀x,(sup [] w.drew x).cell? ⟨W,1,none⟩=_:=λx=>(gB [] w.drew x).cell (show w.drew.cell? _=_ from c1) (by simp)
 have s2:∀x,(sup [] w.drew x).cell? ⟨g,i*2,none⟩=_:=λx=>(gB [] w.drew x).cell (show w.drew.cell? _=_ from d0) (by simp)
 have wI:=hA w.drew (Fr.aB [] w);rw[<-hI]at wI;have H:=aA h wI hM hI;have D:=ai c1 d1;have G6:=af hi;clear h hA wI hM hI x0 x1 hi MZ wm d0 d1 c0 c1;go_enter Tryz.func189,Tryz.ntmps189;go_upto_region 1 with fail;refine lK 18 [(false,0),(false,1),(false,2),(false,3),(false,4),(false,5),(false,6),(false,7),(false,8),(false,9),(false,10),(false,11),(true,12),(false,13),(false,14),(false,15),(false,16),(false,17)] [] (by kernel_rfl) (by kernel_rfl) (λ_ _ d _ _ h=>by cases d<;>exact h) ?_;simp only[kQ];refine eD 12 rfl ?_;simp only[cT];repeat (go_big_quiet_step (fail))
 refine wpQuiet_nil ?_;clear s0 s1 s2;refine jb rfl ?_;intro XX gY;go_wp2_with (go_at_call 83;refine H.o1.mono ?_;rintro e w1 ⟨pa,rfl,f1⟩);refine gY.out _ _ f1 ?_;clear gY XX;refine eD 5 rfl ?_;simp only[cT];repeat (go_big_quiet_step (fail))
 refine wpQuiet_nil ?_;refine j4 ?_;have fw:Fr [] w w1:=(Fr.aB [] w).trans f1;have c1:w1.cell? ⟨W,1,none⟩=some (Value.slice (some ⟨g,0,none⟩) M c):=fw.cell D.o0 (by simp);have c2:w1.cell? ⟨g,i*2+1,none⟩=some (.int .i64 k):=fw.cell D.l1 (by simp);have k1:Wk w0 w1 W B (.func (.func 36) #[.pointer (some ⟨r,0,none⟩)] #[]) (some ⟨g,0,none⟩) c L:=H.o0.cG fw;have zg:w1.frozen? ⟨g,i*2+1,none⟩=false:=BD k1.own _;have zd:w1.drew.frozen? ⟨g,i*2+1,none⟩=false:=zg;have H1:=ai k1 fw;clear f1 fw k1 z0 z1;have Cp:∀(f:Nat) (w:World),(method (f+1) 132 (.agg #[.string (str tid),.slice pa 0 0,.string (str au),.string (str co),.string (str msg)]) "Kind").run Tryz.prog w = .ok (424,(.agg #[.string (str tid),.slice pa 0 0,.string (str au),.string (str co),.string (str msg)])) w:=λ_ _=>by kernel_rfl
 unfold kN at *;go_upto_region 5 with fail;rcases hk with rfl|rfl
 case' inl=>
  have c3:w1.cell? ⟨g,i*2+1,none⟩=some (.int .i64 0):=c2;have s3:∀x,(sup [] w1.drew x).cell? ⟨g,i*2+1,none⟩=some (.int .i64 0):=λx=>(gB [] w1.drew x).cell (show w1.drew.cell? _=_ from c3) (by simp)
  refine lK 14 [(false,0),(false,1),(false,2),(false,3),(false,4),(false,5),(false,6),(false,7),(false,8),(false,9),(false,10),(true,11),(false,12),(false,13)] [] (by kernel_rfl) (by kernel_rfl) (λ_ _ d _ _ h=>by cases d<;>exact h) ?_;simp only[kQ];refine eD 11 rfl ?_;simp only[cT];repeat (go_big_quiet_step (fail))
  refine wpQuiet_nil ?_;refine Kc rfl ?_;simp only[Act.put,pS,nV,pQ];refine eD 2 rfl ?_;simp only[cT];repeat (go_big_quiet_step (fail))
  refine wpQuiet_nil ?_;refine j4 ?_;clear s3 c3;obtain⟨w2,cC⟩:=ah w1.drew;have f2:Fr [] w1 w2:=by rw[cC];exact Fr.aB [] w1
  rw[<-cC];clear cC zd
 case' inr=>
  have c3:w1.cell? ⟨g,i*2+1,none⟩=some (.int .i64 1):=c2;have s3:∀x,(sup [] w1.drew x).cell? ⟨g,i*2+1,none⟩=some (.int .i64 1):=λx=>(gB [] w1.drew x).cell (show w1.drew.cell? _=_ from c3) (by simp)
  refine lK 14 [(false,0),(false,1),(false,2),(false,3),(false,4),(false,5),(false,6),(false,7),(false,8),(false,9),(false,10),(true,11),(false,12),(false,13)] [] (by kernel_rfl) (by kernel_rfl) (λ_ _ d _ _ h=>by cases d<;>exact h) ?_;simp only[kQ];refine eD 11 rfl ?_;simp only[cT];repeat (go_big_quiet_step (fail))
  refine wpQuiet_nil ?_;refine jb rfl ?_;intro XX gY;go_wp2_with (go_at_call 424;(refine (pB _ _ _ _ _ _).mono ?_;rintro e w2 ⟨rfl,f2⟩));refine gY.out _ _ f2 ?_;clear gY XX s3 c3;refine eD 2 rfl ?_;simp only[cT];repeat (go_big_quiet_step (fail))
  refine wpQuiet_nil ?_;refine j4 ?_;replace f2:Fr [] w1 w2:=(Fr.aB [] w1).trans f2;clear zd
 all_goals
  have c4:w2.cell? ⟨g,i*2+1,none⟩=_:=f2.cell c2 (by simp)
  have z4:w2.frozen? ⟨g,i*2+1,none⟩=false:=BD (H1.o0.cG f2).own _
  have H2:=af f2
  clear f2 c2 zg c1
  have iF:=zaa tid pa au co msg
  have HK:=af iF
  clear iF
  unfold kN at HK
  go_upto_block 0 with (first
   | (go_at_call 424;(refine (pB _ _ _ _ _ _).mono ?_;rintro e w3 ⟨rfl,f3⟩;have c5:=f3.cell c4 (by simp);have z5:w3.frozen? ⟨g,i*2+1,none⟩=false:=BD (H1.o0.cG (H2.out.trans f3)).own _;have H3:=af f3;clear f3))
   | (go_at_call 248;(refine (HK.out _).mono ?_;rintro e w5 ⟨la,rfl,r5,f5⟩;have H5:=ai r5 f5;clear r5 f5)))
  have k5:=(((H1.o0.cG (H2.out.trans H3.out)).kind G6.out 1).cG H5.out.2)
  obtain⟨gl,o,eh,hc⟩:=H5.out.1.at (by simp)
  have e0:=hc 0 _ rfl
  have e1:=hc 1 _ rfl
  subst eh
  have zm:tid∉(L.set i (id,1)).map (·.1):=by rw[SC G6.out];exact bZ
  have H6:=aA k5 zm e0 e1
  clear k5 zm e0 e1 hc c5 z5 c4 z4
  go_wp2
  go_loopg [57] 1 (λk s57 wr=>∃j:Nat,s57 = .int .i64 (j:Nat)/\j+k=1/\(j=0->wr=w5)/\(j=1->∃a c,Wk w0 wr W B (.func (.func 36) #[.pointer (some ⟨r,0,none⟩)] #[]) a c (L.set i (id,1)++[(tid,2)])))
  case atStart=>exact⟨0,rfl,by omega,λ_=>rfl,λh=>by cases h⟩
  case round=>
   obtain⟨j,rfl,fP,h0,h1⟩:=hrel
   by_cases hj:j=0
   ·obtain rfl:gk=0+1:=by omega
    have ew:=h0 hj
    subst hj
    have d0:wr.cell? ⟨gl,o,none⟩=some (.string (str tid)):=by rw[ew];exact H6.o2
    have d1:wr.cell? ⟨gl,o+1,none⟩=some (.int .i64 2):=by rw[ew];exact H6.l3
    have e0:=af ew
    clear h0 h1 ew
    go_wp2_with (go_at_call 247;(refine (R8 ((by rw[e0.out];exact H6.o0:Wk w0 wr W B (.func (.func 36) #[.pointer (some ⟨r,0,none⟩)] #[]) (some ⟨g,0,none⟩) c (L.set i (id,1))).cG ((Fr.refl [] wr).alloc _)) tid 2 xq H6.o1 (by rw[Dc,<-H.o2];omega)).mono ?_;rintro e w7 ⟨rfl,h7⟩;have H7:=af h7;clear h7))
    go_roundg 0
    case measure=>omega
    case rel=>exact⟨1,rfl,by omega,(λh=>by cases h),λ_=>H7.out⟩
   ·obtain rfl:j=1:=by omega
    obtain rfl:gk=0:=by omega
    have H7:=af (h1 rfl)
    clear h0 h1
    go_wp2
    go_ret
    exact⟨rfl,H7.out⟩
set_option maxRecDepth 100000
theorem zee (h:Wk w0 w W B (.func (.func 36) #[.pointer (some ⟨r,0,none⟩)] #[]) a c L) (i:Nat) (id:Nm) (k:Nat) (hi:L[i]?=some (id,k)) (hk:k=0) (mj:L.length<=4)
  (tid nm tg msg:Nm) (xq:tid.length<=1000) (bZ:tid∉L.map (·.1))
  (hA:∀w1,Fr [] w w1->Calls Tryz.prog 83 #[.func (.func 36) #[.pointer (some ⟨r,0,none⟩)] #[],.string (str id)] w1 λe w'=>e = .returned (.tuple #[mG tid 1 nm tg msg,.int .i64 0])/\Fr [] w1 w') :
  Calls Tryz.prog 189 #[.pointer (some ⟨W,0,none⟩),.int .i64 (i:Nat)] w λe w'=>e = .returned (.int .i64 0)/\∃a' c',Wk w0 w' W B (.func (.func 36) #[.pointer (some ⟨r,0,none⟩)] #[]) a' c' (L.set i (id,4)++[(tid,1)]):=by
 obtain⟨cN,MZ⟩:=nF.1 hi;obtain⟨x0,x1⟩:=OL hi;obtain⟨g,rfl,d0,z0⟩:=Dr h.own x0;obtain⟨g',wm,d1,z1⟩:=Dr h.own x1;obtain rfl:g=g':=by injection wm with e;injection e with e
 have c0:=(cell_of h.box 0).trans (show _=some (Value.func (.func 36) #[.pointer (some ⟨r,0,none⟩)] #[]) from rfl);have c1:=(cell_of h.box 1).trans (show _=some (Value.slice (some ⟨g,0,none⟩) L.length c) from rfl);obtain⟨M,hM⟩:=ah L.length;obtain⟨I,hI⟩:=ah (str id);obtain⟨hle,dE⟩:M<=c/\c<=maxLen:=by obtain⟨_,_,e,h1,h2⟩:=um h.own;injection e with _ _ e3;rw[hM,e3];exact⟨h1,h2⟩
 rw[<-hM]at c1 cN mj;rw[<-hI]at d0;have s0:∀x,(sup [] w.drew x).cell? ⟨W,0,none⟩=_:=λx=>(gB [] w.drew x).cell (show w.drew.cell? _=_ from c0) (by simp)
 have s1:∀x,(sup [] w.drew x).cell? ⟨W,1,none⟩=_:=λx=>(gB [] w.drew x).cell (show w.drew.cell? _=_ from c1) (by simp)
 have s2:∀x,(sup [] w.drew x).cell? ⟨g,i*2,none⟩=_:=λx=>(gB [] w.drew x).cell (show w.drew.cell? _=_ from d0) (by simp)
 have wI:=hA w.drew (Fr.aB [] w);rw[<-hI]at wI;have H:=aA h wI hM hI;have D:=ai c1 d1;have G6:=af hi;clear h hA wI hM hI x0 x1 hi MZ wm d0 d1 c0 c1;go_enter Tryz.func189,Tryz.ntmps189;go_upto_region 1 with fail;refine lK 18 [(false,0),(false,1),(false,2),(false,3),(false,4),(false,5),(false,6),(false,7),(false,8),(false,9),(false,10),(false,11),(true,12),(false,13),(false,14),(false,15),(false,16),(false,17)] [] (by kernel_rfl) (by kernel_rfl) (λ_ _ d _ _ h=>by cases d<;>exact h) ?_;simp only[kQ];refine eD 12 rfl ?_;simp only[cT];repeat (go_big_quiet_step (fail))
 refine wpQuiet_nil ?_;clear s0 s1 s2;refine jb rfl ?_;intro XX gY;go_wp2_with (go_at_call 83;refine H.o1.mono ?_;rintro e w1 ⟨rfl,f1⟩);refine gY.out _ _ f1 ?_;clear gY XX;refine eD 5 rfl ?_;simp only[cT];repeat (go_big_quiet_step (fail))
 refine wpQuiet_nil ?_;refine j4 ?_;have fw:Fr [] w w1:=(Fr.aB [] w).trans f1;have c1:w1.cell? ⟨W,1,none⟩=some (Value.slice (some ⟨g,0,none⟩) M c):=fw.cell D.o0 (by simp);have c2:w1.cell? ⟨g,i*2+1,none⟩=some (.int .i64 k):=fw.cell D.l1 (by simp);have k1:Wk w0 w1 W B (.func (.func 36) #[.pointer (some ⟨r,0,none⟩)] #[]) (some ⟨g,0,none⟩) c L:=H.o0.cG fw;have zg:w1.frozen? ⟨g,i*2+1,none⟩=false:=BD k1.own _;have zd:w1.drew.frozen? ⟨g,i*2+1,none⟩=false:=zg;have H1:=ai k1 fw;clear f1 fw k1 z0 z1;have Cp:∀(f:Nat) (w:World),(method (f+1) 168 (.agg #[.string (str tid),.int .i64 1,.string (str nm),.string (str tg),.string (str msg)]) "Kind").run Tryz.prog w = .ok (428,(.agg #[.string (str tid),.int .i64 1,.string (str nm),.string (str tg),.string (str msg)])) w:=λ_ _=>by kernel_rfl
 unfold mG at *;go_upto_region 5 with fail;subst hk;have c3:w1.cell? ⟨g,i*2+1,none⟩=some (.int .i64 0):=c2;have s3:∀x,(sup [] w1.drew x).cell? ⟨g,i*2+1,none⟩=some (.int .i64 0):=λx=>(gB [] w1.drew x).cell (show w1.drew.cell? _=_ from c3) (by simp)
 refine lK 14 [(false,0),(false,1),(false,2),(false,3),(false,4),(false,5),(false,6),(false,7),(false,8),(false,9),(false,10),(true,11),(false,12),(false,13)] [] (by kernel_rfl) (by kernel_rfl) (λ_ _ d _ _ h=>by cases d<;>exact h) ?_;simp only[kQ];refine eD 11 rfl ?_;simp only[cT];repeat (go_big_quiet_step (fail))
 refine wpQuiet_nil ?_;refine Kc rfl ?_;simp only[Act.put,pS,nV,pQ];refine eD 2 rfl ?_;simp only[cT];repeat (go_big_quiet_step (fail))
 refine wpQuiet_nil ?_;refine j4 ?_;clear s3 c3;obtain⟨w2,cC⟩:=ah w1.drew;have f2:Fr [] w1 w2:=by rw[cC];exact Fr.aB [] w1
 rw[<-cC];clear cC zd;have c4:w2.cell? ⟨g,i*2+1,none⟩=_:=f2.cell c2 (by simp);have z4:w2.frozen? ⟨g,i*2+1,none⟩=false:=BD (H1.o0.cG f2).own _;have H2:=af f2;clear f2 c2 zg c1;have iF:=qz9 tid 1 nm tg msg;have HK:=af iF;clear iF;unfold mG at HK;go_upto_block 0 with (first
  | (go_at_call 428;go_loud (refine (NP _ _ _ _ _ _).mono ?_;rintro e w3 ⟨rfl,f3⟩;have c5:=f3.cell c4 (by simp);have z5:w3.frozen? ⟨g,i*2+1,none⟩=false:=BD (H1.o0.cG (H2.out.trans f3)).own _;have H3:=af f3;clear f3))
  | (go_at_call 248;go_loud (refine (HK.out _).mono ?_;rintro e w5 ⟨la,rfl,r5,f5⟩;have H5:=ai r5 f5;clear r5 f5)))
 have k5:=(((H1.o0.cG (H2.out.trans H3.out)).kind G6.out 4).cG H5.out.2);obtain⟨gl,o,eh,hc⟩:=H5.out.1.at (by simp);have e0:=hc 0 _ rfl;have e1:=hc 1 _ rfl;subst eh;have zm:tid∉(L.set i (id,4)).map (·.1):=by rw[SC G6.out];exact bZ
 have H6:=aA k5 zm e0 e1;clear k5 zm e0 e1 hc c5 z5 c4 z4;go_wp2;go_loopg [57] 1 (λk s57 wr=>∃j:Nat,s57 = .int .i64 (j:Nat)/\j+k=1/\(j=0->wr=w5)/\(j=1->∃a c,Wk w0 wr W B (.func (.func 36) #[.pointer (some ⟨r,0,none⟩)] #[]) a c (L.set i (id,4)++[(tid,1)])));case atStart=>exact⟨0,rfl,by omega,λ_=>rfl,λh=>by cases h⟩
 case round=>
  obtain⟨j,rfl,fP,h0,h1⟩:=hrel;by_cases hj:j=0
  ·obtain rfl:gk=0+1:=by omega
   have ew:=h0 hj;subst hj;have d0:wr.cell? ⟨gl,o,none⟩=some (.string (str tid)):=by rw[ew];exact H6.o2
   have d1:wr.cell? ⟨gl,o+1,none⟩=some (.int .i64 1):=by rw[ew];exact H6.l3
   have e0:=af ew;clear h0 h1 ew;go_wp2_with (go_at_call 247;go_loud (refine (R8 ((by rw[e0.out];exact H6.o0:Wk w0 wr W B (.func (.func 36) #[.pointer (some ⟨r,0,none⟩)] #[]) (some ⟨g,0,none⟩) c (L.set i (id,4))).cG ((Fr.refl [] wr).alloc _)) tid 1 xq H6.o1 (by rw[Dc,<-H.o2];omega)).mono ?_;rintro e w7 ⟨rfl,h7⟩;have H7:=af h7;clear h7));go_roundg 0;case measure=>omega
   case rel=>exact⟨1,rfl,by omega,(λh=>by cases h),λ_=>H7.out⟩
  ·obtain rfl:j=1:=by omega
   obtain rfl:gk=0:=by omega
   have H7:=af (h1 rfl);clear h0 h1;go_wp2;go_ret;exact⟨rfl,H7.out⟩
theorem Z3 (h:Wk w0 w W B (.func (.func 36) #[.pointer (some ⟨r,0,none⟩)] #[]) a c L) (i:Nat) (id:Nm) (k:Nat) (hi:L[i]?=some (id,k)) (hk:k=2) (mj:L.length<=4)
  (hA:∀w1,Fr [] w w1->Calls Tryz.prog 83 #[.func (.func 36) #[.pointer (some ⟨r,0,none⟩)] #[],.string (str id)] w1 λe w'=>e = .returned (.tuple #[kR,.int .i64 0])/\Fr [] w1 w') :
  Calls Tryz.prog 189 #[.pointer (some ⟨W,0,none⟩),.int .i64 (i:Nat)] w λe w'=>e = .returned (.int .i64 0)/\∃a' c',Wk w0 w' W B (.func (.func 36) #[.pointer (some ⟨r,0,none⟩)] #[]) a' c' (L.set i (id,2)):=by
 obtain⟨cN,MZ⟩:=nF.1 hi;obtain⟨x0,x1⟩:=OL hi;obtain⟨g,rfl,d0,z0⟩:=Dr h.own x0;obtain⟨g',wm,d1,z1⟩:=Dr h.own x1;obtain rfl:g=g':=by injection wm with e;injection e with e
 have c0:=(cell_of h.box 0).trans (show _=some (Value.func (.func 36) #[.pointer (some ⟨r,0,none⟩)] #[]) from rfl);have c1:=(cell_of h.box 1).trans (show _=some (Value.slice (some ⟨g,0,none⟩) L.length c) from rfl);obtain⟨M,hM⟩:=ah L.length;obtain⟨I,hI⟩:=ah (str id);obtain⟨hle,dE⟩:M<=c/\c<=maxLen:=by obtain⟨_,_,e,h1,h2⟩:=um h.own;injection e with _ _ e3;rw[hM,e3];exact⟨h1,h2⟩
 rw[<-hM]at c1 cN mj;rw[<-hI]at d0;have s0:∀x,(sup [] w.drew x).cell? ⟨W,0,none⟩=_:=λx=>(gB [] w.drew x).cell (show w.drew.cell? _=_ from c0) (by simp)
 have s1:∀x,(sup [] w.drew x).cell? ⟨W,1,none⟩=_:=λx=>(gB [] w.drew x).cell (show w.drew.cell? _=_ from c1) (by simp)
 have s2:∀x,(sup [] w.drew x).cell? ⟨g,i*2,none⟩=_:=λx=>(gB [] w.drew x).cell (show w.drew.cell? _=_ from d0) (by simp)
 have wI:=hA w.drew (Fr.aB [] w);rw[<-hI]at wI;have H:=aA h wI hM hI;have D:=ai c1 d1;have G6:=af hi;clear h hA wI hM hI x0 x1 hi MZ wm d0 d1 c0 c1;go_enter Tryz.func189,Tryz.ntmps189;go_upto_region 1 with fail;refine lK 18 [(false,0),(false,1),(false,2),(false,3),(false,4),(false,5),(false,6),(false,7),(false,8),(false,9),(false,10),(false,11),(true,12),(false,13),(false,14),(false,15),(false,16),(false,17)] [] (by kernel_rfl) (by kernel_rfl) (λ_ _ d _ _ h=>by cases d<;>exact h) ?_;simp only[kQ];refine eD 12 rfl ?_;simp only[cT];repeat (go_big_quiet_step (fail))
 refine wpQuiet_nil ?_;clear s0 s1 s2;refine jb rfl ?_;intro XX gY;go_wp2_with (go_at_call 83;refine H.o1.mono ?_;rintro e w1 ⟨rfl,f1⟩);refine gY.out _ _ f1 ?_;clear gY XX;refine eD 5 rfl ?_;simp only[cT];repeat (go_big_quiet_step (fail))
 refine wpQuiet_nil ?_;refine j4 ?_;have fw:Fr [] w w1:=(Fr.aB [] w).trans f1;have c1:w1.cell? ⟨W,1,none⟩=some (Value.slice (some ⟨g,0,none⟩) M c):=fw.cell D.o0 (by simp);have c2:w1.cell? ⟨g,i*2+1,none⟩=some (.int .i64 k):=fw.cell D.l1 (by simp);have k1:Wk w0 w1 W B (.func (.func 36) #[.pointer (some ⟨r,0,none⟩)] #[]) (some ⟨g,0,none⟩) c L:=H.o0.cG fw;have zg:w1.frozen? ⟨g,i*2+1,none⟩=false:=BD k1.own _;have zd:w1.drew.frozen? ⟨g,i*2+1,none⟩=false:=zg;have H1:=ai k1 fw;clear f1 fw k1 z0 z1;have Cp:∀(f:Nat) (w:World),(method (f+1) 197 (.agg #[.slice none 0 0]) "Kind").run Tryz.prog w = .ok (431,(.agg #[.slice none 0 0])) w:=λ_ _=>by kernel_rfl
 unfold kR at *;go_upto_region 5 with fail;subst hk;have c3:w1.cell? ⟨g,i*2+1,none⟩=some (.int .i64 2):=c2;have s3:∀x,(sup [] w1.drew x).cell? ⟨g,i*2+1,none⟩=some (.int .i64 2):=λx=>(gB [] w1.drew x).cell (show w1.drew.cell? _=_ from c3) (by simp)
 refine lK 14 [(false,0),(false,1),(false,2),(false,3),(false,4),(false,5),(false,6),(false,7),(false,8),(false,9),(false,10),(true,11),(false,12),(false,13)] [] (by kernel_rfl) (by kernel_rfl) (λ_ _ d _ _ h=>by cases d<;>exact h) ?_;simp only[kQ];refine eD 11 rfl ?_;simp only[cT];repeat (go_big_quiet_step (fail))
 refine wpQuiet_nil ?_;refine jb rfl ?_;intro XX gY;go_wp2_with (go_at_call 431;go_loud (refine (sQ _ _).mono ?_;rintro e w2 ⟨rfl,f2⟩));refine gY.out _ _ f2 ?_;clear gY XX s3 c3;refine eD 2 rfl ?_;simp only[cT];repeat (go_big_quiet_step (fail))
 refine wpQuiet_nil ?_;refine j4 ?_;replace f2:Fr [] w1 w2:=(Fr.aB [] w1).trans f2;clear zd;have c4:w2.cell? ⟨g,i*2+1,none⟩=_:=f2.cell c2 (by simp);have z4:w2.frozen? ⟨g,i*2+1,none⟩=false:=BD (H1.o0.cG f2).own _;have H2:=af f2;clear f2 c2 zg c1;have iF:=qxo;have HK:=af iF;clear iF;unfold kR at HK;go_upto_block 0 with (first
  | (go_at_call 431;go_loud (refine (sQ _ _).mono ?_;rintro e w3 ⟨rfl,f3⟩;have c5:=f3.cell c4 (by simp);have z5:w3.frozen? ⟨g,i*2+1,none⟩=false:=BD (H1.o0.cG (H2.out.trans f3)).own _;have H3:=af f3;clear f3))
  | (go_at_call 248;go_loud (refine (HK.out _).mono ?_;rintro e w5 ⟨rfl,f5⟩;have H5:=af f5;clear f5)))
 have k5:=(((H1.o0.cG (H2.out.trans H3.out)).kind G6.out 2).cG H5.out);have H6:=af k5;clear k5 c5 z5 c4 z4;go_wp2;go_loopg [57] 0 (λk s57 wr=>s57 = .int .i64 0/\wr=w5);case atStart=>exact⟨rfl,rfl⟩
 case round=>obtain⟨rfl,rfl⟩:=hrel;go_wp2;go_ret;exact⟨rfl,_,_,H6.out⟩
end ob
namespace lo
open Go Go.RowKit lib pk fs
set_option maxRecDepth 100000
theorem zdd (v:Value) (L:Nat) (l:List (List UInt8)) (w:World) (h:w.ownsRow 0 9 1 v L (l.map encStr)) (hL:l.length=L) (hl:L<=1000000) :
  Calls Tryz.prog 105 #[v] w λe w'=>e = .returned (.tuple #[])/\w'.ownsRow 0 9 1 v L ((l.mergeSort λx y=>decide (x<=y)).map encStr)/\Fr v.ownBlock.toList w w':=by
 rcases h.2 with⟨rfl,hz⟩|⟨g,cap,cur,rfl,Nl,hb,h1,h2,h3,h4⟩
 ·have h0:l=[]:=sr (by omega);subst h0;refine (Any.slices_Sort_string_none Tryz.lays190 none 0 w).mono λe w' ⟨he,hw⟩=>⟨he,?_,by rw[hw];exact Fr.refl _ _⟩
  rw[hw];simpa using h
 ·rw[uG]at h4;rw[<-hL]at h1 h4 ⊢;refine (Tryz.slices_Sort_string g 0 cap l w (holds_of_block hb h4) (lt_of_block hb) (by omega)).mono λe w' ⟨he,n,os,hw⟩=>⟨he,?_,?_⟩
  ·rw[hw];exact ownsRow_sorted (by simp) Nl hb h1 h2 h3
  ·rw[hw];exact (Fr.refl _ w).grown (grownBy_sorted _) (λk hk=>.inl (by simpa[Value.ownBlock] using hk.symm))
end lo
namespace ob
open Go Go.RowKit lib fs lo pk
variable {w:World} {F M O R n r:Nat} {lab:Nat->Option Lb} {t:Nm->Option (List UInt8)} {m:Int} {au co msg:LB}
set_option maxRecDepth 100000
theorem ze1 {w0:World} {W B:Nat} {get:Value} {a:OA} {c:Nat} {L:List It} (h:Wk w0 w W B get a c L) (mj:L.length<=9) :
  Calls Tryz.prog 190 #[.pointer (some ⟨W,0,none⟩)] w λe w'=>∃v,e = .returned v/\Fr [] w w':=by
 have c1:=(cell_of h.box 1).trans (show _=some (Value.slice a L.length c) from rfl);obtain⟨M,hM⟩:=ah L.length;obtain⟨hle,dE⟩:M<=c/\c<=maxLen:=by obtain⟨_,_,e,h1,h2⟩:=um h.own;injection e with _ _ e3;rw[hM,e3];exact⟨h1,h2⟩
 rw[<-hM]at c1 mj;have H:=ai h hM;clear h hM;go_enter Tryz.func190,Tryz.ntmps190;go_wp2;go_loopg [3,11] M (λk s3 s11 wr=>∃(i:Nat) (b:OA) (q:Nat),s11 = .int .i64 (i:Nat)/\i+k=M/\s3 = .slice b i q/\wr.ownsRow 0 9 1 s3 i (((L.take i).map (·.1)).map encStr)/\(∀x∈ag b,w.heap.size<=x)/\Fr [] w wr);case atStart=>exact⟨0,none,0,rfl,by omega,rfl,oE _ _ _ _,by simp[ag],Fr.refl _ _⟩
 case round=>
  obtain⟨i,b,q,rfl,cQ,rfl,ho,kY,f⟩:=hrel;by_cases hi:i<M
  ·obtain⟨k,rfl⟩:∃k,gk=k+1:=⟨gk-1,by omega⟩;obtain⟨x,hx⟩:∃x,L[i]?=some x:=⟨L[i]'(by rw[<-H.out.2];exact hi),dm _⟩;obtain⟨x0,x1⟩:=OL hx;obtain⟨g,hg,d0,_⟩:=Dr H.out.1.own x0;obtain⟨g',wm,d1,_⟩:=Dr H.out.1.own x1;obtain rfl:g'=g:=by rw[hg]at wm;injection wm with e;injection e with e;exact e.symm
   subst hg;have e0:=f.cell d0 (by simp);have e1:=f.cell d1 (by simp);obtain⟨z,hz⟩:=ah (str x.1);rw[<-hz]at e0;have HR:=aQ ho kY f hx hz;clear ho kY f hx hz x0 x1 d0 d1 wm;go_wp2_with (at_builtin;(refine fq xT rfl _ _ rfl (.slice b i q) i (((L.take i).map (·.1)).map encStr) (ag b) rfl (cY _ _ _) (dp HR.out.1 (((Fr.refl [] wr).alloc _).alloc _) (by simp)) (some ⟨wr.heap.size+1,0,none⟩) 1 1 [.string z] rfl (ax _) (by simp) (by rw[<-ik wr];exact oC _ _ _ _) rfl (by simp[Value.oneCell']) (by omega) (by unfold maxLen;omega) ?_;intro a3 q3 w3 A3;have H3:=af A3;clear A3));go_roundg k;case measure=>omega
   case rel=>
    obtain⟨ho,kY,f,hx,hz⟩:=HR.out;have A3:=H3.out;have et:L.take (i+1)=L.take i++[x]:=by obtain⟨h1,h2⟩:=nF.1 hx;rw[x7 h1,h2]
    have fa:=((Fr.refl [] wr).alloc (.cells #[.string z,.int .i64 (x.2:Nat)] 359)).alloc (.cells #[.string z] 9);refine⟨i+1,a3,q3,by go_num,by omega,rfl,?_,λy hy=>?_,?_⟩
    ·rw[et,jd,jd,show ([x].map (·.1)).map encStr=[.string z] by rw[hz];rfl];exact A3.own
    ·rcases A3.at_ y hy with h|h
     ·exact kY y h
     ·have:=f.size;have:=fa.size;omega
    ·exact f.step ((fa.mono (T:=ag b) (by simp)).trans A3.fr) (λy hy=>.inr (kY y hy))
  ·obtain rfl:i=M:=by omega
   obtain rfl:gk=0:=by omega
   have HR:=aq ho kY f;obtain⟨QK,QL⟩:i<=q/\q<=maxLen:=by obtain⟨_,_,e,h1,h2⟩:=um ho;injection e with _ _ e3;rw[e3];exact⟨h1,h2⟩
   have HS:=af (zdd (.slice b i q) i ((L.take i).map (·.1)) wr ho (by rw[gx,fH,<-H.out.2,Nat.min_self]) (by omega));clear ho kY f;go_wp2_with (first
    | (go_at_call 105;(with_reducible refine HS.out.mono ?_);rintro e w5 ⟨rfl,o5,f5⟩;have H5:=af f5;clear f5 o5)
    | (go_at_call 158;(with_reducible refine (J3 _ _ _ _ QK QL).mono ?_);rintro e w6 ⟨rfl,hw⟩;obtain rfl:=hw.symm))
   go_ret;refine⟨_,rfl,HR.out.2.2.step H5.out (λy hy=>.inr (HR.out.2.1 y (by rw[cY]at hy;exact hy)))⟩
theorem qm8 (r:Nat) (root:Nm) (ra:OA) (rc:Nat) (w:World) (hr:Cs w ra [.string (str root)]) (Ma:root.length<=1000) (N:Nat) (hN9:N<=9) (Ls:Nat->List It) (h0:Ls 0=[(root,0)]) (hlen:∀i,i<N->i<(Ls i).length) (hN:(Ls N).length=N) (AJ:∀i,i<=N->(Ls i).length<=9)
  (DX:∀i,i<N->∀w1 W B a c,Wk w w1 W B (.func (.func 36) #[.pointer (some ⟨r,0,none⟩)] #[]) a c (Ls i)->Calls Tryz.prog 189 #[.pointer (some ⟨W,0,none⟩),.int .i64 (i:Nat)] w1 λe w'=>e = .returned (.int .i64 0)/\∃a' c',Wk w w' W B (.func (.func 36) #[.pointer (some ⟨r,0,none⟩)] #[]) a' c' (Ls (i+1)))
  (m:Int) (hm:9<=m/\m<=1000000000) :
  Calls Tryz.prog 127 #[.func (.func 36) #[.pointer (some ⟨r,0,none⟩)] #[],.slice ra 1 rc,.int .i64 m] w λe w'=>∃v,e = .returned (.tuple #[v,.int .i64 0])/\Fr [] w w':=by
 have H:=cU (zcb r root ra rc w hr Ma) h0 hlen hN AJ DX;clear h0 hlen hN AJ DX hr;go_enter Tryz.func127,Tryz.ntmps127;go_upto_block 0 with (go_at_call 188;(refine H.o0.mono ?_;rintro e w1 ⟨W,B,a,c,rfl,k1⟩;have H1:=af k1;clear k1));go_wp2;go_loopg [9] N (λk s9 wr=>∃(i:Nat) (a:OA) (c:Nat),s9 = .int .i64 (i:Nat)/\i+k=N/\Wk w wr W B (.func (.func 36) #[.pointer (some ⟨r,0,none⟩)] #[]) a c (Ls i));case atStart=>exact⟨0,a,c,rfl,by omega,by rw[H.o1];exact H1.out⟩
 case round=>
  obtain⟨i,a,c,rfl,cQ,hk⟩:=hrel;have cN:=H.o2 i;have Qx:=H.o4 i (by omega);have c1:=(cell_of hk.box 1).trans (show _=some (Value.slice a (Ls i).length c) from rfl);obtain⟨M,hM⟩:=ah ((Ls i).length);rw[<-hM]at c1 cN Qx;by_cases hi:i<N
  ·obtain⟨k,rfl⟩:∃k,gk=k+1:=⟨gk-1,by omega⟩;have hiM:=cN hi;have iF:=H.l5 i hi wr W B a c hk;have HR:=aq hk iF hM;clear hk iF hM cN;go_wp2_with (go_at_call 189;(refine HR.out.2.1.mono ?_;rintro e w3 ⟨rfl,h3⟩;have H3:=af h3;clear h3));go_roundg k;case measure=>omega
   case rel=>obtain⟨a',c',h⟩:=H3.out;exact⟨i+1,a',c',by go_num,by omega,h⟩
  ·obtain rfl:i=N:=by omega
   obtain rfl:gk=0:=by omega
   have eM:M=i:=by rw[hM];exact H.o3
   have HR:=af hk;clear hk hM cN;subst eM;go_wp2_with (go_at_call 190;(refine (ze1 HR.out (by rw[H.o3];omega)).mono ?_;rintro e w4 ⟨v,rfl,f4⟩;have H4:=af f4;clear f4));go_ret2;exact⟨v,rfl,HR.out.fr.trans H4.out⟩
theorem YT (r:Nat) (ra:OA) (rc:Nat) (w:World) (m:Int) (h:Calls Tryz.prog 127 #[.func (.func 36) #[.pointer (some ⟨r,0,none⟩)] #[],.slice ra 1 rc,.int .i64 m] w λe w'=>∃v,e = .returned (.tuple #[v,.int .i64 0])/\Fr [] w w') :
  Calls Tryz.prog 70 #[.func (.func 36) #[.pointer (some ⟨r,0,none⟩)] #[],.slice ra 1 rc,.int .i64 m] w λe w'=>e = .returned (.int .i64 0)/\Fr [] w w':=by
 have H:=af h;clear h;go_enter Tryz.func70,Tryz.ntmps70;go_wp2_with (go_at_call 127;(refine H.out.mono ?_;rintro e w1 ⟨v,rfl,f1⟩;have H1:=af f1;clear f1));go_ret;exact⟨rfl,H1.out⟩
set_option maxRecDepth 100000
structure Rp (w:World) (r O R F n M:Nat) (t:Nm->Option (List UInt8)) (lab:Nat->Option Lb) (m:Int):Prop where
 box:zX w r O R F
 offs:lab r=none/\lab O=none/\lab R=none
 fs:Fs w F n M t lab
 mx:MX w lab m
 pw:obj.Pw w
 pof:lab 3=none
 nop:iZ t
theorem W7:Tryz.prog.globalNamed "internal/strconv.uint64pow10" = some 3:=by kernel_rfl
theorem Ss {w':World} {av:Nat->Option Lb} (h:obj.Pw w) (ho:lab 3=none) (s:dS w lab w' av):obj.Pw w'/\av 3=none:=by
 unfold obj.Pw Lib.TabIs World.var? at h ⊢;rw[W7]at h ⊢;simp only[Option.bind_some]at h ⊢;have bF:3<w.heap.size:=by
  rcases kT 3 w.heap.size with h'|h'
  ·exact h'
  ·rw[J8 h']at h;cases h
 refine⟨?_,BA s ho bF⟩;obtain⟨⟨T,f,hT⟩,_⟩:=s;rw[f.block _ bF (λhm=>hT _ hm ho)];exact h
theorem Rp.step {w w':World} {r O R F n n' M:Nat} {t t':Nm->Option (List UInt8)} {lab av:Nat->Option Lb} {m:Int} (h:Rp w r O R F n M t lab m) (h':Fs w' F n' M t' av) (s:dS w lab w' av) (hn:iZ t'):Rp w' r O R F n' M t' av m:=by obtain⟨⟨h1,h2,mo,h3⟩,⟨o1,o2,o3⟩,h4,h5,h6,h7,h8⟩:=h;obtain⟨p1,p2⟩:=Ss h6 h7 s;exact⟨⟨Da s o1 h1,Da s o3 h2,mo,Da s o2 h3⟩,⟨BA s o1 (lt_of_block h1),BA s o2 (lt_of_block h3),BA s o3 (lt_of_block h2)⟩,h',h5.step s,p1,p2,hn⟩
theorem Rp.fr {w w':World} {r O R F n M:Nat} {t:Nm->Option (List UInt8)} {lab:Nat->Option Lb} {m:Int} (h:Rp w r O R F n M t lab m) (f:Fr [] w w'):Rp w' r O R F n M t lab m:=h.step (h.fs.fr f (by simp)) (dS.refl w lab f) h.nop
theorem Rp.rs (h:Rp w r O R F n M t lab m):RS w R F n M t lab:=⟨h.box.refs,h.offs.2.2,h.fs⟩
structure Has (t:Nm->Option (List UInt8)) (k:Nat) (body:LB):Prop where
 has:nR t (aO k body)=true
 read:jM t (aO k body)=(k,body,0)
theorem X4:∀k:Fin 16,48<=(bL k.1).toNat/\(bL k.1).toNat<=102:=by decide
theorem Al (k:Int) (body:LB):kP (aO k body):=by
 refine⟨SE k body,nU k body,λc hc=>?_⟩;unfold aO mn at hc;obtain⟨b,_,hb⟩:=List.mem_flatMap.1 hc;have bF:=b.toNat_lt;unfold tS at hb;simp only[eX,mV,or_false]at hb;rcases hb with rfl|rfl
 ·exact X4 ⟨b.toNat/16,by omega⟩
 ·exact X4 ⟨b.toNat%16,by omega⟩
theorem Has.put {k:Nat} {body r:LB} (hk:1<=k/\k<=4) (hl:body.length<=60000) (hr:trip.RQ (obj.header k body.length++body) r):Has (aS t (az (aO k body)) (some (defl.aY 2 r (obj.header k body.length++body)))) k body:=by
 have e:(aS t (az (aO k body)) (some (defl.aY 2 r (obj.header k body.length++body)))) (az (aO k body))=some (defl.aY 2 r (obj.header k body.length++body)):=by unfold aS;rw[if_pos rfl]
 have hh:=SE (k:Int) body;refine⟨by unfold nR;rw[e,hh];rfl,?_⟩;unfold jM;rw[if_pos hh,e];have hp:=qxc hk hl hr;simp only[hp];simp
theorem Has.aS {t:Nm->Option (List UInt8)} {k:Nat} {body:LB} (h:Has t k body) {x:Nm} (hx:az (aO k body)≠x) (v:Option (List UInt8)):Has (aS t x v) k body:=by
 have e:(fs.aS t x v) (az (aO k body))=t (az (aO k body)):=by unfold fs.aS;rw[if_neg hx]
 refine⟨?_,?_⟩
 ·have:=h.has;unfold nR at this ⊢;rw[e];exact this
 ·have:=h.read;unfold jM at this ⊢;rw[e];exact this
theorem YP (h:Rp w r O R F n M t lab m) (ho:Has t 2 []) :
  Calls Tryz.prog 83 #[.func (.func 36) #[.pointer (some ⟨r,0,none⟩)] #[],.string (str (aO 2 []))] w λe w'=>e = .returned (.tuple #[kR,.int .i64 0])/\Fr [] w w':=by
 refine (R9 r (aO 2 []) 2 [] w (λv _=>v=kR) (PO r O R F n M t lab (aO 2 []) w h.box h.fs h.nop (by rw[nU];decide) h.pw ho.has 2 [] ho.read) (λw' ao f hr=>(qn4 ao 0 w').mono λe fK ⟨he,f2⟩=>⟨kR,he,rfl,f2⟩)).mono λe w' ⟨v,he,hv,f⟩=>⟨by rw[he,hv],f⟩
theorem Sb (h:Rp w r O R F n M t lab m) {tid:LB} (iq:pJ tid [] au co msg) (ho:Has t 1 (bq tid [] au co msg)) :
  Calls Tryz.prog 83 #[.func (.func 36) #[.pointer (some ⟨r,0,none⟩)] #[],.string (str (aO 1 (bq tid [] au co msg)))] w λe w'=>∃pa,e = .returned (.tuple #[kN tid pa 0 au co msg,.int .i64 0])/\Fr [] w w':=by
 refine (R9 r (aO 1 (bq tid [] au co msg)) 1 (bq tid [] au co msg) w (λv _=>∃pa,v=kN tid pa 0 au co msg) (PO r O R F n M t lab _ w h.box h.fs h.nop (by rw[nU];decide) h.pw ho.has 1 _ ho.read) (λw' ao f hr=>(qks iq ao _ _ rfl m w' hr (f.cell h.mx.cell (by simp))).mono λe fK ⟨pa,he,_,f2⟩=>⟨_,he,⟨pa,rfl⟩,f2⟩)).mono λe w' ⟨v,he,⟨pa,hv⟩,f⟩=>⟨pa,by rw[he,hv],f⟩
theorem zb5 (h:Rp w r O R F n M t lab m) (iq:pJ (aO 2 []) [] au co msg) (ho:Has t 1 (bq (aO 2 []) [] au co msg)) (ht:Has t 2 []) (bg:aO 2 []≠aO 1 (bq (aO 2 []) [] au co msg)) (ra:OA) (rc:Nat) (hr:Cs w ra [.string (str (aO 1 (bq (aO 2 []) [] au co msg)))]) (x:Int) (hx:9<=x/\x<=1000000000) :
  Calls Tryz.prog 70 #[.func (.func 36) #[.pointer (some ⟨r,0,none⟩)] #[],.slice ra 1 rc,.int .i64 x] w λe w'=>e = .returned (.int .i64 0)/\Fr [] w w':=by
 obtain⟨T,hT⟩:=ah (aO 2 []);obtain⟨C,hC⟩:=ah (aO 1 (bq T [] au co msg));have uB:T.length=40:=by rw[hT];exact nU _ _
 have hCl:C.length=40:=by rw[hC];exact nU _ _
 have V5:T≠C:=by rw[hC,hT];exact bg
 have yj:=λw1 (f:Fr [] w w1)=>Sb (h.fr f) iq ho
 have dc:=λw1 (f:Fr [] w w1)=>YP (h.fr f) ht
 rw[<-hT]at yj dc hr;rw[<-hC]at yj hr;refine YT r ra rc w x (qm8 r C ra rc w hr (by omega) 2 (by decide) (λi=>if i=0 then [(C,0)] else [(C,1),(T,2)]) rfl (λi hi=>?_) rfl (λi hi=>?_) (λi hi=>?_) x hx)
 ·rcases (by omega:i=0\/i=1) with rfl|rfl<;>simp
 ·rcases (by omega:i=0\/i=1\/i=2) with rfl|rfl|rfl<;>simp
 ·intro w1 W B a c hk;rcases (by omega:i=0\/i=1) with rfl|rfl
  ·exact Y7 hk 0 C 0 rfl (.inl rfl) (by simp) T au co msg (by omega) (by simpa using V5) (λw2 f2=>yj w2 (hk.fr.trans f2))
  ·exact Z3 hk 1 T 2 rfl rfl (by simp) (λw2 f2=>dc w2 (hk.fr.trans f2))
theorem zb4 (h:Rp w r O R F n M t lab m) (iq:pJ (aO 2 []) [] au co msg) (ho:Has t 1 (bq (aO 2 []) [] au co msg)) (ht:Has t 2 []) (bg:aO 2 []≠aO 1 (bq (aO 2 []) [] au co msg))
  (G:Nm) (hG:G.length=40) (Gh:aO 1 (bq (aO 2 []) [] au co msg)≠G) (tQ:aO 2 []≠G) (nm tg ms:Nm) (Ns:∀w1,Fr [] w w1->Calls Tryz.prog 83 #[.func (.func 36) #[.pointer (some ⟨r,0,none⟩)] #[],.string (str G)] w1 λe w'=>e = .returned (.tuple #[mG (aO 1 (bq (aO 2 []) [] au co msg)) 1 nm tg ms,.int .i64 0])/\Fr [] w1 w')
  (ra:OA) (rc:Nat) (hr:Cs w ra [.string (str G)]) (x:Int) (hx:9<=x/\x<=1000000000) :
  Calls Tryz.prog 70 #[.func (.func 36) #[.pointer (some ⟨r,0,none⟩)] #[],.slice ra 1 rc,.int .i64 x] w λe w'=>e = .returned (.int .i64 0)/\Fr [] w w':=by
 obtain⟨T,hT⟩:=ah (aO 2 []);obtain⟨C,hC⟩:=ah (aO 1 (bq T [] au co msg));have uB:T.length=40:=by rw[hT];exact nU _ _
 have hCl:C.length=40:=by rw[hC];exact nU _ _
 have V5:T≠C:=by rw[hC,hT];exact bg
 have yj:=λw1 (f:Fr [] w w1)=>Sb (h.fr f) iq ho
 have dc:=λw1 (f:Fr [] w w1)=>YP (h.fr f) ht
 rw[<-hT]at yj dc Ns Gh tQ;rw[<-hC]at yj Ns Gh;refine YT r ra rc w x (qm8 r G ra rc w hr (by omega) 3 (by decide) (λi=>if i=0 then [(G,0)] else if i=1 then [(G,4),(C,1)] else [(G,4),(C,1),(T,2)]) rfl (λi hi=>?_) rfl (λi hi=>?_) (λi hi=>?_) x hx)
 ·rcases (by omega:i=0\/i=1\/i=2) with rfl|rfl|rfl<;>simp
 ·rcases (by omega:i=0\/i=1\/i=2\/i=3) with rfl|rfl|rfl|rfl<;>simp
 ·intro w1 W B a c hk;rcases (by omega:i=0\/i=1\/i=2) with rfl|rfl|rfl
  ·exact zee hk 0 G 0 rfl rfl (by simp) C nm tg ms (by omega) (by simpa using Gh) (λw2 f2=>Ns w2 (hk.fr.trans f2))
  ·exact Y7 hk 1 C 1 rfl (.inr rfl) (by simp) T au co msg (by omega) (by simpa using⟨tQ,V5⟩) (λw2 f2=>yj w2 (hk.fr.trans f2))
  ·exact Z3 hk 2 T 2 rfl rfl (by simp) (λw2 f2=>dc w2 (hk.fr.trans f2))
set_option maxRecDepth 100000
def gW:Nm:=[114,101,102,115,47,104,101,97,100,115,47]
def wQ (w:World) (r:Nat) (new:Nm):Prop:=∀w1 ra,Fr [] w w1->Cs w1 ra [.string (str new)]->Calls Tryz.prog 70 #[.func (.func 36) #[.pointer (some ⟨r,0,none⟩)] #[],.slice ra 1 1,.int .i64 4096] w1 λe w'=>e = .returned (.int .i64 0)/\Fr [] w1 w'
theorem qr1 (h:Rp w r O R F n M t lab m) (nm old:Nm) (kd:Nat) (body:LB) (hs:wQ w r (aO kd body)) (ho:Has t kd body) (hk:Lib.hasPrefix nm gW=true->kd=1) :
  Calls Tryz.prog 27 #[.pointer (some ⟨r,0,none⟩),.agg #[.string (str nm),.string (str old),.string (str (aO kd body))]] w λe w'=>e = .returned (.int .i64 0)/\Fr [] w w':=by
 have hg:=λw' (f:Fr [] w w')=>PO r O R F n M t lab (aO kd body) w' (h.fr f).box (h.fr f).fs h.nop (by rw[nU];decide) (h.fr f).pw ho.has kd body ho.read
 have hp:=λw=>Tryz.strings_HasPrefix (str nm) (str gW) w
 rw[show Lib.hasPrefix (str nm).data.toList (str gW).data.toList=Lib.hasPrefix nm gW from rfl,show str gW=(⟨#[114,101,102,115,47,104,101,97,100,115,47]⟩:ByteArray) from rfl]at hp;obtain⟨b,hb⟩:=ah (Lib.hasPrefix nm gW);rw[<-hb]at hp hk;obtain⟨Z,hZ⟩:=ah (str nm);obtain⟨Y,hY⟩:=ah (str old);obtain⟨J,hJ⟩:=ah (str (aO kd body));unfold wQ at hs;rw[<-hZ]at hp;rw[<-hJ]at hg hs;rw[<-hZ,<-hY,<-hJ];obtain⟨w0,kz⟩:=ah (w.alloc (.cells #[.string Z,.string Y,.string J] 39));obtain⟨X,hX⟩:=ah w.heap.size;have b0:w0.heap[X]?=some (.cells #[.string Z,.string Y,.string J] 39 (0,0)):=by rw[kz,hX];exact aV w _
 have f0:Fr [] w w0:=by rw[kz];exact (Fr.refl [] w).alloc _
 have c0:=(cell_of b0 0).trans (show _=some (Value.string Z) from rfl);have c2:=(cell_of b0 2).trans (show _=some (Value.string J) from rfl);have fa:Fr [] w0 (w0.alloc (.cells #[.string J] 9)):=(Fr.refl [] w0).alloc _;have zy:=hs _ (some ⟨w0.heap.size,0,none⟩) (f0.trans fa) (oC w0 _ _ _);have H:=aQ hg hp hk zy fa;have HW:=aA kz hX f0 b0;clear hg hp hk zy fa hs ho h hZ hY hJ hb kz hX f0 b0;go_enter Tryz.func27,Tryz.ntmps27;go_upto_region 1 with fail;rw[<-HW.o0,<-HW.o1];go_upto_region 4 with (go_at_call 70;go_loud ((with_reducible refine H.out.2.2.2.1.mono ?_);rintro e w1 ⟨rfl,f1⟩;have fw:=H.out.2.2.2.2.trans f1;have d0:=fw.cell c0 (by simp);have d2:=fw.cell c2 (by simp);have H1:=af (HW.o2.trans fw);clear f1 fw));cases b with
 | true=>
  obtain rfl:=H.out.2.2.1 rfl;go_wp2_with (first
   | (go_at_call 36;go_loud (refine (H.out.1 _ H1.out).mono ?_;rintro e w2 ⟨ao,rfl,_,_,f2⟩;have e0:=f2.cell d0 (by simp);have H2:=af f2;clear f2))
   | (go_at_call 17;go_loud (refine (H.out.2.1 _).mono ?_;rintro e w3 ⟨rfl,hw⟩;obtain rfl:=hw.symm)))
  go_ret;exact⟨rfl,H1.out.trans H2.out⟩
 | false=>
  go_wp2_with (first
   | (go_at_call 36;go_loud (refine (H.out.1 _ H1.out).mono ?_;rintro e w2 ⟨ao,rfl,_,_,f2⟩;have e0:=f2.cell d0 (by simp);have H2:=af f2;clear f2))
   | (go_at_call 17;go_loud (refine (H.out.2.1 _).mono ?_;rintro e w3 ⟨rfl,hw⟩;obtain rfl:=hw.symm)))
  go_ret;exact⟨rfl,H1.out.trans H2.out⟩
theorem Zk (h:Rp w r O R F n M t lab m) (rs:List Rf) (la:OA) (lc:Nat) (nm old:Nm) (fh:List Nm) (kd:Nat) (body:LB) (hs:wQ w r (aO kd body)) (ho:Has t kd body) (hk:Lib.hasPrefix nm gW=true->kd=1)
  (mD:mO t rs) (hf:Fits rs nm old (aO kd body) fh) (hl:rj nm) (hid:Idle t) (bg:fj≠nm) (tH:Lib.hasPrefix nm kV=false)
  (nn:1<=lc/\lc<=1000) (hc:Ch w la nm old (aO kd body)) (eh:∀x∈ag la,lab x=none) (hM:200<=M) (iV:M<=100000) (dh:(n+3)*M<=1048576) (kM:n<860) :
  Calls Tryz.prog 8 #[.pointer (some ⟨r,0,none⟩),.slice la 1 lc] w λe w'=>e = .returned (.tuple #[.int .i64 1,.int .i64 0])/\∃av,Rp w' r O R F (n+5) M (aS t nm (some (aO kd body++[10]))) av m/\dS w lab w' av:=by
 have hd:=Pe h.fs;have ju:=λw' (f:Fr [] w w')=>qr1 (h.fr f) nm old kd body (λw1 ra f1 hc=>hs w1 ra (f.trans f1) hc) ho hk
 have Fv:=λw' (f:Fr [] w w')=>qyt R F n M t lab rs la lc nm old (aO kd body) fh m w' (h.fr f).rs (h.fr f).mx mD hf hl hid bg nn ⟨hc.cs.fr f (by simp)⟩ eh hM iV dh kM
 obtain⟨g,o,rfl,hh⟩:=hc.cs.at (by simp);have d0:w.cell? ⟨g,o,none⟩=some (.string (str nm)):=hh 0 _ rfl;have d1:w.cell? ⟨g,o+1,none⟩=some (.string (str old)):=hh 1 _ rfl;have d2:w.cell? ⟨g,o+2,none⟩=some (.string (str (aO kd body))):=hh 2 _ rfl;have c1:=(cell_of h.box.box 1).trans (show _=some (Value.pointer (some ⟨R,0,none⟩)) from rfl);have c2:=(cell_of h.box.box 2).trans (show _=some (Value.pointer (some ⟨F,0,none⟩)) from rfl);obtain⟨Z,hZ⟩:=ah (str nm);obtain⟨Y,hY⟩:=ah (str old);obtain⟨J,hJ⟩:=ah (str (aO kd body));have e1:J.toList≠[]:=by rw[hJ,ay];intro e;have:=nU (kd:Int) body;rw[e]at this;cases this
 have e2:J.toList.isEmpty=false:=by simpa using e1
 rw[<-hZ]at d0 ju;rw[<-hY]at d1 ju;rw[<-hJ]at d2 ju;have H:=aQ hd ju Fv h tH;clear hd ju Fv h hh hc hs ho hk mD hf hl hid bg eh hZ hY hJ tH;go_enter Tryz.func8,Tryz.ntmps8;go_wp2_with (go_at_call 19;go_loud (refine H.o0.mono ?_;rintro e w1 ⟨rfl,hw⟩;obtain rfl:=hw.symm));go_loopg [16] 1 (λk s16 wr=>∃j:Nat,s16 = .int .i64 (j:Nat)/\j+k=1/\(j=0->wr=w)/\Fr [] w wr);case atStart=>exact⟨0,rfl,by omega,λ_=>rfl,Fr.refl _ _⟩
 case round=>
  obtain⟨j,rfl,fP,k0,f⟩:=hrel;by_cases hj:j=0
  ·obtain rfl:gk=0+1:=by omega
   obtain rfl:=k0 hj;subst hj;clear k0 f;go_wp2_with (go_at_call 27;go_loud ((with_reducible refine (H.o1 _ ((Fr.refl [] _).alloc _)).mono ?_);rintro e w2 ⟨rfl,f2⟩;have H2:=af (((Fr.refl [] _).alloc _).trans f2);clear f2));go_roundg 0;case measure=>omega
   case rel=>exact⟨1,rfl,by omega,(λh=>by cases h),H2.out⟩
  ·obtain rfl:j=1:=by omega
   obtain rfl:gk=0:=by omega
   have g1:=f.cell c1 (by simp);have F1:=af f;clear k0 f;go_wp2_with (go_at_call 28;go_loud ((with_reducible refine (H.o2 _ F1.out).mono ?_);rintro e w3 ⟨rfl,uK,k3,s3⟩;have H3:=ai k3 s3;clear k3 s3));go_ret2;have hs:=(dS.refl w lab F1.out).trans H3.l1;refine⟨rfl,uK,H.o3.step H3.o0.fs hs (λk hk=>?_),hs⟩;unfold aS;rw[if_neg (λe=>by rw[e,H.l4]at hk;cases hk)];exact H.o3.nop k hk
end ob
namespace ob
open Go Go.RowKit lib fs lo
set_option maxRecDepth 100000
theorem zaf {tid:LB} {ps:List (List UInt8)} {au co msg:LB} (iq:pJ tid ps au co msg) (M:Nat) (la ia:OA) (lc ic:Nat) (pa:OA) (ids:List (List UInt8)) (m:Int) (w:World)
  (h:jT w M la ia lc ic 2 [.iface 197 (.agg #[.slice none 0 0]),kN tid pa ps.length au co msg] ids) (hcs:Cs w pa (ps.map λp=>Value.string (str p))) (dW:(bq tid ps au co msg).length<=65536) (hm:w.cell? ⟨2,0,none⟩=some (.int .i64 m)) :
  Calls Tryz.prog 22 #[.pointer (some ⟨M,0,none⟩)] w λe w'=>e = .returned (.int .i64 0)/\Fr [] w w':=by
 have hkt:∀(f:Nat) (w:World),(method (f+1) 197 (.agg #[.slice none 0 0]) "Kind").run Tryz.prog w = .ok (431,(.agg #[.slice none 0 0])) w:=λ_ _=>by kernel_rfl
 have xD:∀(f:Nat) (w:World),(method (f+1) 197 (.agg #[.slice none 0 0]) "Bytes").run Tryz.prog w = .ok (430,(.agg #[.slice none 0 0])) w:=λ_ _=>by kernel_rfl
 have hkc:∀(f:Nat) (w:World),(method (f+1) 132 (.agg #[.string (str tid),.slice pa ps.length ps.length,.string (str au),.string (str co),.string (str msg)]) "Kind").run Tryz.prog w = .ok (424,(.agg #[.string (str tid),.slice pa ps.length ps.length,.string (str au),.string (str co),.string (str msg)])) w:=λ_ _=>by kernel_rfl
 have CF:∀(f:Nat) (w:World),(method (f+1) 132 (.agg #[.string (str tid),.slice pa ps.length ps.length,.string (str au),.string (str co),.string (str msg)]) "Bytes").run Tryz.prog w = .ok (423,(.agg #[.string (str tid),.slice pa ps.length ps.length,.string (str au),.string (str co),.string (str msg)])) w:=λ_ _=>by kernel_rfl
 obtain⟨g,o,eh,hc⟩:=(qK h.objs).at (by simp);have d0:=hc 0 _ rfl;have d1:=hc 1 _ rfl;have dI:2<=lc:=by obtain⟨_,_,e,h1,_⟩:=um h.objs;injection e with _ _ e3;omega
 subst eh;have c0:=(cell_of h.box 0).trans (show _=some (Value.slice (some ⟨g,o,none⟩) 2 lc) from rfl);have z0:=aT h.box 0;obtain⟨Y,hY⟩:=ah ((bq tid ps au co msg).length);have hB:∀wr,Cs wr pa (ps.map λp=>Value.string (str p))->Calls Tryz.prog 423 #[.agg #[.string (str tid),.slice pa ps.length ps.length,.string (str au),.string (str co),.string (str msg)]] wr λe w'=>∃a,e = .returned (.slice a Y Y)/\lib.Rd w' a Y (bq tid ps au co msg)/\Fr [] wr w':=λwr Jr=>by rw[hY];exact TD tid ps pa au co msg wr (by rw[iq.xq.len];decide) (λp hp=>by rw[(iq.uw p hp).len];decide) iq.few iq.hau.2 iq.hco.2 iq.hmsg Jr
 have hP:∀wr a,lib.Rd wr a Y (bq tid ps au co msg)->wr.cell? ⟨2,0,none⟩=some (.int .i64 m)->Calls Tryz.prog 57 #[.int .i64 1,.slice a Y Y] wr λe w'=>∃v,e = .returned (.tuple #[v,.int .i64 0])/\Fr [] wr w':=λwr a hr hm=>(qks iq a Y Y hY m wr hr hm).mono λe w' ⟨pa4,he,_,f⟩=>⟨_,he,f⟩
 rw[<-hY]at dW;have HB:=ai hB hP;clear hB hP hY;have H:=cU iq hcs dW hm d0 d1;clear h iq hcs dW hm hc d0 d1;go_enter Tryz.func22,Tryz.ntmps22;go_wp2;go_loopg [13] 2 (λk s13 wr=>∃i:Nat,s13 = .int .i64 (i:Nat)/\i+k=2/\Fr [] w wr);case atStart=>exact⟨0,rfl,by omega,Fr.refl _ _⟩
 case round=>
  obtain⟨i,rfl,cQ,kk⟩:=hrel;have KK:=af kk;clear kk c0 z0;by_cases h0:i=0
  ·obtain rfl:gk=1+1:=by omega
   have d:wr.cell? ⟨g,o,none⟩=some (.iface 197 (.agg #[.slice none 0 0])):=KK.out.cell H.o4 (by simp);go_wp2_with (first
    | (go_at_call 430;refine (Ul _).mono ?_;rintro e w2 ⟨rfl,f2⟩;have H2:=af f2;clear f2)
    | (go_at_call 431;refine (sQ _ _).mono ?_;rintro e w3 ⟨rfl,f3⟩;have H3:=af f3;clear f3)
    | (go_at_call 57;refine (qn4 none 0 _).mono ?_;rintro e w4 ⟨rfl,f4⟩;have H4:=af f4;clear f4))
   go_roundg 1;case measure=>omega
   case rel=>exact⟨1,rfl,by omega,((KK.out.trans H2.out).trans H3.out).trans H4.out⟩
  ·by_cases h1:i=1
   ·obtain rfl:gk=0+1:=by omega
    have d:wr.cell? ⟨g,o+1,none⟩=some (.iface 132 (.agg #[.string (str tid),.slice pa ps.length ps.length,.string (str au),.string (str co),.string (str msg)])):=KK.out.cell H.l5 (by simp);have zbJ:=H.o2;go_wp2_with (first
     | (go_at_call 423;refine (HB.o0 _ (H.o1.fr KK.out (by simp))).mono ?_;rintro e w2 ⟨a2,rfl,r2,f2⟩;have H2:=af f2;have R2:=af r2;clear f2 r2)
     | (go_at_call 424;refine (pB _ _ _ _ _ _).mono ?_;rintro e w3 ⟨rfl,f3⟩;have H3:=af f3;clear f3)
     | (go_at_call 57;refine (HB.l1 _ a2 (R2.out.fr H3.out) (((KK.out.trans H2.out).trans H3.out).cell H.o3 (by simp))).mono ?_;rintro e w4 ⟨v4,rfl,f4⟩;have H4:=af f4;clear f4))
    go_roundg 0;case measure=>omega
    case rel=>exact⟨2,rfl,by omega,((KK.out.trans H2.out).trans H3.out).trans H4.out⟩
   ·obtain rfl:i=2:=by omega
    go_wp2;go_ret;exact⟨rfl,KK.out⟩
open pk
variable {t:Nm->Option (List UInt8)}
set_option maxRecDepth 100000
theorem ze7 (w:World):Calls Tryz.prog 18 #[.slice none 0 0] w λe w'=>e = .returned (.bool true)/\Fr [] w w':=by
 have nj:=@run_makeMap Tryz.prog;go_enter Tryz.func18,Tryz.ntmps18;go_upto_block 0 with fail;obtain⟨w1,aJ⟩:=ah (w.alloc (.map #[] 0));have f1:Fr [] w w1:=by rw[aJ];exact (Fr.refl [] w).alloc _
 rw[<-aJ];have F1:=af f1;clear aJ f1 nj;go_wp2;go_loopg [12] 0 (λk s12 wr=>s12 = .int .i64 0/\wr=w1);case atStart=>exact⟨rfl,rfl⟩
 case round=>
  obtain⟨rfl,hw⟩:=hrel;rw[hw];clear hw;go_wp2;go_loopg [45] 0 (λk s45 wr=>s45 = .int .i64 0/\wr=w1);case atStart=>exact⟨rfl,rfl⟩
  case round=>obtain⟨rfl,rfl⟩:=hrel;go_wp2;go_ret;exact⟨rfl,F1.out⟩
def oz:Nm:=[114,101,102,115]
structure pK (t:Nm->Option (List UInt8)):Prop where
 refs:∀k,Lib.hasPrefix k oz=true->t k=none
 packed:t gC=none
 nop:iZ t
structure GV (x:Nm):Prop where
 refs:Lib.hasPrefix x oz=false
 packed:x≠gC
 nop:Lib.hasPrefix x kV=false
theorem pK.aS {t:Nm->Option (List UInt8)} (h:pK t) {x:Nm} (hx:GV x) (v:Option (List UInt8)):pK (aS t x v):=by
 refine⟨λk hk=>?_,?_,λk hk=>?_⟩
 ·unfold fs.aS;rw[if_neg (λe=>by rw[e,hx.refs]at hk;cases hk)];exact h.refs k hk
 ·unfold fs.aS;rw[if_neg (λe=>hx.packed e.symm)];exact h.packed
 ·unfold fs.aS;rw[if_neg (λe=>by rw[e,hx.nop]at hk;cases hk)];exact h.nop k hk
theorem pK.idle (h:pK t):Idle t:=⟨h.refs _ (by decide),h.refs _ (by decide),h.refs _ (by decide)⟩
theorem pK.ok (h:pK t):mO t []:=by refine⟨h.packed,⟨by decide,λx y e=>by cases e⟩,λss hl=>?_,λx hx=>by cases hx⟩;rw[qg,List.filter_eq_nil_iff];intro x hx hp;have:=(hl.2.2 x).1 hx;refine this (h.refs x ?_);unfold Lib.hasPrefix at hp ⊢;simp only[oA,oz]at hp ⊢;rcases x with _|⟨a,_|⟨b,_|⟨c,_|⟨d,r⟩⟩⟩⟩<;>simp_all
theorem yM (k:Int) (body:LB):GV (az (aO k body)):=by
 have ho:=Al k body;unfold az;rw[if_pos ho.hash];have hp:=ho.plain;have hl:=ho.len;obtain⟨I,hI⟩:=ah (aO k body);rw[<-hI]at hp hl ⊢;rcases I with _|⟨a,_|⟨b,r⟩⟩
 ·cases hl
 ·cases hl
 ·have ha:=(hp a (by simp)).2;have:a≠112:=λe=>by rw[e]at ha;exact absurd ha (by decide)
  have hb:(112==a)=false:=by simpa using λe=>this (Eq.symm e)
  refine⟨rfl,by simp[objs,gC],?_⟩;show List.isPrefixOf kV (111::98::106::101::99::116::115::47::a::b::47::r)=false;simp only[kV,List.isPrefixOf,hb,Bool.false_and,Bool.and_false]
end ob

end Go.Proofs.YticadfhpolhkeaaGreatDoor