/-
  part
-/
import Derived.Test.YtdhmnlpfhfmpfaaGreatPk30
import Derived.Test.YtdhmnlpfhfmpfaaGreatPk32
import Derived.Test.YtdhmnlpfhfmpfaaGreatPk34
namespace Go.Proofs.YtdhmnlpfhfmpfaaGreat
open Go.RowKit
set_option linter.unusedVariables false
set_option maxRecDepth 100000
set_option maxHeartbeats 8000000
theorem a2e {d c a b:List Int} (j:vh d a) (g:vh c b) (i:∀v∈a,0<=v/\v<256) (h:∀v∈b,0<=v/\v<256) (l:a.length+b.length<=1048576):
  (gz ((p9 oo d a++p9 oo c b).length+1) (p9 oo d a++p9 oo c b) 1048576 false).1=a++b/\(gz ((p9 oo d a++p9 oo c b).length+1) (p9 oo d a++p9 oo c b) 1048576 false).2.2=8:=by
 obtain⟨f,hf⟩ :∃f,(p9 oo d a++p9 oo c b).length=f+1+1:= ⟨(p9 oo d a++p9 oo c b).length-2,by rw[af,vC,vC];omega⟩;rw[hf,EX oq δ j i ω (EU oq g.bit)];have e:=EX (f:=f+1) (m:=1048576-a.length) (k:=true) (y:=[]) oq δ g h ω (λv hv=>by cases hv);rw[ax]at e;rw[e,EY];exact⟨σ,rfl⟩
theorem YA {b a j:List Int} (h:vh b a) (g:∀v∈a,0<=v/\v<256) (e:∀v∈j,0<=v/\v<256) (d:a.length<=1048576) (i:0<j.length) (c:ix j 0≠31):
  (gz ((p9 oo b a++j).length+1) (p9 oo b a++j) 1048576 false).2.2=2:=by
 obtain⟨f,hf⟩ :∃f,(p9 oo b a++j).length=f+1:= ⟨(p9 oo b a++j).length-1,by rw[af];omega⟩;rw[hf,EX oq δ h g d e];exact YB i c
theorem gjoins_law (A:Option Addr) (n cp:Nat) (a:List Int) (A':Option Addr) (n' cp':Nat) (b:List Int) (lev:Int) (C:Option Addr) (m cm:Nat) (Fs:List Int) (w:World) (hA:InC .u8 w A n cp a) (dl:InC .u8 w A' n' cp' b) (Lt:(Lit.int .i64 lev).wf=true) (hC:InC .u8 w C m cm Fs):
  Calls Tryz.prog 4 #[.slice A n cp, .slice A' n' cp', .int .i64 lev, .slice C m cm] w λe w'=>e= .returned (.bool true)/\Below w.heap.size w w':=by
 obtain⟨hr,bE,CH,eL,cq⟩ :=hA;obtain⟨E,bB,N,Uh,co⟩ :=dl;obtain⟨f,bx,M,cr,cl⟩ :=hC;have F:∀v∈a,0<=v/\v<256:=λv hv=>bounds_u8 (CH v hv);have Z:∀v∈b,0<=v/\v<256:=λv hv=>bounds_u8 (N v hv);have Y:∀v∈Fs,0<=v/\v<256:=λv hv=>bounds_u8 (M v hv);have yI:=xM Lt;have hm:=hr.1;have PU:=E.1;have U:=f.1;by_cases kg:1000<n\/1000<n'\/100<m
 · have cH:(1000:Int)<n\/(¬(1000:Int)<n/\(1000:Int)<n')\/(¬(1000:Int)<n/\¬(1000:Int)<n'/\(100:Int)<m):=ω;clear hr bE CH eL cq E bB N Uh co f bx M cr cl F Z Y hm PU U kg Lt yI;rcases cH with h | ⟨h,h1⟩ | ⟨h,h1,h2⟩
   all_goals
    go_enter Tryz.func4,Tryz.ntmps4
    go_wp2_with fail;refine(mJ w).mono ?_;rintro e wa ⟨rfl,I9⟩
    go_wp2_with fail;go_ret;exact⟨rfl,I9⟩
 have xj:¬(1000:Int)<n/\¬(1000:Int)<n'/\¬(100:Int)<m:=ω;have bv:n<=1000/\n'<=1000/\m<=100:=ω;obtain⟨I,hi,al,u,g⟩ :=aJ od;have Hi:=η (⟨hi,al,u,g⟩ :_/\_/\_/\_);have cx:=η (Df w lev yI A n cp a hr eL F bv.1);have HX:=η (⟨hr,E,f⟩ :_/\_/\_);have c:=η (⟨F,Z,Y,hm,PU,U,Uh⟩ :_/\_/\_/\_/\_/\_/\_);clear hr bE CH eL cq E bB N Uh co f bx M cr cl F Z Y hm PU U kg Lt yI hi al u g;go_enter Tryz.func4,Tryz.ntmps4
 go_wp2_with fail;refine cx.out.mono ?_;rintro r w1 ⟨A1,k1,c1,B1,rfl,rR,u,Gn,G⟩;have cw:=η (Df w1 9 δ A' n' cp' b ((HX.out.2.1.below G).more G.size) c.out.2.2.2.2.2.2 c.out.2.1 bv.2.1);have H:=η (⟨rR,u,Gn,G⟩ :_/\_/\_/\_);clear rR u Gn G cx
 go_wp2_with fail;refine cw.out.mono ?_;rintro r w2 ⟨A2,k2,c2,B2,rfl,jt,g,dk,ac⟩;have z:=(H.out.1.keeps ac).rd;have ct:=H.out.2.2.2.trans (ac.mono H.out.2.2.2.size);have yF:k1<=13000:=by rw[H.out.1.1,vC,xm];have h1:=H.out.2.2.1;have h2:=c.out.2.2.2.1;show 10+_+8<=_;omega
 have eb:k2<=13000:=by rw[jt.1,vC,xm];have h2:=c.out.2.2.2.2.1;show 10+_+8<=_;omega
 have X:=EU (o:=a) oq H.out.2.1.bit;have W:=EU (o:=b) oq g.bit;have ZW:=a2e H.out.2.1 g c.out.1 c.out.2.1 (by have:=c.out;omega);have Uq:=λh0 hx=>YA H.out.2.1 c.out.1 (j:=Fs) c.out.2.2.1 (by have:=c.out;omega) h0 hx;obtain⟨x,hx⟩ :=ν (p9 oo B1 a);obtain⟨y,hy⟩ :=ν (p9 oo B2 b);rw[hx]at z ZW X Uq;rw[hy]at jt ZW W;have D:=z;have aE:=jt.rd;have PR:=z.1;have ca:=jt.1;have l:=η (⟨z,ct,X,W,ZW,Uq,PR,ca⟩ :_/\_/\_/\_/\_/\_/\_/\_);clear jt g dk ac z ct cw X W ZW Uq hx hy PR ca H;have bo:=D.alloc (ag _) (.cells #[] 5);have UE:=aW.lit (k:= .u8) (w:=w2) (b0:=w2.heap.size) rfl [] 5 (ag _) σ;have ap:w2.heap.size<=(w2.alloc (.cells #[] 5)).heap.size:=σ
 go_upto_region 5 with (first
  | (at_builtin;(refine ba .u8 w2.heap.size 5 I 1 rfl (.tmp 37) (.tmp 38) _ rfl Tryz.underlying22 Hi.out.1 Hi.out.2.1 Hi.out.2.2.1 Hi.out.2.2.2 rfl UE rfl bo ξ ω ap ?_)
     intro dP dz w3 ZI ch db;have Z3:Below w2.heap.size w2 w3:=(((bj.refl w2 (λq=>w2.heap.size<=q)).alloc _).grown ch (λq d=> .inl (UE.2.lt d).1)).below (λ_ h=>h) (ag _);have T:=aE.below Z3;have Q:=Z3.size;simp only [List.nil_append,Nat.zero_add]at ZI)
  | (have _g:=T;at_builtin;(refine ba .u8 w2.heap.size 5 I 1 rfl (.tmp 39) (.tmp 40) _ rfl Tryz.underlying22 Hi.out.1 Hi.out.2.1 Hi.out.2.2.1 Hi.out.2.2.2 rfl ZI rfl T ω ω Q ?_)
     intro cD cB w4 bs cg da;have Z4:Below w2.heap.size w2 w4:=Z3.grown cg Q (λq d=>(ZI.2.lt d).1)))
 clear ZI ch db Z3 T Q cg da bo UE ap;have J:=η (yi w4 cD (k1+k2) cB (x++y) bs.rd (λv hv=>(aN.1 hv).elim (l.out.2.2.1 v) (l.out.2.2.2.1 v)) (by rw[af];have:=l.out;omega));have H4:=η (⟨l.out.2.1.trans (Z4.mono l.out.2.1.size),l.out.1.below Z4⟩ :_/\_);have kG:=Z4.size;clear bs Z4 D aE
 go_wp2_with fail;refine J.out.mono ?_;rintro r s ⟨A5,k5,c5,rfl,jL,kY⟩;rw[l.out.2.2.2.2.1.1]at jL;rw[l.out.2.2.2.2.1.2];have YU:=H4.out.1.trans (kY.mono H4.out.1.size);have D:=((H4.out.2.more kG).below kY).more kY.size;have f:=(HX.out.2.2.below YU).more YU.size;have H5:=η (⟨jL,YU,D⟩ :_/\_/\_);clear jL kY YU J H4 kG;have bl:=D.alloc (ag _) (.cells #[] 5);have UF:=aW.lit (k:= .u8) (w:=s) (b0:=s.heap.size) rfl [] 5 (ag _) σ;have ao:s.heap.size<=(s.alloc (.cells #[] 5)).heap.size:=σ
 go_wp2_with (first
  | (at_builtin;(refine ba .u8 s.heap.size 5 I 1 rfl (.tmp 48) (.tmp 49) _ rfl Tryz.underlying22 Hi.out.1 Hi.out.2.1 Hi.out.2.2.1 Hi.out.2.2.2 rfl UF rfl bl ξ ω ao ?_)
     intro dy du w6 ZJ ce cX;have Z6:Below s.heap.size s w6:=(((bj.refl s (λq=>s.heap.size<=q)).alloc _).grown ce (λq d=> .inl (UF.2.lt d).1)).below (λ_ h=>h) (ag _);have S:=f.below Z6;have P:=Z6.size;simp only [List.nil_append,Nat.zero_add]at ZJ)
  | (have _g:=S;at_builtin;(refine ba .u8 s.heap.size 5 I 1 rfl (.tmp 50) (.tmp 51) _ rfl Tryz.underlying22 Hi.out.1 Hi.out.2.1 Hi.out.2.2.1 Hi.out.2.2.2 rfl ZJ rfl S ω ω P ?_)
     intro cA cz w7 bp cd cW;have ab:Below s.heap.size s w7:=Z6.grown cd P (λq d=>(ZJ.2.lt d).1)))
 clear ZJ ce cX Z6 S P cd cW bl UF ao;have J:=η (yi w7 cA (k1+m) cz (x++Fs) bp.rd (λv hv=>(aN.1 hv).elim (l.out.2.2.1 v) (c.out.2.2.1 v)) (by rw[af];have:=l.out;have:=c.out;omega));have H7:=η (⟨ab,H5.out.2.2.below ab⟩ :_/\_);clear bp ab D f;refine J.out.mono ?_;rintro r p ⟨A8,k8,c8,rfl, -,rj⟩;have Ua:=H7.out.1.trans (rj.mono H7.out.1.size);have YV:=H5.out.2.1.trans (Ua.mono H5.out.2.1.size);have D:=(H5.out.2.2.below Ua).more Ua.size;have f:=(HX.out.2.2.below YV).more YV.size;obtain⟨V,hV⟩ :=ν ((gz ((x++Fs).length+1) (x++Fs) 1048576 false).2.2);rw[hV];have H8:=η (⟨H5.out.1.keeps Ua,YV,D,hV⟩ :_/\_/\_/\_);clear rj Ua YV J H7 hV;have bi:=D.alloc (ag _) (.cells #[] 5);have UG:=aW.lit (k:= .u8) (w:=p) (b0:=p.heap.size) rfl [] 5 (ag _) σ;have an:p.heap.size<=(p.alloc (.cells #[] 5)).heap.size:=σ
 go_wp2_with (first
  | (at_builtin;(refine ba .u8 p.heap.size 5 I 1 rfl (.tmp 57) (.tmp 58) _ rfl Tryz.underlying22 Hi.out.1 Hi.out.2.1 Hi.out.2.2.1 Hi.out.2.2.2 rfl UG rfl bi ξ ω an ?_)
     intro ds dq w9 ZK cc cL;have Z7:Below p.heap.size p w9:=(((bj.refl p (λq=>p.heap.size<=q)).alloc _).grown cc (λq d=> .inl (UG.2.lt d).1)).below (λ_ h=>h) (ag _);have R:=f.below Z7;have O:=Z7.size;simp only [List.nil_append,Nat.zero_add]at ZK)
  | (have _g:=R;at_builtin;(refine ba .u8 p.heap.size 5 I 1 rfl (.tmp 59) (.tmp 60) _ rfl Tryz.underlying22 Hi.out.1 Hi.out.2.1 Hi.out.2.2.1 Hi.out.2.2.2 rfl ZK rfl R ω ω O ?_)
     intro b0P b0Q JI UJ ck dj;have cs:Below p.heap.size p JI:=Z7.grown ck O (λq d=>(ZK.2.lt d).1)))
 clear ZK cc cL Z7 R O ck dj bi UG an;have J:=η (yh JI b0P (k1+m) b0Q (x++Fs) 1048576 UJ.rd UJ.2.jD (λv hv=>(aN.1 hv).elim (l.out.2.2.1 v) (c.out.2.2.1 v)) (by rw[af];have:=l.out;have:=c.out;omega) δ);have S8:=η cs;clear UJ cs D f;refine J.out.mono ?_;rintro r cE ⟨ef,RU,ee,rfl, -,I8⟩;have Ub:=S8.out.trans (I8.mono S8.out.size);have cv:=H8.out.2.1.trans (Ub.mono H8.out.2.1.size);rw[H8.out.2.2.2];have XN:=η (⟨H8.out.1.keeps Ub,cv⟩ :_/\_);clear I8 Ub cv J S8
 go_wp2_with fail;refine(mJ cE).mono ?_;rintro r t ⟨rfl,ln⟩;have Dl:=XN.out.2.trans (ln.mono XN.out.2.size);have UT:=(HX.out.1.below Dl).more Dl.size;have rq:=(HX.out.2.1.below Dl).more Dl.size;have ah:=η (⟨XN.out.1.keeps ln,Dl⟩ :_/\_);clear ln Dl;have be:=UT.alloc (ag _) (.cells #[] 5);have UH:=aW.lit (k:= .u8) (w:=t) (b0:=t.heap.size) rfl [] 5 (ag _) σ;have am:t.heap.size<=(t.alloc (.cells #[] 5)).heap.size:=σ
 go_wp2_with (first
  | (at_builtin;(refine ba .u8 t.heap.size 5 I 1 rfl (.tmp 72) (.tmp 73) _ rfl Tryz.underlying22 Hi.out.1 Hi.out.2.1 Hi.out.2.2.1 Hi.out.2.2.2 rfl UH rfl be ξ ω am ?_)
     intro b2F b2G X4 NF cj de;have Ny:Below t.heap.size t X4:=(((bj.refl t (λq=>t.heap.size<=q)).alloc _).grown cj (λq d=> .inl (UH.2.lt d).1)).below (λ_ h=>h) (ag _);have UZ:=rq.below Ny;have Va:=Ny.size;simp only [List.nil_append,Nat.zero_add]at NF)
  | (have _g:=UZ;at_builtin;(refine ba .u8 t.heap.size 5 I 1 rfl (.tmp 74) (.tmp 75) _ rfl Tryz.underlying22 Hi.out.1 Hi.out.2.1 Hi.out.2.2.1 Hi.out.2.2.2 rfl NF rfl UZ ω ω Va ?_)
     intro b0R b0S K bt ci dd;have Ue:Below t.heap.size t K:=Ny.grown ci Va (λq d=>(NF.2.lt d).1)))
 clear NF cj de Ny UZ Va ci dd be UH am;have Ae:=ah.out.2.trans (Ue.mono ah.out.2.size);have L:bU .u8 K K.heap.size A5 k5 (a++b):=((ah.out.1.keeps Ue).rd);have yq:=η (Jl K K.heap.size k5 c5 (n+n') b0S A5 b0R _ _ L bt.rd (by have:=L.1;rw[af]at this;have:=c.out;omega) rfl);have f:=HX.out.2.2.below Ae;have bX:∀q,Hid (Below w.heap.size w (K.drewN q)):=λq=> ⟨Ae.os,Ae.tape,Ae.output,Ae.size,Ae.block⟩;clear Ae L bt Ue UT rq;refine yq.out.mono ?_;rintro r ea ⟨rfl,nq,rfl⟩;have bI:=c.out.2.2.2.2.2.1;by_cases AO:m=0
 · clear bI f;subst AO
   go_wp2_with fail;go_ret;exact⟨rfl,(bX nq).out⟩
 obtain⟨ad,rfl, -,c0⟩ :=f.at_ (i:=0) ω;have dp:(K.drewN nq).cell? ad=some (.int .u8 (ix Fs 0)):=c0;have Gu:¬(m:Int)=0/\(0:Int)<(m:Int):=ω;have Lx:((m:Int)==0)=false:=ξ;have B:=l.out.2.2.2.2.2.1 ω;rw[H8.out.2.2.2]at B;obtain⟨j0,cb⟩ :=ν (ix Fs 0);rw[cb]at B c0 dp;clear f cb AO bI;by_cases hj:j0=31
 · subst hj;clear B
   go_wp2_with fail;go_ret;exact⟨rfl,(bX nq).out⟩
 obtain rfl:=B hj;have ec:(j0==31)=false:=by simpa using hj
 clear B
 go_wp2_with fail;go_ret;exact⟨rfl,(bX nq).out⟩
end Go.Proofs.YtdhmnlpfhfmpfaaGreat
