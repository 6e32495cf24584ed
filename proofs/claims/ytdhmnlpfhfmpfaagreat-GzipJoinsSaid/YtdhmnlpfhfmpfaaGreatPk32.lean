/-
  part
-/
import Derived.Test.YtdhmnlpfhfmpfaaGreatPk31
set_option linter.unusedVariables false
set_option maxRecDepth 100000
set_option maxHeartbeats 8000000
namespace Go.Proofs.YtdhmnlpfhfmpfaaGreat
open Go.RowKit
theorem Ep.pre {w:World} {b0:Nat} {c:Nat->Nat} {T:GT} {a:List Int} {k:List (List Int)} {i:Nat} {Z:GR} (h:Ep w b0 c T a k i Z):∃t,T.1=a++t:=by
 rcases h with ⟨_,_,_,f,_,_,_,e⟩ | ⟨m,gd,M,S,y,m0,f,b,g,_,_,_,_,_,_,_,_,e,_,d,_,_, ⟨_,_,_,_,_,_,j,_⟩ | ⟨_,_,_,l,_⟩⟩
 · rw[e];exact⟨_,rfl⟩
 · obtain⟨t,ht⟩ :=j.pre;rw[e,d];show∃t,b++((eU y m0).1.all++(gT f (eU y m0) m0).1)=b++g++t;exact⟨M.out++(t++(gT f (eU y m0) m0).1),by rw[ht];simp⟩
 rw[e,d];show∃t,b++((eU y m0).1.all++(gT f (eU y m0) m0).1)=b++g++t;exact⟨(gT f (eU y m0) m0).1,by rw[l,ak]⟩
def GtR (w:World) (b0 g:Nat) (E:Nat->Prop) (T:GT) (a:List Int) (n:Nat) (gk:Nat) (i h:Value) (wr:World):Prop:=
 ∃A k cp l e c d Z H b f,i= .slice A k cp/\h= .int .i64 e/\aW .u8 wr w.heap.size 5 A k cp l/\k<=n/\qZ wr b0 g c d Z H b/\Ep wr (g+1) c T (a++l) b f Z/\(Z.en=true/\Z.m<=1000000000/\Z.l.length<=1000000)/\Ext b0 w wr E (gX g c d Z.A Z.Ah)/\(∀q,ai A=some q->¬gX g c d Z.A Z.Ah q)/\
  ((Z.err=0/\e=0)\/(Z.err≠0/\Z.err=T.2.2/\a++l=T.1/\b=T.2.1))/\Hid (gk=if Z.err=0 then(n-k)+f+1 else 0)
def GtE (T:GT) (a:List Int) (b:List (List Int)) (n:Nat) (l:List Int) (r:Int):Prop:=
 (∃t,T.1=a++l++t)/\((r=0/\l.length=n)\/(l.length<n/\a++l=T.1/\b=T.2.1/\((l≠[]/\r=5)\/(l=[]/\r=T.2.2))))
def zy (w:World) (b0 g:Nat) (E:Nat->Prop) (T:GT) (a:List Int) (n:Nat) (e:Ending) (w':World):Prop:=
 ∃A k cp l r E' b,e= .returned (.tuple #[.slice A k cp, .int .i64 r])/\aW .u8 w' w.heap.size 5 A k cp l/\(∀q,ai A=some q->¬E' q)/\Kb w' b0 g E' T (a++l) b/\Ext b0 w w' E E'/\GtE T a b n l r
theorem wZ (w:World) (b0 g:Nat) (E:Nat->Prop) (T:GT) (a:List Int) (ap:List (List Int)) (h:Kb w b0 g E T a ap) (n:Nat) (hn:n<=1000000000):
  Calls Tryz.prog 15 #[.pointer (some ⟨g,0,none⟩), .int .i64 n] w (zy w b0 g E T a n):=by
 obtain⟨i0,hi,ao,an,am⟩ :=aJ jl;have Hi:=η (⟨hi,ao,an,am⟩ :_/\_/\_/\_);have xj:(0:Int)<=n/\(n:Int)<=1000000000:=ω;have HB:=η hn;have bx:=η h.low
 have kZ:∃k,GtR w b0 g E T a n k (.slice none 0 0) (.int .i64 0) w:=by
  obtain⟨c,XB,Z,H,rk,h1,h2,X,h4,h5,rfl,h6⟩ :=h;refine⟨_,none,0,0,[],0,c,XB,Z,H,ap,rk,rfl,rfl,aW.dK,aF _,h1,by rw[ax];exact h2, ⟨X,h4,h5⟩,Ext.refl _ _ _,λq b=>by simp [ai]at b, ?_,rfl⟩;rw[ax];by_cases e:Z.err=0
  · exact .inl ⟨e,rfl⟩
  exact .inr ⟨e,h6.resolve_left e⟩
 obtain⟨k0,kZ⟩ :=kZ;have HI:=η kZ;clear h kZ hi ao an am hn;go_enter Tryz.func15,Tryz.ntmps15
 go_wp2_with fail;go_loopg [6,7] k0 (GtR w b0 g E T a n)
 case atStart=>exact HI.out
 clear HI;obtain⟨A,k,cp,l,e,c,XB,Z,H,hs,rk,rfl,rfl,ho,yG,h1,h2,X,Y,hA,kB,hg⟩ :=hrel;obtain⟨-, -, -, -, -, -, -,k7,k8⟩ :=h1.cells;have z8:=h1.Rp (i:=8) ω;have qh:(k:Int)<=(n:Int)/\(0:Int)<=k:=ω;have j:=ho.1;by_cases P:k<n/\Z.err=0
 rotate_left
 · obtain⟨t,ht⟩ :=h2.pre
   have ac:Hid (Kb wr b0 g (gX g c XB Z.A Z.Ah) T (a++l) hs):= ⟨c,XB,Z,H,rk,h1,h2,X.1,X.2.1,X.2.2,rfl,by
    rcases kB with ⟨h,_⟩ | ⟨_,h⟩
    · exact .inl h
    exact .inr h⟩
   have u:Hid (∀r,((r=0/\l.length=n)\/(l.length<n/\a++l=T.1/\hs=T.2.1/\((l≠[]/\r=5)\/(l=[]/\r=T.2.2))))->zy w b0 g E T a n (.returned (.tuple #[.slice A k cp, .int .i64 r])) wr):=λr hr=> ⟨A,k,cp,l,r,_,hs,rfl,ho,hA,ac.out,Y, ⟨t,ht⟩,hr⟩;have HL:=η (⟨j,kB,Y, ⟨t,ht⟩⟩ :k=l.length/\((Z.err=0/\e=0)\/(Z.err≠0/\Z.err=T.2.2/\a++l=T.1/\hs=T.2.1))/\Ext b0 w wr E (gX g c XB Z.A Z.Ah)/\∃t,T.1=a++l++t);obtain⟨er,G⟩ :=ν (Z.err);rw[G]at k8;have R:=η G;clear h1 h2 X hA kB ho Y j k7 z8 ht;by_cases V:k<n
   rotate_left
   · obtain rfl:k=n:=ω;have Zu:¬(k:Int)<(k:Int):=ω;have bs:decide (k<k)=false:=aO ω;have hf:Hid (zy w b0 g E T a k (.returned (.tuple #[.slice A k cp, .int .i64 0])) wr):=u.out 0 (.inl ⟨rfl,HL.out.1.symm⟩);clear P G u R V hg
     go_wp2_with fail;go_returns;exact hf.out
   have Zu:(k:Int)<(n:Int):=ω;have bs:decide (n<=k)=false:=aO ω;have Zm:er≠0:=λh=>P ⟨V,G.trans h⟩;have cc:(er==0)=false:=by simpa using Zm
   have uq:er=T.2.2/\a++l=T.1/\hs=T.2.1:=by
    rcases HL.out.2.1 with ⟨h,_⟩ | ⟨_,h⟩
    · rw[R.out]at h;exact absurd h Zm
    rw[R.out]at h;exact h
   by_cases Dp:0<k
   · have Zr:(0:Int)<(k:Int):=ω;have hf:Hid (zy w b0 g E T a n (.returned (.tuple #[.slice A k cp, .int .i64 5])) wr):=u.out 5 (.inr ⟨by rw[<-HL.out.1];exact V,uq.2.1,uq.2.2, .inl ⟨λh=>by have:=HL.out.1;rw[h]at this;simp at this;omega,rfl⟩⟩);clear uq P G u Zm R hg
     go_wp2_with fail;go_returns;exact hf.out
   have Zr:¬(0:Int)<(k:Int):=ω;have ca:decide (0<k)=false:=aO Dp;have F:l=[]:=aC (by rw[<-HL.out.1];omega)
   have hf:Hid (∀q,zy w b0 g E T a n (.returned (.tuple #[.slice none 0 0, .int .i64 er])) (wr.drewN q)):=λq=>by
    have bv:Below wr.heap.size wr (wr.drewN q):=(bj.drewN (bj.refl wr (λ_=>False)) q).below (λ_ h=>h.elim) (ag _);refine⟨none,0,0,[],er,_,hs,rfl,aW.dK,λq b=>by simp [ai]at b, ?_,HL.out.2.2.1.trans ⟨(bj.drewN (bj.refl wr (λ_=>False)) q).below (λ_ h=>h.elim) ac.out.low,bj.drewN (bj.refl _ _) q,λk V=> .inl V⟩, ?_, .inr ⟨ξ,by rw[<-F];exact uq.2.1,uq.2.2, .inr ⟨rfl,uq.1⟩⟩⟩
    · have:=ac.out.keeps bv;rw[F]at this;exact this
    have:=HL.out.2.2.2;rw[F]at this;exact this
   clear uq P G u Zm R F hg
   go_wp2_with fail;go_quiet (fail)
   go_wp2_with fail;go_returns;exact hf.out _
 obtain⟨V,gU⟩ :=P;obtain rfl:e=0:=(kB.resolve_right (λh=>h.1 gU)).2;have Zu:(k:Int)<(n:Int):=ω;obtain⟨J,hJ⟩ :=ν (n-k);have cd:(n:Int)-(k:Int)=(J:Int)/\(0:Int)<(J:Int):=ω;have O:=Px wr b0 g c XB Z H hs T (a++l) rk h1 h2 X.1 gU X.2.1 X.2.2 J ω (by have:=HB.out;omega);have HS:=η O;have HG:=η (⟨Y,hA,j,hJ,yG,V⟩ :_/\_/\_/\_/\_/\_);have HO:=η ho;have bl:Hid (gk=(n-k)+rk+1):=by have:=hg.out;rw[ae gU]at this;exact this
 rw[gU]at k8;clear O h1 h2 X Y hA kB ho j hJ V k7 z8 gU hg
 go_wp2_with fail;refine HS.out.mono ?_;rintro e w5 ⟨A5,U,d5,l5,r,z,Q,m,H5,D,B,rfl,pP,bp,s1,s2,s3,s4,s5,s6,s7,y⟩;obtain⟨Y,hA,j,hJ,yG,V⟩ :=HG.out;have NB:=pP.1;have bt:k+U<=n:=ω;have K6:aW .u8 w5 w.heap.size 5 A k cp l:=s7.2.1.eH HO.out (λq b=>hA q b)
 have ri:∀q,ai A=some q->¬gX g z Q m.A m.Ah q:=λq b h9=>by
  rcases s7.2.2 q h9 with h8 | h8
  · exact hA q b h8
  have:=(HO.out.2.lt b).2;omega
 have ab:w.heap.size<=w5.heap.size:=au Y.1.size s7.1.size;have Rw:Ext b0 w w5 E (gX g z Q m.A m.Ah):=Y.trans s7;have ad:b0<=w.heap.size:=bx.out
 have iX:Hid (∀o x d,aW .u8 d w.heap.size 5 o (k+U) x (l++l5)->w5.grownBy d (ai A)->(ai o=ai A\/ai o=some w5.heap.size)->
   qZ d b0 g z Q m H5 D/\Ep d (g+1) z T (a++(l++l5)) D B m/\Ext b0 w d E (gX g z Q m.A m.Ah)/\∀q,ai o=some q->¬gX g z Q m.A m.Ah q):=λo x d v L W=>by
  have Cy:bj w5 d (λq=>ai A=some q):=(bj.refl w5 _).grown L λq b=> .inl b;refine⟨s1.fz Cy (λq b=> ⟨λs=>ri q b (.inl s),λs=>ri q b (.inr (.inl s)),λs=>ri q b (.inr (.inr (.inl s))),λs=>ri q b (.inr (.inr (.inr (.inl s))))⟩) (λq b=> ⟨(s1.cb q b).1,aD (s1.cb q b).2 Cy.size⟩) (λ_ _ s=>s), ?_, ?_,λq b=> ?_⟩
  · rw[<-ak]
    exact s2.aside Cy (λq b=>by
     by_cases s:z q=0
     · exact s
     exact absurd (.inr (.inr (.inr (.inr s)))) (ri q b)) ⟨rfl,rfl,rfl,rfl,rfl,rfl,rfl,rfl,rfl⟩
  · refine⟨Rw.1.grown L (au ad ab) (λq b=>au ad (K6.2.lt b).1),Rw.2.1.grown L (λq b=> .inr (K6.2.lt b).1),λq b=>Rw.2.2 q b⟩
  rcases W with s | s
  · exact ri q (by rw[<-s];exact b)
  rw[s]at b;injection b with b;intro h9;have:=(s1.Gf q h9).2;omega
 have Gt:(k:Int)+(U:Int)<=(n:Int):=ω;have HC:=η y;have HP:=η (⟨s3,s4,s5,s6,NB,j,V,hJ⟩ :_/\_/\_/\_/\_/\_/\_/\_);have ah:=η (⟨bt,yG⟩ :_/\_);have bI:k+U<=1000000000:=by have:=HB.out;omega
 clear y s1 s2 s3 s4 s5 s6 s7 ri Rw NB j hJ Y hA bp ad;have hr:=HC.out;clear HC;rcases hr with ⟨rfl,aE⟩ | ⟨UQ,F,nT,bi,be⟩
 · have bo:Hid ((n-(k+U))+B+1<gk):=by
    show _<gk;rw[bl.out];have:=HP.out.2.2.2.2.1;have:=ah.out;rcases aE with h | ⟨h,h'⟩ <;> omega
   clear aE
   go_wp2_with (at_builtin;(refine ba .u8 w.heap.size 5 i0 1 rfl (.tmp 35) (.tmp 36) _ rfl Tryz.underlying22 Hi.out.1 Hi.out.2.1 Hi.out.2.2.1 Hi.out.2.2.2 rfl K6 rfl pP ω ω ab ?_)
                intro o x d v L W;obtain⟨f,K,I,C⟩ :=iX.out o x d v L W;obtain⟨-, -, -, -, -, -, -,N,M⟩ :=f.cells;rw[HP.out.1]at N;rw[HP.out.2.1]at M;have al:=f.Rp (i:=8) ω)
   have XR:=η (⟨f,K,I,C,v⟩ :_/\_/\_/\_/\_);clear f K I C v L W iX K6 pP;go_roundg ((n-(k+U))+B+1)
   case measure=>exact bo.out
   obtain⟨f,K,I,C,v⟩ :=XR.out;exact⟨o,k+U,x,l++l5,0,z,Q,m,H5,D,B,rfl,rfl,v,ah.out.1,f,K, ⟨HP.out.1,HP.out.2.2.1,HP.out.2.2.2.1⟩,I,C, .inl ⟨HP.out.2.1,rfl⟩,by show _=_;rw[ae HP.out.2.1]⟩
 subst F;have HR:=η (⟨nT,bi,be⟩ :_/\_/\_);have bE:(r==0)=false:=by simpa using UQ
 have XT:=η UQ;have Ut:Hid (0<gk):=by show 0<gk;rw[bl.out];omega
 have bX:Hid (∀o x d,aW .u8 d w.heap.size 5 o (k+U) x (l++[])->qZ d b0 g z Q m H5 D->Ep d (g+1) z T (a++(l++[])) D B m->Ext b0 w d E (gX g z Q m.A m.Ah)->(∀q,ai o=some q->¬gX g z Q m.A m.Ah q)->
   GtR w b0 g E T a n 0 (.slice o (k+U) x) (.int .i64 r) (d.setCell ⟨g,8,none⟩ (.int .i64 r))):=λo x d v f K I C=>by
  have y:bj d (d.setCell ⟨g,8,none⟩ (.int .i64 r)) (λk=>k=g):=bj.setCell (S:=λk=>k=g) (bj.refl d _) (p:= ⟨g,8,none⟩) (.inl rfl) _;refine⟨o,k+U,x,l++[],r,z,Q,{ m with err:=r },H5,D,B,rfl,rfl,v.far (p:= ⟨g,8,none⟩) (λs=>C g s (.inl rfl)) _,ah.out.1,f.turn y ((f.cell.bC (i:=8) ω _).congr (Cp rfl rfl rfl rfl rfl rfl rfl rfl rfl)) (f.a43 y) ⟨rfl,rfl,rfl⟩ f.sm,K.aside y (λq b=>by rw[b];exact f.cg) ⟨rfl,rfl,rfl,rfl,rfl,rfl,rfl,rfl,rfl⟩, ⟨HP.out.1,HP.out.2.2.1,HP.out.2.2.2.1⟩,I.trans (Ext.of (y.more λq b=>(.inl b:gX g z Q m.A m.Ah q)) (λq b=>(f.Gf q b).1) f.low λq b=> .inl b),C, ?_,by show _=_;rw[aa XT.out]⟩;exact .inr ⟨XT.out,HR.out.2.2,by rw[ax];exact HR.out.1,HR.out.2.1⟩
 clear nT be bi UQ;by_cases h5:r=5
 · subst h5
   go_wp2_with (at_builtin;(refine ba .u8 w.heap.size 5 i0 1 rfl (.tmp 35) (.tmp 36) _ rfl Tryz.underlying22 Hi.out.1 Hi.out.2.1 Hi.out.2.2.1 Hi.out.2.2.2 rfl K6 rfl pP ω ω ab ?_)
                intro o x d v L W;obtain⟨f,K,I,C⟩ :=iX.out o x d v L W;obtain⟨-, -, -, -, -, -, -,N,M⟩ :=f.cells;rw[HP.out.1]at N;rw[HP.out.2.1]at M;have al:=f.Rp (i:=8) ω)
   have hz:=η (bX.out o x d v f K I C);clear f K I C v L W iX K6 pP bX;go_roundg 0
   case measure=>exact Ut.out
   case rel=>exact hz.out
 have ch:(r==5)=false:=by simpa using h5
 have bB:¬r=0:=XT.out;have ce:¬r=5:=h5;clear h5
 go_wp2_with (at_builtin;(refine ba .u8 w.heap.size 5 i0 1 rfl (.tmp 35) (.tmp 36) _ rfl Tryz.underlying22 Hi.out.1 Hi.out.2.1 Hi.out.2.2.1 Hi.out.2.2.2 rfl K6 rfl pP ω ω ab ?_)
              intro o x d v L W;obtain⟨f,K,I,C⟩ :=iX.out o x d v L W;obtain⟨-, -, -, -, -, -, -,N,M⟩ :=f.cells;rw[HP.out.1]at N;rw[HP.out.2.1]at M;have al:=f.Rp (i:=8) ω)
 have hz:=η (bX.out o x d v f K I C);clear f K I C v L W iX K6 pP bX;go_roundg 0
 case measure=>exact Ut.out
 case rel=>exact hz.out
theorem Yy {T:GT} {a:List Int} {d:List (List Int)} {n:Nat} {l:List Int} {r:Int} (h:GtE T a d n l r) (e:a=T.1) (g:0<n):l=[]/\d=T.2.1/\r=T.2.2:=by
 obtain⟨⟨t,ht⟩,f⟩ :=h
 have b:l=[]:=by
  have c:=aL List.length ht;rw[<-e,af,af]at c;exact aC ω
 rcases f with ⟨_,h⟩ | ⟨_,_,c, ⟨h,_⟩ | ⟨_,h⟩⟩
 · rw[b]at h;simp at h;omega
 · exact absurd b h
 exact⟨b,c,h⟩
def a4p (w:World) (g:Nat) (T:GT) (gk:Nat) (c b:Value) (wx:World):Prop:=∃(i:Nat) (Ao:Option Addr) (no co:Nat) (a:List Int) (E:Nat->Prop) (hs:List (List Int)),
 c= .slice Ao no co/\b= .int .i64 i/\aW .u8 wx w.heap.size 5 Ao no co a/\(∀k,ai Ao=some k->¬E k)/\Kb wx w.heap.size g E T a hs/\(i*1000=a.length\/(a=T.1/\i*1000<=a.length+1000))/\(∃t,T.1=a++t)/\Below w.heap.size w wx/\gk=3000-i
def Sp (w:World) (x:List Int) (e:Ending) (w':World):Prop:=∃A k c,e= .returned (.tuple #[.slice A k c, .int .i64 (gz (x.length+1) x 1048576 false).2.2])/\aW .u8 w' w.heap.size 5 A k c (gz (x.length+1) x 1048576 false).1/\Below w.heap.size w w'
theorem yi (w:World) (A:Option Addr) (n cp:Nat) (x:List Int) (hr:bU .u8 w w.heap.size A n x) (R:∀v∈x,0<=v/\v<256) (f:x.length<=1000000):
  Calls Tryz.prog 18 #[.slice A n cp] w (Sp w x):=by
 obtain⟨i0,hi,I,G,F⟩ :=aJ jl;have Hi:=η (⟨hi,I,G,F⟩ :_/\_/\_/\_);have Z:=η (⟨hr,R,f⟩ :_/\_/\_);clear hi I G F hr R f;go_enter Tryz.func18,Tryz.ntmps18
 go_wp2_with fail;refine(Dc w 1048576 1048576 δ).mono ?_;rintro e w1 ⟨g,rfl,u,s⟩;have HF:=η (zX w1 w.heap.size g 1048576 u w.heap.size n cp A x (Z.out.1.below s) Z.out.2.1 (by have:=Z.out.2.2;omega));have Es:=η (⟨s,u.lo⟩ :_/\_);clear u s
 go_wp2_with fail;refine HF.out.mono ?_;rintro e w2 ⟨A2,n2,c2,rfl,B,x2, -⟩;have HE:=η (Db w2 w.heap.size g 1048576 n2 c2 A2 x B);have GC:=η (Es.out.1.trans (x2.below (λk b=>by rw[b];exact Es.out.2) Es.out.1.size));clear B x2
 go_wp2_with fail;refine HE.out.mono ?_;rintro e w3 ⟨rfl,Y,x3⟩;obtain⟨T,W⟩ :=ν (gz (x.length+1) x 1048576 false);have p:=Y.st δ Z.out.2.2;rw[W]at p;have c:T.1.length<=1048576:=by rw[<-W];exact TJ _ _ _ _
 have hrel:a4p w g T 3000 (.slice none 0 0) (.int .i64 0) w3:= ⟨0,none,0,0,[],_,[],rfl,rfl,aW.dK,λk b=>by simp [ai]at b,p, .inl rfl, ⟨_,rfl⟩,GC.out.trans (x3.below (λk b=>by rw[b];exact Es.out.2) GC.out.size),rfl⟩;have H3:=η hrel;have y:=η (⟨W,c⟩ :_/\_);clear hrel Y x3 HE HF p W c
 go_wp2_with fail;go_loopg [5,6] 3000 (a4p w g T)
 case atStart=>exact H3.out
 obtain⟨i,Ao,no,co,a,E,ac,rfl,rfl,ho,hs,hz,Q, ⟨t,ht⟩,hb,hg⟩ :=hrel;have c:=y.out.2;have CA:a.length<=1048576:=by rw[ht,af]at c;omega
 have P:i<=1050:=ω;have am:(i:Int)<3000/\(0:Int)<=(i:Int):=ω;have HT:=η (wZ wr w.heap.size g E T a ac hz 1000 δ);have H:=η (⟨ho,hs,Q,hb,hg,CA,P⟩ :_/\_/\_/\_/\_/\_/\_);have al:no<=1048576:=by rw[ho.1];exact CA
 clear ho hs hz Q hb hg CA P c ht
 go_wp2_with fail;refine HT.out.mono ?_;rintro e w5 ⟨A5,m,c5,l,r,E5,ab,rfl,V,K,D,J, ⟨⟨S,U⟩,o⟩⟩;have N:=J.2.1.eH H.out.1 (λk b e=>H.out.2.1 k b e);have L:∀k,ai Ao=some k->¬E5 k:=λk b e=>(J.dis (X:=λq=>ai Ao=some q) (λq hq=>(H.out.1.2.lt hq).2) (λq hq ad=>H.out.2.1 q ad hq)) k e b
 have NB:m<=1000:=by
  rw[V.1];rcases o with ⟨_,h⟩ | ⟨h,_⟩ <;> omega
 have Lu:w.heap.size<=w5.heap.size:=(H.out.2.2.2.1.trans J.1).size;have d:=η (⟨V,K,D,J, ⟨S,U⟩,o,L⟩ :_/\_/\_/\_/\(∃S,_=_)/\_/\_);have pP:=V.rd;clear K D J o L V U
 go_upto_region 10 with (at_builtin;(refine ba .u8 w.heap.size 5 i0 1 rfl (.tmp 24) (.tmp 25) _ rfl Tryz.underlying22 Hi.out.1 Hi.out.2.1 Hi.out.2.2.1 Hi.out.2.2.2 rfl N rfl pP ω ω Lu ?_)
                         intro A6 c6 w6 kQ lX iF)
 have Ug:bj w5 w6 (λk=>ai Ao=some k):=(bj.refl w5 _).grown lX (λk b=> .inl b);have C:=d.out.2.2.1.fz Ug (λk b=>d.out.2.2.2.2.2.2 k b);have mb:=(H.out.2.2.2.1.trans d.out.2.2.2.1.1).trans (Ug.below (λk b=>(H.out.1.2.lt b).1) Lu)
 have M:∀k,ai A6=some k->¬E5 k:=λk b=>by
  rcases iF with e | e
  · exact d.out.2.2.2.2.2.2 k (e▸b)
  rw[e]at b;injection b with b;intro h;have:=(d.out.2.2.1.xlt k h).2;omega
 have uv:m=l.length:=d.out.1.1;have j:=η (⟨kQ,C,mb,M,uv⟩ :_/\_/\_/\_/\_);clear Ug C mb M kQ lX iF N pP uv;by_cases h0:m=0
 · subst h0;have O:l=[]:=aC j.out.2.2.2.2.symm
   have bX:r=T.2.2/\a=T.1:=by
    rcases d.out.2.2.2.2.2.1 with ⟨_,h⟩ | ⟨_,u,_, ⟨B,_⟩ | ⟨_,B⟩⟩
    · rw[O]at h;simp at h
    · exact absurd O B
    exact⟨B,by rw[<-u,O,ax]⟩
   have z:=η (⟨O,bX⟩ :_/\_);clear O bX
   go_wp2_with fail;go_returns;refine⟨A6,no+0,c6,by rw[z.out.2.1,y.out.1];rfl, ?_,j.out.2.2.1⟩;have:=j.out.1;rw[z.out.1,ax]at this;rw[y.out.1,<-z.out.2.2];exact this
 have ap:¬(m:Int)=0/\(0:Int)<(m:Int):=ω;have ao:((m:Int)==0)=false:=by simpa using h0
 have iX:(i+1)*1000=(a++l).length\/(a++l=T.1/\(i+1)*1000<=(a++l).length+1000):=by
  have uv:=j.out.2.2.2.2
  have ah:a≠T.1:=λe=>by
   obtain⟨S,U⟩ :=d.out.2.2.2.2.1;have Y:T.1.length=a.length+l.length+S.length:=by rw[U,af,af]
   rw[<-e]at Y;omega
  have an:i*1000=a.length:=by
   rcases H.out.2.2.1 with h | ⟨h,_⟩
   · exact h
   exact absurd h ah
  rw[af];rcases d.out.2.2.2.2.2.1 with ⟨_,h⟩ | ⟨h,u,_⟩
  · exact .inl ω
  exact .inr ⟨u,ω⟩
 have pA:=η iX;clear iX h0
 go_wp2_with fail;go_roundg (3000-(i+1))
 case measure=>have:=H.out.2.2.2.2.1;have:=H.out.2.2.2.2.2.2;omega
 case rel=>exact⟨i+1,A6,no+m,c6,a++l,E5,ab,rfl,by go_num,j.out.1,j.out.2.2.2.1,j.out.2.1,pA.out,d.out.2.2.2.2.1,j.out.2.2.1,rfl⟩
end Go.Proofs.YtdhmnlpfhfmpfaaGreat
