/-
  part
-/
import Derived.Test.YtgiimmkmjpbecaaGreatZer
import Derived.Test.YtgiimmkmjpbecaaGreatProg
namespace Go.Proofs.YtgiimmkmjpbecaaGreat
open Go.RowKit
set_option linter.unusedVariables false
set_option maxRecDepth 100000
set_option maxHeartbeats 4000000
theorem xr:(Tryz.prog.info? 3).map (λi=>(i.zero,i.size,i.bytes))=some (some (.int .i64 0),1,8):=by kernel_rfl
theorem aT.none_ {k:IntKind} {w:World} {b0:Nat} {e:TypeId} {A:ax} {n c:Nat} {l:ag} (h:aT k w b0 e A n c l):aT k w b0 e A 0 c []:=by
 refine⟨rfl, ?_⟩;rcases h.2 with ⟨p,s,o⟩ | ⟨g,a,m,j,f,r,d,b,q⟩
 · exact .inl ⟨p,rfl,o⟩
 exact .inr ⟨g,a,m,j,f,aG _,d,b,λi hi=>ω⟩
def a1K (w:World) (e:Ending) (w':World):Prop:=∃A c,e= .returned (.slice A 0 c)/\aT .i64 w' w.heap.size 3 A 0 c []/\Below w.heap.size w w'
theorem Uv (w:World) (N:Nat) (hN:N<=1000000):Calls Tryz.prog 152 #[.slice none 0 0, .int .i64 N] w (a1K w):=by
 obtain⟨h,hi,c,a,b⟩ :=aL xr;have Hi:=η hi;have r:=η c;have q:=η a;have p:=η b;have n:(0:Int)<=N/\(N:Int)<=1000000:=ω;have i:=dR (P:=Tryz.prog) 80 3 Tryz.underlying80 hi a none 0 0 (j:=0) ω;obtain⟨A2,d2,w2,k,f,d,m⟩ :=tY (P:=Tryz.prog) w .i64 w.heap.size 80 3 80 3 h 8 .i64 .i64 Tryz.underlying80 Tryz.underlying3 hi c a b (aT.di) N ω ω (af _);have o:=dR (P:=Tryz.prog) 80 3 Tryz.underlying80 hi a A2 (0+N) d2 (j:=0) ω;have e:Below w.heap.size w w2:=(aw _ w).grown d (af _) (by simp [ai]);have g:=η (⟨f,e⟩ :_/\_);clear hi c a b hN f d m e;rcases bD N with hz | hp
 · subst hz
   go_in
   go_wp2_with fail;go_ret;exact⟨none,0,rfl,aT.di,aw _ _⟩
 have l:(0:Int)<N:=ω;clear hp
 go_in
 go_wp2_with (at_builtin;refine Lib.wpList_append_run _ rfl _ _ _ _ rfl _ _ rfl rfl _ _ k ?_)
 go_ret;exact⟨A2,d2,rfl,g.1.none_,g.2⟩
def CcA (w:World) (b d:Nat) (k:Nat) (c a:Value) (wr:World):Prop:=
 ∃i s:Nat,c= .int .i64 s/\a= .int .i64 i/\wr=w/\Hid ((i=0/\s=0)\/(i=1/\s=b)\/(i=2/\s=b+d))/\Hid (k=2-i)
def CcB (w:World) (b e:ag) (k:Nat) (d a:Value) (wr:World):Prop:=
 ∃(i m c:Nat) (A:ax) (L:ag),d= .slice A m c/\a= .int .i64 i/\aT .i64 wr w.heap.size 3 A m c L/\Below w.heap.size w wr/\Hid ((i=0/\L=[])\/(i=1/\L=b)\/(i=2/\L=b++e))/\Hid (k=2-i)
def MkI (w:World) (L:ag) (e:Ending) (w':World):Prop:=∃A n c,e= .returned (.slice A n c)/\aT .i64 w' w.heap.size 3 A n c L/\Below w.heap.size w w'
theorem Lt (w:World) (g B:Nat) (P:g<w.heap.size) (A1 A2:ax) (d c1 b c2:Nat) (l k:ag) (z:w.cell? ⟨g,0,none⟩ =some (.slice A1 d c1)) (y:w.cell? ⟨g,1,none⟩ =some (.slice A2 b c2)) (S:bT .i64 w B A1 d l) (R:bT .i64 w B A2 b k) (Q:B<=w.heap.size) (rz:d<=400000) (ow:b<=400000):
  Calls Tryz.prog 149 #[.slice (some ⟨g,0,none⟩) 2 2] w (MkI w (l++k)):=by
 obtain⟨M,hi,r,o,n⟩ :=aL xr;have Hi:=η hi;have V:=η r;have U:=η o;have T:=η n;have tJ:(0:Int)<=d/\(d:Int)<=400000/\(0:Int)<=b/\(b:Int)<=400000:=ω;have Z:=η S;have Y:=η R;have X:=η Q;have W:=η P;have H:=η (⟨z,y⟩ :_/\_);clear hi r o n S R Q rz ow P z y
 go_in
 go_wp2_with fail;go_loopg [3,11] 2 (CcA w d b)
 case atStart=>exact⟨0,0,rfl,rfl,rfl, .inl ⟨rfl,rfl⟩,rfl⟩
 obtain⟨i,s,rfl,rfl,hw,a,N⟩ :=hrel;obtain rfl:=hw.symm;obtain⟨d0,d1⟩ :=H.out;rcases a.out with ⟨rfl,rfl⟩ | ⟨rfl,rfl⟩ | ⟨rfl,rfl⟩
 · clear a
   go_wp2_with fail;go_roundg 1
   case measure=>have:=N.out;omega
   case rel=>exact⟨1,d,rfl,rfl,rfl, .inr (.inl ⟨rfl,rfl⟩),rfl⟩
 · obtain⟨t,ht⟩ :=ν (s+b);have ac:(s:Int)+(b:Int)=(t:Int):=ω;have ab:(0:Int)<=t/\(t:Int)<=800000:=ω;have HT:=η ht;clear a ht
   go_wp2_with fail;go_roundg 0
   case measure=>have:=N.out;omega
   case rel=>exact⟨2,t,rfl,rfl,rfl, .inr (.inr ⟨rfl,HT.symm⟩),rfl⟩
 obtain⟨t,ht⟩ :=ν (d+b);have u:t<=1000000:=ω;rw[ht];have G:=η (Uv w t u);clear a ht u
 go_wp2_with fail;refine G.mono ?_;rintro e w5 ⟨A,c,rfl,h,f⟩;have O:Hid (CcB w l k 2 (.slice A 0 c) (.int .i64 0) w5):= ⟨0,0,c,A,[],rfl,rfl,h,f, .inl ⟨rfl,rfl⟩,rfl⟩;clear h f d0 d1
 go_wp2_with fail;go_loopg [6,27] 2 (CcB w l k)
 case atStart=>exact O
 clear O;obtain⟨i,m,c,A,L,rfl,rfl,h,f,a,x⟩ :=hrel;have v:=h.1;have e0:wr.cell? ⟨g,0,none⟩ =some (.slice A1 d c1):=(f.cell (p:= ⟨g,0,none⟩) W.out).trans H.1;have e1:wr.cell? ⟨g,1,none⟩ =some (.slice A2 b c2):=(f.cell (p:= ⟨g,1,none⟩) W.out).trans H.2;have K:=(Z.more X.out).below f;have J:=(Y.more X.out).below f;have C:=f.size;have q1:=Z.1;have q2:=Y.1;have HM:=η (⟨v,q1,q2⟩ :_/\_/\_);rcases a.out with ⟨rfl,rfl⟩ | ⟨rfl,rfl⟩ | ⟨rfl,rfl⟩
 · have F:m+d<=1000000000000:=by simp at v;omega
   clear a v q1 q2
   go_wp2_with (at_builtin;(refine bm .i64 w.heap.size 3 M 8 rfl (.tmp 31) (.tmp 32) _ rfl Tryz.underlying80 Hi.out V.out U.out T.out rfl h rfl K F ω C ?_);intro I d4 w4 E j dY)
   go_roundg 1
   case measure=>have:=x.out;omega
   case rel=>exact⟨1,m+d,d4,I,l,rfl,rfl,E,f.grown j C (λq D=>(h.2.lt D).1), .inr (.inl ⟨rfl,rfl⟩),rfl⟩
 · have F:m+b<=1000000000000:=ω;clear a v q1 q2
   go_wp2_with (at_builtin;(refine bm .i64 w.heap.size 3 M 8 rfl (.tmp 31) (.tmp 32) _ rfl Tryz.underlying80 Hi.out V.out U.out T.out rfl h rfl J F ω C ?_);intro I d4 w4 E j dY)
   go_roundg 0
   case measure=>have:=x.out;omega
   case rel=>exact⟨2,m+b,d4,I,L++k,rfl,rfl,E,f.grown j C (λq D=>(h.2.lt D).1), .inr (.inr ⟨rfl,rfl⟩),rfl⟩
 clear a v q1 q2 e0 e1 K J
 go_wp2_with fail;go_ret;exact⟨A,m,c,rfl,h,f⟩
end Go.Proofs.YtgiimmkmjpbecaaGreat
