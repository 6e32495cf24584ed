/-
  part
-/
import Derived.Test.YtddhegejmkgmjaaGreatProg
import Derived.Test.YtddhegejmkgmjaaGreatZer
namespace Go.Proofs.YtddhegejmkgmjaaGreat
open Go.RowKit
set_option linter.unusedVariables false
set_option maxRecDepth 100000
set_option maxHeartbeats 4000000
theorem rL:(Tryz.prog.info? 3).map (λi=>(i.zero,i.size,i.bytes))=some (some (.int .i64 0),1,8):=by kernel_rfl
theorem ag.none_ {k:IntKind} {w:World} {b0:Nat} {e:TypeId} {A:Option Addr} {n c:Nat} {l:List Int} (h:ag k w b0 e A n c l):ag k w b0 e A 0 c []:=by
 refine⟨rfl, ?_⟩;rcases h.2 with ⟨p,s,o⟩ | ⟨g,a,m,j,f,r,d,b,q⟩
 · exact .inl ⟨p,rfl,o⟩
 · exact .inr ⟨g,a,m,j,f,Nat.zero_le _,d,b,λi hi=>ω⟩
def UX (w:World) (e:Ending) (w':World):Prop:=∃A c,e= .returned (.slice A 0 c)/\ag .i64 w' w.heap.size 3 A 0 c []/\Below w.heap.size w w'
theorem MZ (w:World) (N:Nat) (o:N<=1000000):Calls Tryz.prog 138 #[.slice none 0 0, .int .i64 N] w (UX w):=by
 obtain⟨i,hi,c,a,b⟩ :=info_parts rL;have Hi:=η hi;have u:=η c;have t:=η a;have s:=η b;have r:(0:Int)<=N/\(N:Int)<=1000000:=ω;have l:=dr (P:=Tryz.prog) 51 3 Tryz.underlying51 hi a none 0 0 (j:=0) ω;obtain⟨h,d2,w2,m,f,d,n⟩ :=oI (P:=Tryz.prog) w .i64 w.heap.size 51 3 51 3 i 8 .i64 .i64 Tryz.underlying51 Tryz.underlying3 hi c a b (ag.br) N ω ω (Nat.le_refl _);have p:=dr (P:=Tryz.prog) 51 3 Tryz.underlying51 hi a h (0+N) d2 (j:=0) ω;have e:Below w.heap.size w w2:=(Below.refl _ w).grown d (Nat.le_refl _) (by simp [aa]);have g:=η (⟨f,e⟩ :_/\_);clear hi c a b o f d n e;rcases Nat.eq_zero_or_pos N with k | hp
 · subst k;go_enter Tryz.func138,Tryz.ntmps138
   go_wp2_with fail
   go_ret
   exact⟨none,0,rfl,ag.br,Below.refl _ _⟩
 · have q:(0:Int)<N:=ω;clear hp;go_enter Tryz.func138,Tryz.ntmps138
   go_wp2_with (at_builtin;refine Lib.wpList_append_run _ rfl _ _ _ _ rfl _ _ rfl rfl _ _ m ?_)
   go_ret
   exact⟨h,d2,rfl,g.out.1.none_,g.out.2⟩
def CcA (w:World) (b d:Nat) (k:Nat) (c a:Value) (wr:World):Prop:=
 ∃i s:Nat,c= .int .i64 s/\a= .int .i64 i/\wr=w/\Hid ((i=0/\s=0)\/(i=1/\s=b)\/(i=2/\s=b+d))/\Hid (k=2-i)
def CcB (w:World) (b e:List Int) (k:Nat) (d a:Value) (wr:World):Prop:=
 ∃(i m c:Nat) (A:Option Addr) (L:List Int),d= .slice A m c/\a= .int .i64 i/\ag .i64 wr w.heap.size 3 A m c L/\Below w.heap.size w wr/\Hid ((i=0/\L=[])\/(i=1/\L=b)\/(i=2/\L=b++e))/\Hid (k=2-i)
def MkI (w:World) (L:List Int) (e:Ending) (w':World):Prop:=∃A n c,e= .returned (.slice A n c)/\ag .i64 w' w.heap.size 3 A n c L/\Below w.heap.size w w'
theorem F4 (w:World) (g B:Nat) (S:g<w.heap.size) (A1 M:Option Addr) (d c1 b c2:Nat) (l k:List Int) (z:w.cell? ⟨g,0,none⟩ =some (.slice A1 d c1)) (y:w.cell? ⟨g,1,none⟩ =some (.slice M b c2)) (V:aT .i64 w B A1 d l) (U:aT .i64 w B M b k) (T:B<=w.heap.size) (kW:d<=400000) (jh:b<=400000):
  Calls Tryz.prog 132 #[.slice (some ⟨g,0,none⟩) 2 2] w (MkI w (l++k)):=by
 obtain⟨P,hi,r,o,n⟩ :=info_parts rL;have Hi:=η hi;have Y:=η r;have X:=η o;have W:=η n;have rE:(0:Int)<=d/\(d:Int)<=400000/\(0:Int)<=b/\(b:Int)<=400000:=ω;have H1:=η V;have H2:=η U;have HB:=η T;have Z:=η S;have J:=η (⟨z,y⟩ :_/\_);clear hi r o n V U T kW jh S z y;go_enter Tryz.func132,Tryz.ntmps132
 go_wp2_with fail
 go_loopg [3,11] 2 (CcA w d b)
 case atStart=>exact⟨0,0,rfl,rfl,rfl, .inl ⟨rfl,rfl⟩,rfl⟩
 case round=>
  obtain⟨i,s,rfl,rfl,hw,a,Q⟩ :=hrel;obtain rfl:=hw.symm;obtain⟨d0,d1⟩ :=J.out;rcases a.out with ⟨rfl,rfl⟩ | ⟨rfl,rfl⟩ | ⟨rfl,rfl⟩
  · clear a
    go_wp2_with fail
    go_roundg 1
    case measure=>have:=Q.out;omega
    case rel=>exact⟨1,d,rfl,rfl,rfl, .inr (.inl ⟨rfl,rfl⟩),rfl⟩
  · obtain⟨t,ht⟩ :=ν (s+b);have ac:(s:Int)+(b:Int)=(t:Int):=ω;have ab:(0:Int)<=t/\(t:Int)<=800000:=ω;have HT:=η ht;clear a ht
    go_wp2_with fail
    go_roundg 0
    case measure=>have:=Q.out;omega
    case rel=>exact⟨2,t,rfl,rfl,rfl, .inr (.inr ⟨rfl,HT.out.symm⟩),rfl⟩
  · obtain⟨t,ht⟩ :=ν (d+b);have u:t<=1000000:=ω;rw[ht];have I:=η (MZ w t u);clear a ht u
    go_wp2_with fail
    refine I.out.mono ?_;rintro e w5 ⟨A,c,rfl,h,f⟩;have R:Hid (CcB w l k 2 (.slice A 0 c) (.int .i64 0) w5):= ⟨0,0,c,A,[],rfl,rfl,h,f, .inl ⟨rfl,rfl⟩,rfl⟩;clear h f d0 d1
    go_wp2_with fail
    go_loopg [6,27] 2 (CcB w l k)
    case atStart=>exact R.out
    case round=>
     clear R;obtain⟨i,m,c,A,L,rfl,rfl,h,f,a,x⟩ :=hrel;have v:=h.1;have e0:wr.cell? ⟨g,0,none⟩ =some (.slice A1 d c1):=(f.cell (p:= ⟨g,0,none⟩) Z.out).trans J.out.1;have e1:wr.cell? ⟨g,1,none⟩ =some (.slice M b c2):=(f.cell (p:= ⟨g,1,none⟩) Z.out).trans J.out.2;have O:=(H1.out.more HB.out).below f;have N:=(H2.out.more HB.out).below f;have E:=f.size;have D:=H1.out.1;have C:=H2.out.1;have HM:=η (⟨v,D,C⟩ :_/\_/\_);rcases a.out with ⟨rfl,rfl⟩ | ⟨rfl,rfl⟩ | ⟨rfl,rfl⟩
     · have H:m+d<=1000000000000:=by simp at v;omega
       clear a v D C
       go_wp2_with (at_builtin;(refine au .i64 w.heap.size 3 P 8 rfl (.tmp 31) (.tmp 32) _ rfl Tryz.underlying51 Hi.out Y.out X.out W.out rfl h rfl O H ω E ?_);intro K d4 w4 G j bG)
       go_roundg 1
       case measure=>have:=x.out;omega
       case rel=>exact⟨1,m+d,d4,K,l,rfl,rfl,G,f.grown j E (λq F=>(h.2.lt F).1), .inr (.inl ⟨rfl,rfl⟩),rfl⟩
     · have H:m+b<=1000000000000:=ω;clear a v D C
       go_wp2_with (at_builtin;(refine au .i64 w.heap.size 3 P 8 rfl (.tmp 31) (.tmp 32) _ rfl Tryz.underlying51 Hi.out Y.out X.out W.out rfl h rfl N H ω E ?_);intro K d4 w4 G j bG)
       go_roundg 0
       case measure=>have:=x.out;omega
       case rel=>exact⟨2,m+b,d4,K,L++k,rfl,rfl,G,f.grown j E (λq F=>(h.2.lt F).1), .inr (.inr ⟨rfl,rfl⟩),rfl⟩
     · clear a v D C e0 e1 O N
       go_wp2_with fail
       go_ret
       exact⟨A,m,c,rfl,h,f⟩
end Go.Proofs.YtddhegejmkgmjaaGreat
