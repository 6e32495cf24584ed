/-
  part
-/
import Derived.Test.YtddhegejmkgmjaaGreatProg
import Derived.Test.YtddhegejmkgmjaaGreatPk3
import Derived.Deep.RegionHeld3
import Derived.Deep.RegionLaw
import Derived.Deep.CutBlock
import Derived.Deep.DeepCutAuto
import Derived.BigRegion
set_option linter.unusedVariables false
set_option maxRecDepth 100000
set_option maxHeartbeats 8000000
namespace Go.Proofs.YtddhegejmkgmjaaGreat
open Go.RowKit
def sv (v:Option Addr×Nat×Nat):Value:= .slice v.1 v.2.1 v.2.2
def sK (D:List El) (j:Nat):Value:=if j%2=0 then .int .i64 (el D (j/2)).1 else sv (el D (j/2)).2
theorem nT (D:List El) {i j:Nat} (h:j=i*2):sK D j= .int .i64 (el D i).1:=by subst h;unfold sK;rw[if_pos ω,show i*2/2=i by omega]
theorem rh (D:List El) {i j:Nat} (h:j=i*2+1):sK D j=sv (el D i).2:=by subst h;unfold sK;rw[if_neg ω,show(i*2+1)/2=i by omega]
def ov:Value:= .func (.func 131) #[] #[]
structure Dt (w0:World) (g n:Nat) (D:List El) (w:World):Prop where
 len:D.length=n
 cv:aq w0 w (λk=>k=g)
 ar:Ar w g (n*2) (sK D)
section
variable {w0 w w':World} {g n:Nat} {D:List El}
theorem Dt.lt (h:Dt w0 g n D w):g<w.heap.size:=h.ar.lt
theorem Dt.alloc (h:Dt w0 g n D w) (o:Obj):Dt w0 g n D (w.alloc o):= ⟨h.len,h.cv.alloc o,h.ar.alloc o⟩
theorem Dt.drewN (h:Dt w0 g n D w) (q:Nat):Dt w0 g n D (w.drewN q):= ⟨h.len,h.cv.drewN q,h.ar.drewN q⟩
theorem Dt.drew (h:Dt w0 g n D w):Dt w0 g n D w.drew:= ⟨h.len,h.cv.drew,h.ar.drew⟩
theorem Dt.keeps (h:Dt w0 g n D w) (a:Below w.heap.size w w'):Dt w0 g n D w':=
 ⟨h.len,h.cv.trans (aq.aB (S:=λ_=>False) a) λk b=>b.elim,h.ar.keeps a⟩
theorem Dt.c0 (h:Dt w0 g n D w) {i:Nat} (hi:i<n):w.cell? ⟨g,i*2,none⟩ =some (.int .i64 (el D i).1):=by rw[<-nT D rfl];exact h.ar.cell ω
theorem Dt.c1 (h:Dt w0 g n D w) {i:Nat} (hi:i<n):w.cell? ⟨g,i*2+1,none⟩ =some (sv (el D i).2):=by rw[<-rh D rfl];exact h.ar.cell ω
theorem Dt.z (h:Dt w0 g n D w) {i:Nat} (hi:i<n*2):w.frozen? ⟨g,i,none⟩ =false:=h.ar.frozen' hi
theorem Dt.aQ (h:Dt w0 g n D w) {j:Nat} (a:j<n*2) (v:Value) (c:List El) (d:c.length=n) (f:Nat->Value) (b:Ar w g (n*2) f):aq w0 (w.setCell ⟨g,j,none⟩ v) (λk=>k=g)/\Ar (w.setCell ⟨g,j,none⟩ v) g (n*2) (upd f j v):=
 ⟨h.cv.setCell (p:= ⟨g,j,none⟩) (.inl rfl) v,b.aQ a v⟩
theorem Dt.stores (h:Dt w0 g n D w) {p q:Nat} (hp:p<n) (k:q<n) (a b c:Value):
  w.frozen? ⟨g,p*2,none⟩ =false/\(w.setCell ⟨g,p*2,none⟩ a).cell? ⟨g,p*2+1,none⟩ =some (upd (sK D) (p*2) a (p*2+1))/\(w.setCell ⟨g,p*2,none⟩ a).frozen? ⟨g,p*2+1,none⟩ =false/\
  ((w.setCell ⟨g,p*2,none⟩ a).setCell ⟨g,p*2+1,none⟩ b).cell? ⟨g,q*2,none⟩ =some (upd (upd (sK D) (p*2) a) (p*2+1) b (q*2))/\((w.setCell ⟨g,p*2,none⟩ a).setCell ⟨g,p*2+1,none⟩ b).frozen? ⟨g,q*2,none⟩ =false/\
  (((w.setCell ⟨g,p*2,none⟩ a).setCell ⟨g,p*2+1,none⟩ b).setCell ⟨g,q*2,none⟩ c).cell? ⟨g,q*2+1,none⟩ =some (upd (upd (upd (sK D) (p*2) a) (p*2+1) b) (q*2) c (q*2+1))/\(((w.setCell ⟨g,p*2,none⟩ a).setCell ⟨g,p*2+1,none⟩ b).setCell ⟨g,q*2,none⟩ c).frozen? ⟨g,q*2+1,none⟩ =false:=by
 have j:=h.ar;have e:=j.aQ (i:=p*2) ω a;have d:=e.aQ (i:=p*2+1) ω b;have f:=d.aQ (i:=q*2) ω c;exact⟨j.frozen' ω,e.cell ω,e.frozen' ω,d.cell ω,d.frozen' ω,f.cell ω,f.frozen' ω⟩
theorem Dt.swp (h:Dt w0 g n D w) {p q:Nat} (hp:p<n) (m:q<n) (o:p≠q):
  Dt w0 g n (Go.Proofs.YtddhegejmkgmjaaGreat.swp D p q) ((((w.setCell ⟨g,p*2,none⟩ (.int .i64 (el D q).1)).setCell ⟨g,p*2+1,none⟩ (sv (el D q).2)).setCell ⟨g,q*2,none⟩ (.int .i64 (el D p).1)).setCell ⟨g,q*2+1,none⟩ (sv (el D p).2)):=by
 refine⟨GR.trans h.len,(((h.cv.setCell (p:= ⟨g,p*2,none⟩) (.inl rfl) _).setCell (p:= ⟨g,p*2+1,none⟩) (.inl rfl) _).setCell (p:= ⟨g,q*2,none⟩) (.inl rfl) _).setCell (p:= ⟨g,q*2+1,none⟩) (.inl rfl) _, ?_⟩;refine((((h.ar.aQ (i:=p*2) ω _).aQ (i:=p*2+1) ω _).aQ (i:=q*2) ω _).aQ (i:=q*2+1) ω _).congr λj s=> ?_
 have r:=h.len
 have e:∀i,i<n->el (Go.Proofs.YtddhegejmkgmjaaGreat.swp D p q) i=if i=p then el D q else if i=q then el D p else el D i:=λi hi=>by
  unfold Go.Proofs.YtddhegejmkgmjaaGreat.swp
  have k:∀(E:List El) (a:Nat) (v:El),a<E.length->el (E.set a v) i=if i=a then v else el E i:=λE a v l=>by
   unfold el;rw[List.getD_eq_getElem?_getD,List.getD_eq_getElem?_getD,List.getElem?_set];by_cases h:a=i
   · subst h;rw[if_pos rfl,if_pos l,if_pos rfl];rfl
   · rw[if_neg h,if_neg (λe=>h e.symm)]
  rw[k _ _ _ (by rw[List.length_set];omega),k _ _ _ ω];by_cases b:i=q
  · rw[if_pos b,if_neg ω,if_pos b]
  · rw[if_neg b,if_neg b]
 unfold upd;have d:j/2<n:=ω;by_cases t:j%2=0
 · have c:j=j/2*2:=ω;rw[nT (Go.Proofs.YtddhegejmkgmjaaGreat.swp D p q) c,e _ d];rw[if_neg ω];by_cases b:j=q*2
   · rw[if_pos b,if_neg ω,if_pos ω]
   · rw[if_neg b,if_neg ω];by_cases f:j=p*2
     · rw[if_pos f,if_pos ω]
     · rw[if_neg f,if_neg ω,if_neg ω,nT _ c]
 · have c:j=j/2*2+1:=ω;rw[rh (Go.Proofs.YtddhegejmkgmjaaGreat.swp D p q) c,e _ d];by_cases b:j=q*2+1
   · rw[if_pos b,if_neg ω,if_pos ω]
   · rw[if_neg b,if_neg ω];by_cases f:j=p*2+1
     · rw[if_pos f,if_pos ω]
     · rw[if_neg f,if_neg ω,if_neg ω,if_neg ω,rh _ c]
end
def QE (w:World) (x y:Int) (e:Ending) (w':World):Prop:=e= .returned (.int .i64 (x-y))/\Below w.heap.size w w'
theorem R9 (w:World) (x y:Int) (u v:Value) (b:0<=x/\x<=4294967296) (a:0<=y/\y<=4294967296):
  Calls Tryz.prog 131 #[.agg #[.int .i64 x,u], .agg #[.int .i64 y,v]] w (QE w x y):=by
 go_enter Tryz.func131,Tryz.ntmps131
 go_wp2
 go_ret
 exact⟨rfl,((Below.refl _ w).alloc (Nat.le_refl _) _).alloc σ _⟩
theorem mP {w0 w:World} {g n:Nat} {D:List El} (h:Dt w0 g n D w) {x y d:Int} (u v:Value) (H:Hid (x-y=d/\(0<=x/\x<=4294967296)/\(0<=y/\y<=4294967296))):
  Calls Tryz.prog 131 #[.agg #[.int .i64 x,u], .agg #[.int .i64 y,v]] w λe w'=>e= .returned (.int .i64 d)/\Dt w0 g n D w':=by
 refine(R9 w x y u v H.out.2.1 H.out.2.2).mono ?_;rintro e w' ⟨rfl,a⟩;exact⟨by rw[H.out.1],h.keeps a⟩
def fo (w0:World) (g n:Nat) (D:List El) (p q:Nat) (a e:Int) (d i:Option Addr) (b c f h:Nat) (w':World):Prop:=
 w'.cell? ⟨g,p*2,none⟩ =some (.int .i64 a)/\w'.cell? ⟨g,p*2+1,none⟩ =some (.slice d b c)/\w'.cell? ⟨g,q*2,none⟩ =some (.int .i64 e)/\w'.cell? ⟨g,q*2+1,none⟩ =some (.slice i f h)/\Dt w0 g n D w'
theorem fo.of {w0 w:World} {g n:Nat} {D:List El} {p q:Nat} {a e:Int} {d j:Option Addr} {b c f i:Nat} (H:Hid (p<n/\q<n/\el D p=(a,d,b,c)/\el D q=(e,j,f,i))) (h:Dt w0 g n D w):fo w0 g n D p q a e d j b c f i w:=by
 obtain⟨m,l,k,h4⟩ :=H.out;refine⟨?_, ?_, ?_, ?_,h⟩
 · have:=h.c0 m;rwa [k]at this
 · have:=h.c1 m;rwa [k]at this
 · have:=h.c0 l;rwa [h4]at this
 · have:=h.c1 l;rwa [h4]at this
def Sm (D:List El):Prop:=∀p∈D,0<=p.1/\p.1<=4294967296
def ZL (w0:World) (g n:Nat) (X Y c:List El) (b:Nat) (k:Nat) (a:Value) (wr:World):Prop:=
 ∃U V D,a= .int .i64 ((X.length+U.length:Nat):Int)/\Hid (D=X++(U++(V++Y)))/\Dt w0 g n D wr/\dy U/\0<U.length/\Hid ((U++V).Perm c)/\Hid (k=V.length)/\X.length+U.length+V.length=b/\Sm D/\Hid (Sep U V/\J1 V)
def ZK (w0:World) (g n:Nat) (X Y V U:List El) (x:El) (k:Nat) (a:Value) (wr:World):Prop:=
 ∃U1 U2 D,a= .int .i64 ((X.length+U1.length:Nat):Int)/\Hid (D=X++(U1++x::(U2++(V++Y))))/\Dt w0 g n D wr/\Hid (U1++U2=U)/\Hid (∀q∈U2,jZ x q)/\Hid (k=U1.length)/\Sm D
def gM (w0:World) (g n:Nat) (X a Y:List El) (e:Ending) (w':World):Prop:=∃U,e= .returned (.tuple #[])/\Dt w0 g n (X++(U++Y)) w'/\dy U/\U.Perm a
theorem Fp (l:List El):l=[]\/∃l' y,l=l'++[y]:=by
 rcases List.eq_nil_or_concat l with h | ⟨l',y,h⟩
 · exact .inl h
 · exact .inr ⟨l',y,by rw[h];simp⟩
theorem SC (w w0:World) (g n c:Nat) (X P Y D:List El) (hD:D=X++(P++Y)) (h:Dt w0 g n D w) (hn:n<=1000) (L:Sm D) (Q:0<P.length) (zD:J1 P):
  Calls Tryz.prog 139 #[.slice (some ⟨g,0,none⟩) n c, .int .i64 (X.length:Nat), .int .i64 ((X.length+P.length:Nat):Int),ov] w (gM w0 g n X P Y):=by
 obtain⟨u,H,rfl⟩ :∃u H,P=u::H:=by
  cases P with
  | nil=>simp at Q
  | cons u V=>exact⟨u,V,rfl⟩
 have J:=h.len;have W:X.length+(u::H).length<=n:=by rw[<-J,hD];simp only [List.length_append];omega
 obtain⟨K,C⟩ :=ν (X.length);obtain⟨b,hb⟩ :=ν (X.length+(u::H).length);have G6:K+1<=b/\b<=n:=by rw[<-C,<-hb];simp only [List.length_cons]at W⊢;omega
 have an:(0:Int)<=K/\(K:Int)+1<=b/\(b:Int)<=n/\(n:Int)<=1000:=ω;have HX:=η C;have HB:=η hb;have Z:Hid (ZL w0 g n X Y (u::H) b H.length (.int .i64 ((K:Int)+1)) w):= ⟨[u],H,D,by rw[<-C];simp,by show D=_;rw[hD];simp,h,List.pairwise_singleton _ _,σ,List.Perm.refl _,rfl,by rw[<-hb];simp only [List.length_cons,List.length_nil];omega,L, ⟨λp hp q E=>by rw[List.mem_singleton.1 hp];exact(List.pairwise_cons.1 zD).1 q E,(List.pairwise_cons.1 zD).2⟩⟩;rw[hb,C];unfold ov;clear hb C W J hD h L Q zD;go_enter Tryz.func139,Tryz.ntmps139
 go_wp2_with fail
 go_loopg [8] H.length (ZL w0 g n X Y (u::H) b)
 case atStart=>exact Z.out
 case round=>
  clear Z;obtain⟨U,V,D,rfl,hD,h,L,hu,hp,hk,G,l,mK⟩ :=hrel;obtain⟨p,R⟩ :=ν (X.length+U.length);rw[R]at G⊢;have I:=η R;cases V with
  | nil=>
    have Qu:¬(p:Int)<(b:Int):=by have:p=b:=G
                                 omega
    clear G R
    go_wp2_with fail
    go_end0
    exact⟨U,rfl,by rw[hD.out]at h;exact h,L,by have:=hp.out;rwa [List.append_nil]at this⟩
  | cons x V=>
    have Qu:(p:Int)<(b:Int)/\(0:Int)<=p:=by simp only [List.length_cons]at G;omega
    have F:p+1+V.length=b:=by simp only [List.length_cons]at G;omega
    have Yq:=η F;have Z:Hid (ZK w0 g n X Y V U x U.length (.int .i64 p) wr):= ⟨U,[],D,by rw[R],by show D=_;rw[hD.out];simp,h,by show _=_;simp,λq E=>by simp at E,rfl,l⟩;clear G R F hD h l
    go_wp2_with fail
    go_loopg [9] U.length (ZK w0 g n X Y V U x)
    case atStart=>exact Z.out
    case round=>
     clear Z;obtain⟨U1,U2,D,rfl,hD,h,Q,h2,ah,l⟩ :=hrel;rcases Fp U1 with rfl | ⟨U1,y,rfl⟩
     · have O:X.length+([]:List El).length=K:=HX.out;rw[O];clear O
       go_wp2_with fail
       go_quiet (fail)
       go_wp2_with fail
       go_roundg V.length
       case measure=>have:=hk.out;rw[List.length_cons]at this;omega
       case rel=>
        have e:U2=U:=Q.out;subst e;have F:=Yq.out;refine⟨x::U2,V,D, ?_, ?_,h.drewN _,List.pairwise_cons.2 ⟨h2.out,L⟩,σ, ?_,rfl, ?_,l,DI mK.out λp hp=>List.mem_cons.1 hp⟩
        · rw[<-I.out];simp;omega
        · show D=_
          rw[hD.out];simp
        · exact(List.perm_middle.symm).trans hp.out
        · have:=I.out;rw[List.length_cons];omega
     · obtain⟨j,hj⟩ :=ν (X.length+U1.length);have O:X.length+(U1++[y]).length=j+1:=by rw[List.length_append,List.length_singleton];omega
       have al:K<=j:=by have:=HX.out;omega
       have Ls:=h.len
       have qj:j+1<n:=by
        rw[hD.out]at Ls;simp only [List.length_append,List.length_cons,List.length_nil]at Ls;omega
       obtain⟨m,M⟩ :=ν (j+1);have ey:el D j=y:=by rw[hD.out,show X++(U1++[y]++x::(U2++(V++Y)))=(X++U1)++y::(x::(U2++(V++Y))) by simp];exact fU (by rw[List.length_append];exact hj.symm)
       have ex:el D m=x:=by rw[hD.out,show X++(U1++[y]++x::(U2++(V++Y)))=(X++(U1++[y]))++x::(U2++(V++Y)) by simp];exact fU (by rw[List.length_append];omega)
       have T:x∈D:=by rw[<-ex];exact gW ω
       have S:y∈D:=by rw[<-ey];exact gW ω
       have sx:=l x T;have sy:=l y S;obtain⟨f,B,v,A⟩ :=x;obtain⟨a,s,o,r⟩ :=y;replace sx:0<=f/\f<=4294967296:=sx;replace sy:0<=a/\a<=4294967296:=sy;have Ui:(0:Int)<=j/\(j:Int)<n/\(0:Int)<=m/\(m:Int)<n/\(K:Int)<m/\(j:Int)<m:=ω;have Od:(m:Int)-1=(j:Int):=ω;have ap:IntKind.i64.wrap ((m:Int)-1)=(j:Int):=by rw[IntWalk.i64_in _ ω];exact Od
       have ao:IntKind.i64.wrap (j:Int)=(j:Int):=IntWalk.i64_in _ ω;have k:=η (⟨ω,ω,ey,ex⟩ :j<n/\m<n/\el D j=(a,s,o,r)/\el D m=(f,B,v,A));obtain⟨a0,a1,b0,b1, -⟩ :=fo.of k h;rw[O,M];have ac:=η M;have HJ:=η hj;clear O M al Ls qj ey ex hj T S
       go_wp2_with fail
       obtain⟨d,hd⟩ :=ν (f-a);have HC:=η (⟨hd,sx,sy⟩ :f-a=d/\(0<=f/\f<=4294967296)/\(0<=a/\a<=4294967296));have ab:d<0↔f<a:=ω;have LP:=η ab;clear hd sx sy ab;by_cases ad:d<0
       ·
        go_region_held3 (λw'=>w'.cell? ⟨g,j*2,none⟩ =some (.int .i64 a)/\w'.cell? ⟨g,j*2+1,none⟩ =some (.slice s o r)/\w'.cell? ⟨g,m*2,none⟩ =some (.int .i64 f)/\w'.cell? ⟨g,m*2+1,none⟩ =some (.slice B v A)/\Dt w0 g n D w')
         (first | exact fo.of k t | exact fo.of k h | exact fo.of k h.drew)
         (first | (go_at_call 131;(refine(mP (by first | exact h | exact h.drew) _ _ HC).mono ?_);rintro e w5 ⟨rfl,t⟩))
        obtain⟨a0,a1,b0,b1, -⟩ :=fo.of k t;have Yh:=t.z (i:=j*2) (by have:=k.out.1;omega);have Yi:=t.z (i:=j*2+1) (by have:=k.out.1;omega);have Yj:=t.z (i:=m*2) (by have:=k.out.2.1;omega);have Yk:=t.z (i:=m*2+1) (by have:=k.out.2.1;omega);obtain⟨z0,c1,z1,c2,z2,c3,z3⟩ :=t.stores k.out.2.1 k.out.1 (.int .i64 a) (.slice s o r) (.int .i64 f)
        go_wp2_with fail
        go_region
        have h6:=(t.swp k.out.2.1 k.out.1 (by have:=ac.out;omega)).drew;rw[k.out.2.2.1,k.out.2.2.2]at h6;clear z0 c1 z1 c2 z2 c3 z3 Yh Yi Yj Yk a0 a1 b0 b1 h
        all_goals
         go_wp2_with fail
         go_roundg U1.length
         case measure=>have:=ah.out;rw[List.length_append,List.length_singleton]at this;omega
         case rel=>
          have e0:D=(X++U1)++(a,s,o,r)::([]++(f,B,v,A)::(U2++(V++Y))):=by rw[hD.out];simp
          have e9:Go.Proofs.YtddhegejmkgmjaaGreat.swp D m j=X++(U1++(f,B,v,A)::((a,s,o,r)::U2++(V++Y))):=by
           have G:(X++U1).length=j:=by rw[List.length_append];exact HJ.out
           rw[DY,e0,tT G.symm (by rw[G,<-ac.out];simp)];simp
          refine⟨U1,(a,s,o,r)::U2,_,by rw[HJ.out],e9,h6, ?_,λq E=> ?_,rfl,λq E=> ?_⟩
          · show _=_
            rw[<-Q.out];simp
          · rcases List.mem_cons.1 E with rfl | E
            · have:=LP.out.1 ad;exact .inl this
            · exact h2.out q E
          · have gY:=t.len;exact l q (Tc (by have:=k.out.2.1;omega) (by have:=k.out.1;omega) q E)
       · have gH:decide (d<0)=false:=ξ
         go_region_held3 (λw'=>w'.cell? ⟨g,j*2,none⟩ =some (.int .i64 a)/\w'.cell? ⟨g,j*2+1,none⟩ =some (.slice s o r)/\w'.cell? ⟨g,m*2,none⟩ =some (.int .i64 f)/\w'.cell? ⟨g,m*2+1,none⟩ =some (.slice B v A)/\Dt w0 g n D w')
          (first | exact fo.of k t | exact fo.of k h | exact fo.of k h.drew)
          (first | (go_at_call 131;(refine(mP (by first | exact h | exact h.drew) _ _ HC).mono ?_);rintro e w5 ⟨rfl,t⟩))
         clear a0 a1 b0 b1 h
         go_wp2_with fail
         go_roundg V.length
         case measure=>have:=hk.out;rw[List.length_cons]at this;omega
         case rel=>
          have F:=Yq.out;have e:=Q.out;subst e;have am:jZ (a,s,o,r) (f,B,v,A):=jZ.of_le (by have:=LP.out;show a<=f;omega) (mK.out.1 _ σ _ List.mem_cons_self)
          refine⟨(U1++[(a,s,o,r)])++(f,B,v,A)::U2,V,D, ?_, ?_,t,Aj L h2.out (DN (dt.1 L).1 am),ξ, ?_,rfl, ?_,l,DI mK.out λp hp=>by
           simp only [List.mem_append,List.mem_cons]at hp⊢;rcases hp with hp | hp | hp
           · exact .inr (.inl hp)
           · exact .inl hp
           · exact .inr (.inr hp)⟩
          · rw[<-I.out];simp;omega
          · show D=_
            rw[hD.out];simp
          · refine List.Perm.trans ?_ hp.out;have O:(U1++[(a,s,o,r)])++(f,B,v,A)::U2++V=(U1++[(a,s,o,r)])++((f,B,v,A)::(U2++V)):=σ;have e2:(U1++[(a,s,o,r)])++U2++(f,B,v,A)::V=(U1++[(a,s,o,r)])++(U2++(f,B,v,A)::V):=σ;rw[O,e2];exact List.Perm.append_left _ List.perm_middle.symm
          · have:=I.out;rw[List.length_append,List.length_cons]at*;omega
theorem kR {x:Int} (h: -1000000<=x/\x<=1000000):IntKind.i64.wrap x=x:=IntWalk.i64_in _ ω
def EH (w0:World) (g n:Nat) (D:List El) (e:Ending) (w':World):Prop:=e= .returned (.tuple #[])/\Dt w0 g n D w'
def ZX (w0:World) (g n:Nat) (X P Q R Y:List El) (k:Nat) (b:Value) (wr:World):Prop:=
 ∃i d a c e D,b= .int .i64 (i:Nat)/\Hid (P=d++a/\R=c++e/\d.length=i/\c.length=i)/\Hid (D=X++(c++(a++(Q++(d++(e++Y))))))/\Dt w0 g n D wr/\Hid (k=a.length)/\i+a.length=P.length
theorem B8 (w w0:World) (g n c:Nat) (X P Q R Y D:List El) (hD:D=X++(P++(Q++(R++Y)))) (o:P.length=R.length) (h:Dt w0 g n D w) (hn:n<=1000) (A B N:Nat) (hA:X.length=A) (Z:X.length+P.length+Q.length=B) (L:P.length=N) (F:Value):
  Calls Tryz.prog 142 #[.slice (some ⟨g,0,none⟩) n c, .int .i64 A, .int .i64 B, .int .i64 N,F] w (EH w0 g n (X++(R++(Q++(P++Y))))):=by
 have a:=h.len;have V:A+P.length+Q.length+R.length<=n:=by rw[<-a,hD];simp only [List.length_append];omega
 have W:Hid (ZX w0 g n X P Q R Y N (.int .i64 0) w):= ⟨0,[],P,[],R,D,rfl, ⟨rfl,rfl,rfl,rfl⟩,by show D=_;rw[hD];simp,h,L.symm,Nat.zero_add _⟩;have HA:=η hA;have HB:=η Z;have HN:=η L;have HL:=η V;have r:=η o;have sq:(0:Int)<=A/\(A:Int)<=1000/\(0:Int)<=B/\(B:Int)<=1000/\(0:Int)<=N/\(N:Int)<=1000:=ω;clear hD o h a V hA Z L;go_enter Tryz.func142,Tryz.ntmps142
 go_wp2_with fail
 go_loopg [10] N (ZX w0 g n X P Q R Y)
 case atStart=>exact W.out
 case round=>
  clear W;obtain⟨i,l,b,f,e,D,rfl,hp,hD,h,hk,hi⟩ :=hrel;cases b with
  | nil=>
    have ab:¬(i:Int)<(N:Int):=by have:=HN.out;simp at hi;omega
    have K:e=[]:=List.eq_nil_of_length_eq_zero (by
     have t:=congrArg List.length hp.out.2.1;rw[List.length_append]at t;have:=hp.out.2.2.2;have:=r.out;simp at hi;omega)
    subst K;clear hi
    go_wp2_with fail
    go_end0
    have e1:P=l:=by have:=hp.out.1;rwa [List.append_nil]at this
    have e2:R=f:=by have:=hp.out.2.1;rwa [List.append_nil]at this
    rw[hD.out]at h;rw[e1,e2];exact⟨rfl,h⟩
  | cons x b=>
    have s:=congrArg List.length hp.out.2.1;rw[List.length_append,hp.out.2.2.2]at s;cases e with
    | nil=>have:=r.out;simp at hi s;omega
    | cons y e=>
      rw[List.length_cons]at hi s;obtain⟨p,U⟩ :=ν (A+i);obtain⟨q,Ip⟩ :=ν (B+i);have d:D=(X++f)++x::((b++(Q++l))++y::(e++Y)):=by rw[hD.out];simp
      have k:(X++f).length=p:=by rw[List.length_append,HA.out,hp.out.2.2.2];exact U
      have m:(X++f).length+1+(b++(Q++l)).length=q:=by
       rw[k,List.length_append,List.length_append,hp.out.2.2.1];have:=HB.out;have:=HA.out;omega
      have ex:el D p=x:=by rw[d];exact fU k.symm
      have ey:el D q=y:=by
       rw[d,show(X++f)++x::((b++(Q++l))++y::(e++Y))=((X++f)++x::(b++(Q++l)))++y::(e++Y) by simp];exact fU (by rw[List.length_append,List.length_cons];omega)
      have T:q<n:=by have t:=h.len;rw[d]at t;simp only [List.length_append,List.length_cons]at t m;omega
      have J:p<q:=ω;obtain⟨G,S,M,O⟩ :=x;obtain⟨u,E,v,C⟩ :=y;have j:=η (⟨ω,T,ex,ey⟩ :p<n/\q<n/\el D p=(G,S,M,O)/\el D q=(u,E,v,C));obtain⟨a0,a1,b0,b1, -⟩ :=fo.of j h;have Yh:=h.z (i:=p*2) ω;have Yi:=h.z (i:=p*2+1) ω;have Yj:=h.z (i:=q*2) ω;have Yk:=h.z (i:=q*2+1) ω;obtain⟨z0,c1,z1,c2,z2,c3,z3⟩ :=h.stores j.out.1 j.out.2.1 (.int .i64 u) (.slice E v C) (.int .i64 G);have wW:¬p*2=q*2:=ω;have S3:(0:Int)<=i/\(i:Int)<N/\(0:Int)<=p/\(p:Int)<n/\(0:Int)<=q/\(q:Int)<n:=by have:=HN.out;omega
      have I:(A:Int)+(i:Int)=(p:Int):=ω;have H:(B:Int)+(i:Int)=(q:Int):=ω;have w1:IntKind.i64.wrap ((A:Int)+(i:Int))=(p:Int):=by rw[I];exact kR ω
      have w2:IntKind.i64.wrap ((B:Int)+(i:Int))=(q:Int):=by rw[H];exact kR ω
      have w3:IntKind.i64.wrap (p:Int)=(p:Int):=kR ω;have w4:IntKind.i64.wrap (q:Int)=(q:Int):=kR ω;have Bn:=η (⟨d,k,m,J,hi⟩ :_/\_/\_/\_/\_);clear d k m J ex ey T hi s U Ip
      go_wp2_with fail
      go_region
      have h6:=(h.swp j.out.1 j.out.2.1 (by have:=Bn.out.2.2.2.1;omega)).drew;rw[j.out.2.2.1,j.out.2.2.2]at h6;clear Yh Yi Yj Yk a0 a1 b0 b1 h w1 w2 w3 w4 z0 c1 z1 c2 z2 c3 z3 wW
      all_goals
       go_wp2_with fail
       go_roundg b.length
       case measure=>have:=hk.out;rw[List.length_cons]at this;omega
       case rel=>
        obtain⟨d,k,m,J,hi⟩ :=Bn.out;refine⟨i+1,l++[(G,S,M,O)],b,f++[(u,E,v,C)],e,_,by go_num, ?_, ?_,h6,rfl,ω⟩
        · obtain⟨g1,g2,g3,g4⟩ :=hp.out;exact⟨by rw[g1];simp,by rw[g2];simp,by rw[List.length_append,g3];rfl,by rw[List.length_append,g4];rfl⟩
        · show _=_
          rw[d,tT k.symm m.symm];simp
def ZT (w0:World) (g n M:Nat) (G:List El) (k:Nat) (b a:Value) (wr:World):Prop:=
 ∃(i j:Nat) (X U V Y D:List El),b= .int .i64 i/\a= .int .i64 j/\Hid (U.length=i/\V.length=j/\X.length+i=M)/\Hid (D=X++(U++(V++Y)))/\Dt w0 g n D wr/\Hid (X++(V++(U++Y))=G)/\0<i/\0<j/\Hid (k=i+j)/\i+j<=n/\M+j<=n
theorem T3 (w w0:World) (g n c:Nat) (X U V Y D:List El) (hD:D=X++(U++(V++Y))) (h:Dt w0 g n D w) (hn:n<=1000) (A M B:Nat) (hA:X.length=A) (hM:X.length+U.length=M) (hB:X.length+U.length+V.length=B) (r:0<U.length) (q:0<V.length):
  Calls Tryz.prog 141 #[.slice (some ⟨g,0,none⟩) n c, .int .i64 A, .int .i64 M, .int .i64 B,ov] w (EH w0 g n (X++(V++(U++Y)))):=by
 have p:=h.len;have gY:A+U.length+V.length<=n:=by rw[<-p,hD];simp only [List.length_append];omega
 obtain⟨x,z⟩ :=ν (U.length);obtain⟨v,y⟩ :=ν (V.length);have T:Hid (ZT w0 g n M (X++(V++(U++Y))) (x+v) (.int .i64 x) (.int .i64 v) w):= ⟨x,v,X,U,V,Y,D,rfl,rfl, ⟨z,y,ω⟩,hD,h,rfl,ω,ω,rfl,ω,ω⟩;have sq:(0:Int)<=A/\(A:Int)<=1000/\(0:Int)<=B/\(B:Int)<=1000/\(0:Int)<=M/\(M:Int)<=1000:=ω;have Z:(M:Int)-(A:Int)=(x:Int):=ω;have W:(B:Int)-(M:Int)=(v:Int):=ω;have rE:(n:Int)<=1000:=ω;clear hD h p gY hA hB hM r q z y hn;unfold ov;go_enter Tryz.func141,Tryz.ntmps141
 go_wp2_with fail
 go_loopg [10,11] (x+v) (ZT w0 g n M (X++(V++(U++Y))))
 case atStart=>exact T.out
 case round=>
  clear T Z W;obtain⟨i,j,X,U,V,Y,D,rfl,rfl,a,hD,h,P,hi,G,S,H,m⟩ :=hrel;obtain⟨A',b⟩ :=ν (X.length);have o:A'+i=M:=by have:=a.out.2.2;omega
  have Sy:(M:Int)-(i:Int)=(A':Int):=ω;have S3:(0:Int)<=i/\(i:Int)<=1000/\(0:Int)<=j/\(j:Int)<=1000/\(0:Int)<=A'/\(A':Int)<=1000:=ω;have HA:=η b;have ah:=η o;have s:=η (⟨hi,G,H,m⟩ :_/\_/\_/\_);rcases Nat.lt_trichotomy i j with t | L | K
  ·
   obtain⟨V1,V2,q,f⟩ :∃V1 V2,V=V1++V2/\V1.length=j-i:= ⟨V.take (j-i),V.drop (j-i),(List.take_append_drop ..).symm,by rw[List.length_take,a.out.2.1];omega⟩;have d:V2.length=i:=by have:=a.out.2.1;rw[q,List.length_append]at this;omega
   obtain⟨B',Q⟩ :=ν (M+j-i);have F:=η (B8 wr w0 g n c X U V1 V2 Y D (by rw[hD.out,q];simp) (by rw[a.out.1,d]) h ω A' B' i b (by rw[a.out.1,f];omega) a.out.1 (.func (.func 131) #[] #[]));have O:((i:Int) != (j:Int))=true:=ξ;have N:¬(j:Int)<(i:Int):=ω;have ad:(M:Int)+(j:Int)-(i:Int)=(B':Int):=ω;obtain⟨I,k⟩ :=ν (j-i);have ab:(j:Int)-(i:Int)=(I:Int):=ω;have E:=η (⟨q,f,d,k,t⟩ :_/\_/\_/\_/\_);clear q f d k t Q hi G H m b o h
   go_wp2_with fail
   refine F.out.mono ?_;rintro e R ⟨rfl,h5⟩
   go_wp2_with fail
   go_roundg (i+I)
   case measure=>have:=S.out;have:=s.out;have:=E.out.2.2.2;omega
   case rel=>
    obtain⟨q,f,d,k,t⟩ :=E.out;refine⟨i,I,X,V2,V1,U++Y,_,rfl,rfl, ⟨d,by rw[f,k],a.out.2.2⟩, ?_,h5, ?_,s.out.1,ω,rfl,by have:=s.out;omega,by have:=s.out;omega⟩
    · show _=_
      simp
    · show _=_
      rw[<-P.out,q];simp
  · subst L;have F:=η (B8 wr w0 g n c X U [] V Y D (by rw[hD.out];simp) (by rw[a.out.1,a.out.2.1]) h ω A' M i b (by rw[a.out.1];simp;omega) a.out.1 (.func (.func 131) #[] #[]));clear hi G H m b o h
    go_wp2_with fail
    refine F.out.mono ?_;rintro e R ⟨rfl,h5⟩
    go_wp2_with fail
    go_end0
    rw[List.nil_append,P.out]at h5;exact⟨rfl,h5⟩
  · obtain⟨U1,U2,r,u⟩ :∃U1 U2,U=U1++U2/\U1.length=j:= ⟨U.take j,U.drop j,(List.take_append_drop ..).symm,by rw[List.length_take,a.out.1];omega⟩;have C:U2.length=i-j:=by have:=a.out.1;rw[r,List.length_append]at this;omega
    have F:=η (B8 wr w0 g n c X U1 U2 V Y D (by rw[hD.out,r];simp) (by rw[a.out.2.1,u]) h ω A' M j b (by rw[u,C];omega) u (.func (.func 131) #[] #[]));have O:((i:Int) != (j:Int))=true:=ξ;have N:(j:Int)<(i:Int):=ω;obtain⟨J,l⟩ :=ν (i-j);have ac:(i:Int)-(j:Int)=(J:Int):=ω;have E:=η (⟨r,u,C,l,K⟩ :_/\_/\_/\_/\_);clear r u C l K hi G H m b o h
    go_wp2_with fail
    refine F.out.mono ?_;rintro e R ⟨rfl,h5⟩
    go_wp2_with fail
    go_roundg (J+j)
    case measure=>have:=S.out;have:=s.out;have:=E.out.2.2.2;omega
    case rel=>
     obtain⟨r,u,C,l,K⟩ :=E.out;refine⟨J,j,X++V,U2,U1,Y,_,rfl,rfl, ⟨by rw[C,l],u, ?_⟩, ?_,h5, ?_,ω,s.out.2.1,rfl,by have:=s.out;omega,by have:=s.out;omega⟩
     · have:=a.out;rw[List.length_append];omega
     · show _=_
       simp
     · show _=_
       rw[<-P.out,r];simp
theorem DO {V:List El} {h:Nat} (c:dy V) (g:h<V.length):∀q∈V.take (h+1),jZ q (el V h):=λq a=>by
 obtain⟨V1,y,V2,e,d⟩ :∃V1 y V2,V=V1++y::V2/\V1.length=h:= ⟨V.take h,V[h],V.drop (h+1),σ,ξ⟩;subst d;rw[e]at c a⊢;rw[fU rfl]
 have f:(V1++y::V2).take (V1.length+1)=V1++[y]:=by
  rw[show V1++y::V2=(V1++[y])++V2 by simp,List.take_append_of_le_length σ,List.take_of_length_le σ]
 rw[f]at a;rcases List.mem_append.1 a with b | b
 · exact(dt.1 c).2.2 q b y List.mem_cons_self
 · rw[List.mem_singleton.1 b];exact jZ.rfl' _
theorem DK {V:List El} {h:Nat} (c:dy V) (f:h<V.length):∀q∈V.drop h,jZ (el V h) q:=λq a=>by
 obtain⟨V1,y,V2,e,d⟩ :∃V1 y V2,V=V1++y::V2/\V1.length=h:= ⟨V.take h,V[h],V.drop (h+1),σ,ξ⟩;subst d;rw[e]at c a⊢;rw[fU rfl];rw[List.drop_left]at a;rcases List.mem_cons.1 a with b | b
 · rw[b];exact jZ.rfl' _
 · exact(List.pairwise_cons.1 (dt.1 c).2.1).1 q b
theorem mS {X V Y:List El} {h:Nat} (a:h<V.length):el (X++(V++Y)) (X.length+h)=el V h:=by
 rw[ln ω,Nat.add_sub_cancel_left,si a]
def S1R (w0:World) (g n:Nat) (D V:List El) (u:El) (M:Nat) (k:Nat) (b a:Value) (wr:World):Prop:=
 ∃i j:Nat,b= .int .i64 i/\a= .int .i64 j/\M<=i/\i<=j/\j<=M+V.length/\Hid (∀q∈V.take (i-M),jZ q u)/\Hid (∀q∈V.drop (j-M),jZ u q)/\Hid (k=j-i)/\Dt w0 g n D wr
def S1M (w0:World) (g n:Nat) (X V Y:List El) (u:El) (A s:Nat) (k:Nat) (a:Value) (wr:World):Prop:=
 ∃t D,a= .int .i64 ((A+t:Nat):Int)/\t<=s/\Hid (D=X++(V.take t++u::(V.drop t++Y)))/\Hid (k=s-t)/\Dt w0 g n D wr
theorem PG (w w0:World) (g n c:Nat) (X V Y D:List El) (u:El) (hD:D=X++(u::(V++Y))) (h:Dt w0 g n D w) (hn:n<=1000) (N:Sm D) (A M B:Nat) (hA:X.length=A) (hM:A+1=M) (hB:M+V.length=B) (hV:dy V) (sY:0<V.length) (mK:Sep [u] V):
  Calls Tryz.prog 140 #[.slice (some ⟨g,0,none⟩) n c, .int .i64 A, .int .i64 M, .int .i64 B,ov] w (gM w0 g n X (u::V) Y):=by
 have l:=h.len;have G:B<=n:=by rw[<-l,hD];simp only [List.length_append,List.length_cons];omega
 have eu:el D A=u:=by rw[hD];exact fU hA.symm
 have ev:∀q,q<V.length->el D (M+q)=el V q:=λq m=>by
  rw[hD,show X++(u::(V++Y))=(X++[u])++(V++Y) by simp,show M+q=(X++[u]).length+q by rw[List.length_append,List.length_singleton];omega];exact mS m
 have P:Hid (S1R w0 g n D V u M V.length (.int .i64 M) (.int .i64 B) w):= ⟨M,B,rfl,rfl,Nat.le_refl _,ω,ω,λq m=>by simp at m,λq m=>by rw[<-hB,Nat.add_sub_cancel_left,List.drop_length]at m;simp at m,by show _=_;omega,h⟩;have sq:(0:Int)<=A/\(A:Int)<=1000/\(0:Int)<=B/\(B:Int)<=1000/\(0:Int)<=M/\(M:Int)<=1000/\(A:Int)<n/\(n:Int)<=1000:=ω;have am:(M:Int)-(A:Int)=1:=ω;have W:=η (⟨hA,hM,hB,G,hn⟩ :_/\_/\_/\_/\_);have HD:=η hD;have HU:=η eu;have HV:=η ev;have H:=η (⟨hV,sY⟩ :_/\_);have Zx:Hid (∀q,q<V.length->ps u<=ps (el V q)):=λq m=>mK u List.mem_cons_self _ (gW m)
 have sP:=η N;have Zq:=η l;clear hA hM hB G hn hD eu ev hV sY N l h mK;unfold ov;go_enter Tryz.func140,Tryz.ntmps140
 go_wp2_with fail
 go_loopg [10,11] V.length (S1R w0 g n D V u M)
 case atStart=>exact P.out
 case round=>
  clear P;obtain⟨i,j,rfl,rfl,F,Q,C,h1,h2,hk,h⟩ :=hrel;by_cases O:i<j
  · obtain⟨q,m⟩ :=ν ((i+j)/2);have Ii:i<=q/\q<j:=ω;have G:B<=n:=W.out.2.2.2.1;have al:M+V.length=B:=W.out.2.2.1;have rD:(i:Int)<(j:Int):=ω;have Uz:(0:Int)<=q/\(q:Int)<n/\(0:Int)<=i/\(0:Int)<=j/\(j:Int)<=1000/\(i:Int)<=1000:=ω;have an:((i:Int)+(j:Int))/2=(q:Int):=ω;have o:q-M<V.length:=ω;obtain⟨v,hv⟩ :=ν (el V (q-M));have ev:el D q=v:=by rw[<-hv,<-HV.out (q-M) o];congr 1;omega
    have Ls:=Zq.out;have U:A<n:=ω;have Tb:=sP.out v (by rw[<-ev];exact gW ω);have T9:=sP.out u (by rw[<-HU.out];exact gW ω);have Vn:=η (⟨hv,o,Ii,F,Q,C⟩ :_/\_/\_/\_/\_/\_);have Vm:=HU.out;obtain⟨f,vA,vn,vc⟩ :=v;obtain⟨k,uA,un,uc⟩ :=u;replace Tb:0<=f/\f<=4294967296:=Tb;replace T9:0<=k/\k<=4294967296:=T9;have a:=η (⟨ω,U,ev,Vm⟩ :q<n/\A<n/\el D q=(f,vA,vn,vc)/\el D A=(k,uA,un,uc));obtain⟨d,hd⟩ :=ν (f-k);have HC:=η (⟨hd,Tb,T9⟩ :f-k=d/\(0<=f/\f<=4294967296)/\(0<=k/\k<=4294967296));have LP:Hid (d<0↔f<k):=by show _↔_;omega
    obtain⟨a0,a1,b0,b1, -⟩ :=fo.of a h;clear hd Tb T9 ev hv o Ii F Q C Ls U Vm G al O
    go_wp2_with fail
    by_cases ah:d<0
    · go_region_held3 (λw'=>w'.cell? ⟨g,q*2,none⟩ =some (.int .i64 f)/\w'.cell? ⟨g,q*2+1,none⟩ =some (.slice vA vn vc)/\w'.cell? ⟨g,A*2,none⟩ =some (.int .i64 k)/\w'.cell? ⟨g,A*2+1,none⟩ =some (.slice uA un uc)/\Dt w0 g n D w')
       (first | exact fo.of a S | exact fo.of a h | exact fo.of a h.drew)
       (first | (go_at_call 131;(refine(mP (by first | exact h | exact h.drew) _ _ HC).mono ?_);rintro e w5 ⟨rfl,S⟩))
      clear a0 a1 b0 b1 h
      go_wp2_with fail
      go_roundg (j-(q+1))
      case measure=>have:=hk.out;have:=Vn.out.2.2.1;omega
      case rel=>
       obtain⟨hv,o,Ii,F,Q,C⟩ :=Vn.out;refine⟨q+1,j,by go_num,rfl,ω,ω,C,λp hp=> ?_,h2,rfl,S⟩;rw[show q+1-M=q-M+1 by omega]at hp;have:=DO H.out.1 o p hp;rw[hv]at this;exact this.trans (.inl (LP.out.1 ah))
    · have oW:decide (d<0)=false:=ξ
      go_region_held3 (λw'=>w'.cell? ⟨g,q*2,none⟩ =some (.int .i64 f)/\w'.cell? ⟨g,q*2+1,none⟩ =some (.slice vA vn vc)/\w'.cell? ⟨g,A*2,none⟩ =some (.int .i64 k)/\w'.cell? ⟨g,A*2+1,none⟩ =some (.slice uA un uc)/\Dt w0 g n D w')
       (first | exact fo.of a S | exact fo.of a h | exact fo.of a h.drew)
       (first | (go_at_call 131;(refine(mP (by first | exact h | exact h.drew) _ _ HC).mono ?_);rintro e w5 ⟨rfl,S⟩))
      clear a0 a1 b0 b1 h
      go_wp2_with fail
      go_roundg (q-i)
      case measure=>have:=hk.out;have:=Vn.out.2.2.1;omega
      case rel=>
       obtain⟨hv,o,Ii,F,Q,C⟩ :=Vn.out;refine⟨i,q,rfl,rfl,F,ω,ω,h1,λp hp=> ?_,rfl,S⟩;have:=DK H.out.1 o p hp;rw[hv]at this;have h8:=Zx.out _ o;rw[hv]at h8;exact(jZ.of_le (by have h9:=LP.out;show k<=f;omega) h8).trans this
  · obtain rfl:i=j:=ω;obtain⟨s,hs⟩ :=ν (i-M);have Ij:i=A+1+s:=by have:=W.out.2.1;omega
    have Od:(i:Int)-1=((A+s:Nat):Int):=ω;have S3:(0:Int)<=i/\(i:Int)<=1000:=by have:=W.out;omega
    have P:Hid (S1M w0 g n X V Y u A s s (.int .i64 A) wr):= ⟨0,D,rfl,Nat.zero_le _,by show D=_;rw[HD.out];simp,rfl,h⟩;rw[hs]at h1 h2;have HI:=η (⟨Ij,hs,F,C⟩ :_/\_/\_/\_);obtain⟨E,hE⟩ :=ν (A+s);rw[hE]at Od;have ao:(0:Int)<=E/\(E:Int)<=1000:=ω;have HE:=η hE;clear Ij hs Q F C O h hE
    go_wp2_with fail
    go_loopg [13] s (S1M w0 g n X V Y u A s)
    case atStart=>exact P.out
    case round=>
     clear P;obtain⟨t,Z,rfl,J,mY,ad,h⟩ :=hrel;have sZ:=h.len;have G:=W.out;have R:=HI.out;by_cases K:t<s
     · have L:t<V.length:=ω;obtain⟨p,hp⟩ :=ν (A+t);obtain⟨b,pN⟩ :=ν (p+1);obtain⟨y,hy⟩ :=ν (el V t);have T:V.drop t=y::V.drop (t+1):=by rw[List.drop_eq_getElem_cons L,<-hy];simp [el,L]
       have eG:V.take (t+1)=V.take t++[y]:=by rw[List.take_succ_eq_append_getElem L,<-hy];simp [el,L]
       have I:Z=(X++V.take t)++u::([]++y::(V.drop (t+1)++Y)):=by rw[mY.out,T];simp
       have r:(X++V.take t).length=p:=by rw[List.length_append,List.length_take];omega
       have ex:el Z p=u:=by rw[I];exact fU r.symm
       have ey:el Z b=y:=by
        rw[I,show(X++V.take t)++u::([]++y::(V.drop (t+1)++Y))=((X++V.take t)++[u])++y::(V.drop (t+1)++Y) by simp];exact fU (by rw[List.length_append,r,List.length_singleton];omega)
       obtain⟨xw,xA,xn,xc⟩ :=u;obtain⟨yw,yA,yn,yc⟩ :=y;have a:=η (⟨ω,ω,ex,ey⟩ :p<n/\b<n/\el Z p=(xw,xA,xn,xc)/\el Z b=(yw,yA,yn,yc));obtain⟨a0,a1,b0,b1, -⟩ :=fo.of a h;have Yh:=h.z (i:=p*2) ω;have Yi:=h.z (i:=p*2+1) ω;have Yj:=h.z (i:=b*2) ω;have Yk:=h.z (i:=b*2+1) ω;obtain⟨z0,c1,z1,c2,z2,c3,z3⟩ :=h.stores a.out.1 a.out.2.1 (.int .i64 yw) (.slice yA yn yc) (.int .i64 xw);have wW:¬p*2=b*2:=ω;have YY:(0:Int)<=p/\(p:Int)<n/\(0:Int)<=b/\(b:Int)<n/\(p:Int)<(E:Int):=by have:=HE.out;omega
       have ab:(p:Int)+1=(b:Int):=ω;have w1:IntKind.i64.wrap ((p:Int)+1)=(b:Int):=by rw[ab];exact kR ω
       have w3:IntKind.i64.wrap (b:Int)=(b:Int):=kR ω;have Bn:=η (⟨I,r,hp,pN,K,eG⟩ :_/\_/\_/\_/\_/\_);rw[hp];clear I r ex ey hp pN K eG T L hy sZ G R J
       go_wp2_with fail
       go_region
       have h6:=(h.swp a.out.1 a.out.2.1 (by have:=Bn.out.2.2.2.1;omega)).drew;rw[a.out.2.2.1,a.out.2.2.2]at h6;clear Yh Yi Yj Yk a0 a1 b0 b1 h w1 w3 z0 c1 z1 c2 z2 c3 z3 wW
       all_goals
        go_wp2_with fail
        go_roundg (s-(t+1))
        case measure=>have:=ad.out;have:=Bn.out.2.2.2.2.1;omega
        case rel=>
         obtain⟨I,r,hp,pN,K,eG⟩ :=Bn.out;refine⟨t+1,_,by go_num,K, ?_,rfl,h6⟩;show _=_
         rw[I,tT r.symm (by rw[r,<-pN];rfl),eG];simp
     · obtain rfl:s=t:=ω;have ac:¬((A+s:Nat):Int)<(E:Int):=by have:=HE.out;omega
       obtain⟨p,hp⟩ :=ν (A+s);rw[hp]at ac⊢;clear hp K J sZ G R
       go_wp2_with fail
       go_end0
       rw[mY.out]at h;have Xz:=Aj (x:=u) (U1:=V.take s) (U2:=V.drop s) (by rw[List.take_append_drop];exact H.out.1) h2.out h1.out;refine⟨V.take s++u::V.drop s,rfl, ?_,Xz, ?_⟩
       · have e:X++((V.take s++u::V.drop s)++Y)=X++(V.take s++u::(V.drop s++Y)):=σ;rw[e];exact h
       · refine List.perm_middle.trans ?_;rw[List.take_append_drop]
def S2R (w0:World) (g n:Nat) (D U:List El) (v:El) (A:Nat) (k:Nat) (b a:Value) (wr:World):Prop:=
 ∃i j:Nat,b= .int .i64 i/\a= .int .i64 j/\A<=i/\i<=j/\j<=A+U.length/\Hid (∀q∈U.take (i-A),jZ q v)/\Hid (∀q∈U.drop (j-A),jZ v q)/\Hid (k=j-i)/\Dt w0 g n D wr
def S2M (w0:World) (g n:Nat) (X U Y:List El) (v:El) (A s:Nat) (k:Nat) (a:Value) (wr:World):Prop:=
 ∃t D,a= .int .i64 ((A+t:Nat):Int)/\s<=t/\t<=U.length/\Hid (D=X++(U.take t++v::(U.drop t++Y)))/\Hid (k=t-s)/\Dt w0 g n D wr
theorem PH (w w0:World) (g n c:Nat) (X U Y D:List El) (v:El) (hD:D=X++(U++(v::Y))) (h:Dt w0 g n D w) (hn:n<=1000) (R:Sm D) (A M B:Nat) (hA:X.length=A) (hM:A+U.length=M) (hB:M+1=B) (hU:dy U) (Ew:1<U.length) (mK:Sep U [v]):
  Calls Tryz.prog 140 #[.slice (some ⟨g,0,none⟩) n c, .int .i64 A, .int .i64 M, .int .i64 B,ov] w (gM w0 g n X (U++[v]) Y):=by
 have m:=h.len;have J:B<=n:=by rw[<-m,hD];simp only [List.length_append,List.length_cons];omega
 have ev:el D M=v:=by rw[hD,show X++(U++(v::Y))=(X++U)++v::Y by simp];exact fU (by rw[List.length_append];omega)
 have L:∀q,q<U.length->el D (A+q)=el U q:=λq o=>by
  rw[hD,<-hA];exact mS o
 have W:Hid (S2R w0 g n D U v A U.length (.int .i64 A) (.int .i64 M) w):= ⟨A,M,rfl,rfl,Nat.le_refl _,ω,ω,λq o=>by simp at o,λq o=>by rw[<-hM,Nat.add_sub_cancel_left,List.drop_length]at o;simp at o,by show _=_;omega,h⟩;have sq:(0:Int)<=A/\(A:Int)<=1000/\(0:Int)<=B/\(B:Int)<=1000/\(0:Int)<=M/\(M:Int)<=1000/\(M:Int)<n/\(n:Int)<=1000:=ω;obtain⟨nu,ap⟩ :=ν (U.length);have an:(M:Int)-(A:Int)=(nu:Int):=ω;have am:(B:Int)-(M:Int)=1:=ω;have Xe:((nu:Int)==1)=false:=ξ;have O:=η (⟨hA,hM,hB,J,hn⟩ :_/\_/\_/\_/\_);have HD:=η hD;have HV:=η ev;have HU:=η L;have K:=η (⟨hU,Ew⟩ :_/\_);have Zx:Hid (∀q,q<U.length->ps (el U q)<=ps v):=λq o=>mK _ (gW o) v List.mem_cons_self
 have sP:=η R;have Zq:=η m;clear hA hM hB J hn hD L ev hU Ew R m h ap mK;unfold ov;go_enter Tryz.func140,Tryz.ntmps140
 go_wp2_with fail
 go_loopg [14,15] U.length (S2R w0 g n D U v A)
 case atStart=>exact W.out
 case round=>
  clear W an am Xe;obtain⟨i,j,rfl,rfl,I,Z,H,h1,h2,hk,h⟩ :=hrel;by_cases V:i<j
  · obtain⟨q,o⟩ :=ν ((i+j)/2);have Ii:i<=q/\q<j:=ω;have J:B<=n:=O.out.2.2.2.1;have W8:M+1=B:=O.out.2.2.1;have aE:A+U.length=M:=O.out.2.1;have rD:(i:Int)<(j:Int):=ω;have Uz:(0:Int)<=q/\(q:Int)<n/\(0:Int)<=i/\(0:Int)<=j/\(j:Int)<=1000/\(i:Int)<=1000:=ω;have aI:((i:Int)+(j:Int))/2=(q:Int):=ω;have F:q-A<U.length:=ω;obtain⟨u,E⟩ :=ν (el U (q-A));have L:el D q=u:=by rw[<-E,<-HU.out (q-A) F];congr 1;omega
    have Ls:=Zq.out;have ac:M<n:=ω;have T9:=sP.out u (by rw[<-L];exact gW ω);have Tb:=sP.out v (by rw[<-HV.out];exact gW ω);have Vm:=η (⟨E,F,Ii,I,Z,H⟩ :_/\_/\_/\_/\_/\_);have Vn:=HV.out;obtain⟨b,vA,vn,vc⟩ :=v;obtain⟨f,uA,un,uc⟩ :=u;replace Tb:0<=b/\b<=4294967296:=Tb;replace T9:0<=f/\f<=4294967296:=T9;have a:=η (⟨ac,ω,Vn,L⟩ :M<n/\q<n/\el D M=(b,vA,vn,vc)/\el D q=(f,uA,un,uc));obtain⟨d,hd⟩ :=ν (b-f);have HC:=η (⟨hd,Tb,T9⟩ :b-f=d/\(0<=b/\b<=4294967296)/\(0<=f/\f<=4294967296));have LP:Hid (d<0↔b<f):=by show _↔_;omega
    obtain⟨a0,a1,b0,b1, -⟩ :=fo.of a h;clear hd Tb T9 L E F Ii I Z H Ls ac Vn J aE W8 V
    go_wp2_with fail
    by_cases aC:d<0
    · go_region_held3 (λw'=>w'.cell? ⟨g,M*2,none⟩ =some (.int .i64 b)/\w'.cell? ⟨g,M*2+1,none⟩ =some (.slice vA vn vc)/\w'.cell? ⟨g,q*2,none⟩ =some (.int .i64 f)/\w'.cell? ⟨g,q*2+1,none⟩ =some (.slice uA un uc)/\Dt w0 g n D w')
       (first | exact fo.of a mf | exact fo.of a h | exact fo.of a h.drew)
       (first | (go_at_call 131;(refine(mP (by first | exact h | exact h.drew) _ _ HC).mono ?_);rintro e w5 ⟨rfl,mf⟩))
      clear a0 a1 b0 b1 h
      go_wp2_with fail
      go_roundg (q-i)
      case measure=>have:=hk.out;have:=Vm.out.2.2.1;omega
      case rel=>
       obtain⟨E,F,Ii,I,Z,H⟩ :=Vm.out;refine⟨i,q,rfl,rfl,I,ω,ω,h1,λp hp=> ?_,rfl,mf⟩;have:=DK K.out.1 F p hp;rw[E]at this;exact jZ.trans (.inl (LP.out.1 aC)) this
    · have oW:decide (d<0)=false:=ξ
      go_region_held3 (λw'=>w'.cell? ⟨g,M*2,none⟩ =some (.int .i64 b)/\w'.cell? ⟨g,M*2+1,none⟩ =some (.slice vA vn vc)/\w'.cell? ⟨g,q*2,none⟩ =some (.int .i64 f)/\w'.cell? ⟨g,q*2+1,none⟩ =some (.slice uA un uc)/\Dt w0 g n D w')
       (first | exact fo.of a mf | exact fo.of a h | exact fo.of a h.drew)
       (first | (go_at_call 131;(refine(mP (by first | exact h | exact h.drew) _ _ HC).mono ?_);rintro e w5 ⟨rfl,mf⟩))
      clear a0 a1 b0 b1 h
      go_wp2_with fail
      go_roundg (j-(q+1))
      case measure=>have:=hk.out;have:=Vm.out.2.2.1;omega
      case rel=>
       obtain⟨E,F,Ii,I,Z,H⟩ :=Vm.out;refine⟨q+1,j,by go_num,rfl,ω,ω,H,λp hp=> ?_,h2,rfl,mf⟩;rw[show q+1-A=q-A+1 by omega]at hp;have:=DO K.out.1 F p hp;rw[E]at this;have h8:=Zx.out _ F;rw[E]at h8;exact this.trans (jZ.of_le (by have h9:=LP.out;show f<=b;omega) h8)
  · obtain rfl:i=j:=ω;obtain⟨s,hs⟩ :=ν (i-A);have Ij:i=A+s:=ω;have S3:(0:Int)<=i/\(i:Int)<=1000:=by have:=O.out;omega
    have S:s<=U.length:=ω;have ad:M=A+U.length:=O.out.2.1.symm;have W:Hid (S2M w0 g n X U Y v A s (U.length-s) (.int .i64 M) wr):= ⟨U.length,D,by rw[ad],S,Nat.le_refl _,by show D=_;rw[HD.out];simp,rfl,h⟩;rw[hs]at h1 h2;have HI:=η (⟨Ij,hs,I,H⟩ :_/\_/\_/\_);clear Ij hs Z I H V h S ad
    go_wp2_with fail
    go_loopg [17] (U.length-s) (S2M w0 g n X U Y v A s)
    case atStart=>exact W.out
    case round=>
     clear W;obtain⟨t,D1,rfl,P,ah,mY,aA,h⟩ :=hrel;have sZ:=h.len;have J:=O.out;have ab:=HI.out;by_cases zY:s<t
     · obtain⟨r,rfl⟩ :∃r,t=r+1:= ⟨t-1,ω⟩;have Q:r<U.length:=ω;obtain⟨p,hp⟩ :=ν (A+r);obtain⟨k,T⟩ :=ν (A+(r+1));obtain⟨y,hy⟩ :=ν (el U r);have C:U.drop r=y::U.drop (r+1):=by rw[List.drop_eq_getElem_cons Q,<-hy];simp [el,Q]
       have eG:U.take (r+1)=U.take r++[y]:=by rw[List.take_succ_eq_append_getElem Q,<-hy];simp [el,Q]
       have N:D1=(X++U.take r)++y::([]++v::(U.drop (r+1)++Y)):=by rw[mY.out,eG];simp
       have G:(X++U.take r).length=p:=by rw[List.length_append,List.length_take];omega
       have ey:el D1 p=y:=by rw[N];exact fU G.symm
       have ex:el D1 k=v:=by
        rw[N,show(X++U.take r)++y::([]++v::(U.drop (r+1)++Y))=((X++U.take r)++[y])++v::(U.drop (r+1)++Y) by simp];exact fU (by rw[List.length_append,G,List.length_singleton];omega)
       obtain⟨xw,xA,xn,xc⟩ :=v;obtain⟨yw,yA,yn,yc⟩ :=y;have a:=η (⟨ω,ω,ex,ey⟩ :k<n/\p<n/\el D1 k=(xw,xA,xn,xc)/\el D1 p=(yw,yA,yn,yc));obtain⟨a0,a1,b0,b1, -⟩ :=fo.of a h;have Yh:=h.z (i:=p*2) ω;have Yi:=h.z (i:=p*2+1) ω;have Yj:=h.z (i:=k*2) ω;have Yk:=h.z (i:=k*2+1) ω;obtain⟨z0,c1,z1,c2,z2,c3,z3⟩ :=h.stores a.out.1 a.out.2.1 (.int .i64 yw) (.slice yA yn yc) (.int .i64 xw);have wW:¬k*2=p*2:=ω;have YY:(0:Int)<=p/\(p:Int)<n/\(0:Int)<=k/\(k:Int)<n/\(i:Int)<(k:Int):=ω;have al:(k:Int)-1=(p:Int):=ω;have w1:IntKind.i64.wrap ((k:Int)-1)=(p:Int):=by rw[al];exact kR ω
       have w3:IntKind.i64.wrap (p:Int)=(p:Int):=kR ω;have Bn:=η (⟨N,G,hp,T,zY,C⟩ :_/\_/\_/\_/\_/\_);rw[T];clear N G ex ey hp T zY eG C Q hy sZ J ab P
       go_wp2_with fail
       go_region
       have h6:=(h.swp a.out.1 a.out.2.1 (by have:=Bn.out;omega)).drew;rw[a.out.2.2.1,a.out.2.2.2]at h6;clear Yh Yi Yj Yk a0 a1 b0 b1 h w1 w3 z0 c1 z1 c2 z2 c3 z3 wW
       all_goals
        go_wp2_with fail
        go_roundg (r-s)
        case measure=>have:=aA.out;have:=Bn.out.2.2.2.2.1;omega
        case rel=>
         obtain⟨N,G,hp,T,zY,C⟩ :=Bn.out;refine⟨r,_,by rw[hp],ω,ω, ?_,rfl,h6⟩;show _=_
         rw[DY,N,tT G.symm (by rw[G,<-T,<-hp];rfl),C];simp
     · obtain rfl:s=t:=ω;have ao:¬(i:Int)<((A+s:Nat):Int):=ω;obtain⟨p,hp⟩ :=ν (A+s);rw[hp]at ao⊢;clear hp zY P sZ J ab ah
       go_wp2_with fail
       go_end0
       rw[mY.out]at h;have Xz:=Aj (x:=v) (U1:=U.take s) (U2:=U.drop s) (by rw[List.take_append_drop];exact K.out.1) h2.out h1.out;refine⟨U.take s++v::U.drop s,rfl, ?_,Xz, ?_⟩
       · have e:X++((U.take s++v::U.drop s)++Y)=X++(U.take s++v::(U.drop s++Y)):=σ;rw[e];exact h
       · refine List.perm_middle.trans ?_;rw[List.take_append_drop];exact(List.perm_append_comm (l₁:=U) (l₂:=[v])).symm
theorem Sm.perm {D E:List El} (h:Sm D) (hp:E.Perm D):Sm E:=λp a=>h p (hp.mem_iff.1 a)
def S3R (w0:World) (g n:Nat) (D:List El) (lo hi P:Nat) (k:Nat) (b a:Value) (wr:World):Prop:=
 ∃i j:Nat,b= .int .i64 i/\a= .int .i64 j/\lo<=i/\i<=j/\j<=hi/\Hid (lo<i->jZ (el D (i-1)) (el D (P-(i-1))))/\Hid (j<hi->jZ (el D (P-j)) (el D j))/\Hid (k=j-i)/\Dt w0 g n D wr
def ZY (g n c K:Nat):Prop:=∀(w w0:World) (X U V Y D:List El) (A M B:Nat),D=X++(U++(V++Y))->Dt w0 g n D w->Sm D->X.length=A->A+U.length=M->M+V.length=B->dy U->dy V->Sep U V->0<U.length->0<V.length->U.length+V.length<=K->
 Calls Tryz.prog 140 #[.slice (some ⟨g,0,none⟩) n c, .int .i64 A, .int .i64 M, .int .i64 B,ov] w (gM w0 g n X (U++V) Y)
def S3Z (w0:World) (g n:Nat) (X W Y:List El) (wx:World):Prop:=∃Z,Dt w0 g n (X++(Z++Y)) wx/\dy Z/\Z.Perm W
theorem PI (K:Nat) (w w0:World) (g n c:Nat) (IH:ZY g n c K) (X U V Y D:List El) (A M B:Nat) (hD:D=X++(U++(V++Y))) (h:Dt w0 g n D w) (O:n<=1000) (ah:Sm D) (hA:X.length=A) (hM:A+U.length=M) (hB:M+V.length=B) (hU:dy U) (hV:dy V) (mK:Sep U V) (Ew:1<U.length) (sY:1<V.length) (hK:U.length+V.length<=K+1):
  Calls Tryz.prog 140 #[.slice (some ⟨g,0,none⟩) n c, .int .i64 A, .int .i64 M, .int .i64 B,ov] w (gM w0 g n X (U++V) Y):=by
 have Q:=h.len;have sj:B<=n:=by rw[<-Q,hD];simp only [List.length_append];omega
 obtain⟨a,sk⟩ :=ν ((A+B)/2);obtain⟨H,xG⟩ :=ν (a+M);obtain⟨P,hP⟩ :=ν (H-1)
 obtain⟨lo,hi,u⟩ :∃lo hi:Nat,(a<M/\lo=H-B/\hi=a)\/(M<=a/\lo=A/\hi=M):=by
  by_cases e:a<M
  · exact⟨_,_, .inl ⟨e,rfl,rfl⟩⟩
  · exact⟨_,_, .inr ⟨ω,rfl,rfl⟩⟩
 obtain⟨nu,bp⟩ :=ν (U.length);obtain⟨nv,bo⟩ :=ν (V.length);have bk:(M:Int)-(A:Int)=(nu:Int):=ω;have bi:(B:Int)-(M:Int)=(nv:Int):=ω;have Xe:((nu:Int)==1)=false:=ξ;have bn:((nv:Int)==1)=false:=ξ;have Sb:((A:Int)+(B:Int))/2=(a:Int):=ω;have tI:(a:Int)+(M:Int)=(H:Int):=ω;have tq:(H:Int)-1=(P:Int):=ω;have sq:(0:Int)<=A/\(A:Int)<=1000/\(0:Int)<=B/\(B:Int)<=1000/\(0:Int)<=M/\(M:Int)<=1000/\(0:Int)<=a/\(a:Int)<=1000/\(0:Int)<=H/\(H:Int)<=2000/\(0:Int)<=P/\(P:Int)<=2000/\(n:Int)<=1000:=ω;have bS:Hid (S3R w0 g n D lo hi P (hi-lo) (.int .i64 lo) (.int .i64 hi) w):= ⟨lo,hi,rfl,rfl,Nat.le_refl _,ω,Nat.le_refl _,λh=>absurd h (Nat.lt_irrefl _),λh=>absurd h (Nat.lt_irrefl _),rfl,h⟩
 have ao:∀(w w0:World) (X U V Y D:List El) (A M B:Nat),D=X++(U++(V++Y))->Dt w0 g n D w->Sm D->X.length=A->A+U.length=M->M+V.length=B->dy U->dy V->Sep U V->0<U.length->0<V.length->U.length+V.length<=K->
  Calls Tryz.prog 140 #[.slice (some ⟨g,0,none⟩) n c, .int .i64 A, .int .i64 M, .int .i64 B, .func (.func 131) #[] #[]] w (gM w0 g n X (U++V) Y):=IH
 have an:∀(w w0:World) (X U V Y D:List El) (A M B:Nat),D=X++(U++(V++Y))->Dt w0 g n D w->X.length=A->X.length+U.length=M->X.length+U.length+V.length=B->0<U.length->0<V.length->
  Calls Tryz.prog 141 #[.slice (some ⟨g,0,none⟩) n c, .int .i64 A, .int .i64 M, .int .i64 B, .func (.func 131) #[] #[]] w (EH w0 g n (X++(V++(U++Y)))):=λw w0 X U V Y D A M B h1 h2 F h4 h5 h6 h7=>T3 w w0 g n c X U V Y D h1 h2 O A M B F h4 h5 h6 h7
 have aE:=η ao;have a36:=η an;have z:=η (⟨hA,hM,hB,sj,O,sk,xG,hP,u,Ew,sY,hK⟩ :X.length=A/\A+U.length=M/\M+V.length=B/\B<=n/\n<=1000/\(A+B)/2=a/\a+M=H/\H-1=P/\((a<M/\lo=H-B/\hi=a)\/(M<=a/\lo=A/\hi=M))/\1<U.length/\1<V.length/\U.length+V.length<=K+1);have HD:=η hD;have HS:=η (⟨hU,hV⟩ :_/\_);have aC:=η mK
 have Zx:Hid (∀q r,A<=q->q<M->M<=r->r<B->ps (el D q)<=ps (el D r)):=λq r h1 h2 F h4=>by
  have e1:el D q=el U (q-A):=by
   rw[hD,show q=X.length+(q-A) by omega];rw[mS ω,show X.length+(q-A)-A=q-A by omega]
  have e2:el D r=el V (r-M):=by
   rw[hD,show X++(U++(V++Y))=(X++U)++(V++Y) by simp,show r=(X++U).length+(r-M) by rw[List.length_append];omega];rw[mS ω,show(X++U).length+(r-M)-M=r-M by rw[List.length_append];omega]
  rw[e1,e2];exact mK _ (gW ω) _ (gW ω)
 have sP:=η ah;have Zq:=η Q
 have am:((a:Int)<(M:Int)/\(H:Int)-(B:Int)=(lo:Int)/\hi=a)\/(¬(a:Int)<(M:Int)/\lo=A/\hi=M):=by
  rcases u with ⟨h1,h2,F⟩ | ⟨h1,h2,F⟩
  · exact .inl ⟨ω,ω,F⟩
  · exact .inr ⟨ω,h2,F⟩
 have bv:=η am;have bI:(0:Int)<=lo/\(lo:Int)<=1000/\(0:Int)<=hi/\(hi:Int)<=1000:=ω;clear hA hM hB sj O sk xG hP u Ew sY hK hD hU hV ah Q h ao an IH am bp bo mK;unfold ov;go_enter Tryz.func140,Tryz.ntmps140
 go_upto_if 140 with fail
 go_cut [20,21] (λbd bb wx=>bd= .int .i64 (lo:Nat)/\bb= .int .i64 (hi:Nat)/\wx=w)
 case first=>
  as_aux_lemma=>
   rcases bv.out with ⟨h1,h2,rfl⟩ | ⟨h1,rfl,rfl⟩
   · go_wp2_with fail
     all_goals go_meet
     all_goals exact⟨rfl,rfl,rfl⟩
   · go_wp2_with fail
     all_goals go_meet
     all_goals exact⟨rfl,rfl,rfl⟩
 case rest=>
  obtain⟨rfl,rfl,rfl⟩ :=hcut;clear bk bi Xe bn Sb tI
  go_wp2_with fail
  go_loopg [20,21] (hi-lo) (S3R w0 g n D lo hi P)
  case atStart=>exact bS.out
  case round=>
   clear bS;obtain⟨i,j,rfl,rfl,YT,tG,YS,h1,h2,hk,h⟩ :=hrel;by_cases al:i<j
   · as_aux_lemma=>
      obtain⟨q,hq⟩ :=ν ((i+j)/2);obtain⟨r,hr⟩ :=ν (P-q);have Ii:i<=q/\q<j:=ω
      have hb:q<n/\r<n/\q<=P/\(n:Int)<=1000:=by
       obtain⟨hA,hM,hB,sj,O,sk,xG,hP,u,Ew,sY,hK⟩ :=z.out;rcases u with ⟨b,f,T⟩ | ⟨b,f,T⟩ <;> omega
      obtain⟨Lx,Lz,bl,rE⟩ :=hb;have rD:(i:Int)<(j:Int):=ω;have Uz:(0:Int)<=q/\(q:Int)<n/\(0:Int)<=r/\(r:Int)<n/\(0:Int)<=i/\(0:Int)<=j/\(j:Int)<=1000/\(i:Int)<=1000:=ω;have bG:((i:Int)+(j:Int))/2=(q:Int):=ω;have be:(P:Int)-(q:Int)=(r:Int):=ω;have w1:IntKind.i64.wrap ((P:Int)-(q:Int))=(r:Int):=by rw[be];exact kR ω
      have w2:IntKind.i64.wrap (r:Int)=(r:Int):=kR ω;obtain⟨x,hx⟩ :=ν (el D r);obtain⟨y,hy⟩ :=ν (el D q);have Ls:=Zq.out;have sx:=sP.out x (by rw[<-hx];exact gW ω);have sy:=sP.out y (by rw[<-hy];exact gW ω);have HE:=η (⟨Ii,YT,tG,YS,hr⟩ :_/\_/\_/\_/\_);obtain⟨N,xA,xn,xc⟩ :=x;obtain⟨L,yA,yn,yc⟩ :=y;replace sx:0<=N/\N<=4294967296:=sx;replace sy:0<=L/\L<=4294967296:=sy;have I:=η (⟨Lz,Lx,hx,hy⟩ :r<n/\q<n/\el D r=(N,xA,xn,xc)/\el D q=(L,yA,yn,yc));obtain⟨d,hd⟩ :=ν (N-L);have HC:=η (⟨hd,sx,sy⟩ :N-L=d/\(0<=N/\N<=4294967296)/\(0<=L/\L<=4294967296));have LP:Hid (d<0↔N<L):=by show _↔_;omega
      obtain⟨a0,a1,b0,b1, -⟩ :=fo.of I h;clear hd sx sy hx hy Ii YT tG YS Ls Lz Lx bl al hr
      go_wp2_with fail
      by_cases bs:d<0
      · go_region_held3 (λw'=>w'.cell? ⟨g,r*2,none⟩ =some (.int .i64 N)/\w'.cell? ⟨g,r*2+1,none⟩ =some (.slice xA xn xc)/\w'.cell? ⟨g,q*2,none⟩ =some (.int .i64 L)/\w'.cell? ⟨g,q*2+1,none⟩ =some (.slice yA yn yc)/\Dt w0 g n D w')
         (first | exact fo.of I mf | exact fo.of I h | exact fo.of I h.drew)
         (first | (go_at_call 131;(refine(mP (by first | exact h | exact h.drew) _ _ HC).mono ?_);rintro e w5 ⟨rfl,mf⟩))
        clear a0 a1 b0 b1 h
        go_wp2_with fail
        go_roundg (q-i)
        case measure=>have:=hk.out;have:=HE.out.1;omega
        case rel=>
         obtain⟨Ii,YT,tG,YS,hr⟩ :=HE.out;refine⟨i,q,rfl,rfl,YT,ω,ω,h1,λ_=> ?_,rfl,mf⟩;rw[hr,I.out.2.2.1,I.out.2.2.2];exact .inl (LP.out.1 bs)
      · have oW:decide (d<0)=false:=ξ
        go_region_held3 (λw'=>w'.cell? ⟨g,r*2,none⟩ =some (.int .i64 N)/\w'.cell? ⟨g,r*2+1,none⟩ =some (.slice xA xn xc)/\w'.cell? ⟨g,q*2,none⟩ =some (.int .i64 L)/\w'.cell? ⟨g,q*2+1,none⟩ =some (.slice yA yn yc)/\Dt w0 g n D w')
         (first | exact fo.of I mf | exact fo.of I h | exact fo.of I h.drew)
         (first | (go_at_call 131;(refine(mP (by first | exact h | exact h.drew) _ _ HC).mono ?_);rintro e w5 ⟨rfl,mf⟩))
        clear a0 a1 b0 b1 h
        go_wp2_with fail
        go_roundg (j-(q+1))
        case measure=>have:=hk.out;have:=HE.out.1;omega
        case rel=>
         obtain⟨Ii,YT,tG,YS,hr⟩ :=HE.out;refine⟨q+1,j,by go_num,rfl,ω,ω,YS,λ_=> ?_,h2,rfl,mf⟩;rw[Nat.add_sub_cancel,hr,I.out.2.2.1,I.out.2.2.2];have h8:=Zx.out q r (by obtain⟨hA,hM,hB,sj,O,sk,xG,hP,u,Ew,sY,hK⟩ :=z.out;rcases u with ⟨b,f,T⟩ | ⟨b,f,T⟩ <;> omega) (by obtain⟨hA,hM,hB,sj,O,sk,xG,hP,u,Ew,sY,hK⟩ :=z.out;rcases u with ⟨b,f,T⟩ | ⟨b,f,T⟩ <;> omega) (by obtain⟨hA,hM,hB,sj,O,sk,xG,hP,u,Ew,sY,hK⟩ :=z.out;rcases u with ⟨b,f,T⟩ | ⟨b,f,T⟩ <;> omega) (by obtain⟨hA,hM,hB,sj,O,sk,xG,hP,u,Ew,sY,hK⟩ :=z.out;rcases u with ⟨b,f,T⟩ | ⟨b,f,T⟩ <;> omega);rw[I.out.2.2.1,I.out.2.2.2]at h8;exact jZ.of_le (by have:=LP.out;show L<=N;omega) h8
   · obtain⟨s,rfl⟩ :∃s,i=s:= ⟨i,rfl⟩;obtain rfl:i=j:=ω;obtain⟨E,hE⟩ :=ν (H-i)
     have hf:A<=i/\i<=M/\i<=a/\a<=E/\E<=B/\M<=E/\E=a+(M-i)/\a+M=E+i/\A<a/\a<B/\i<=H:=by
      obtain⟨hA,hM,hB,sj,O,sk,xG,hP,u,Ew,sY,hK⟩ :=z.out;rcases u with ⟨b,f,T⟩ | ⟨b,f,T⟩ <;> omega
     obtain⟨f1,f2,f3,f4,f5,f6,f7,f8,f9,m,bt⟩ :=hf;obtain⟨U1,U2,t,S⟩ :∃U1 U2,U=U1++U2/\U1.length=i-A:= ⟨U.take (i-A),U.drop (i-A),(List.take_append_drop ..).symm,by rw[List.length_take];have:=z.out;omega⟩;obtain⟨V1,V2,o,l⟩ :∃V1 V2,V=V1++V2/\V1.length=E-M:= ⟨V.take (E-M),V.drop (E-M),(List.take_append_drop ..).symm,by rw[List.length_take];have:=z.out;omega⟩;have R:U2.length=M-i:=by have:=z.out.2.1;rw[t,List.length_append]at this;omega
     have k:V2.length=B-E:=by have:=z.out.2.2.1;rw[o,List.length_append]at this;omega
     have YL:X.length=A:=z.out.1;have C:D=(X++U1)++(U2++(V1++(V2++Y))):=by rw[HD.out,t,o];simp
     have J:(X++U1).length=i:=by rw[List.length_append];omega
     have c1:0<U1.length->0<V2.length->jZ (el U1 (U1.length-1)) (el V2 0):=λb f=>by
      have jI:lo<i:=by
       obtain⟨hA,hM,hB,sj,O,sk,xG,hP,u,Ew,sY,hK⟩ :=z.out;rcases u with ⟨k1,k2,k3⟩ | ⟨k1,k2,k3⟩ <;> omega
      have h9:=h1.out jI;have ac:P-(i-1)=E:=by have:=z.out;omega
      have ea:el D (i-1)=el U1 (U1.length-1):=by
       rw[C,show(X++U1)++(U2++(V1++(V2++Y)))=X++(U1++(U2++(V1++(V2++Y)))) by simp,show i-1=X.length+(U1.length-1) by omega];exact mS ω
      have eb:el D E=el V2 0:=by
       have lx:(((X++U1)++U2)++V1).length=E:=by simp only [List.length_append];omega
       rw[C,show(X++U1)++(U2++(V1++(V2++Y)))=(((X++U1)++U2)++V1)++(V2++Y) by simp,show E=(((X++U1)++U2)++V1).length+0 by omega];exact mS f
      rw[ac,ea,eb]at h9;exact h9
     have c2:0<V1.length->0<U2.length->jZ (el V1 (V1.length-1)) (el U2 0):=λb f=>by
      have Ey:i<hi:=by
       obtain⟨hA,hM,hB,sj,O,sk,xG,hP,u,Ew,sY,hK⟩ :=z.out;rcases u with ⟨k1,k2,k3⟩ | ⟨k1,k2,k3⟩ <;> omega
      have h9:=h2.out Ey;have ac:P-i=E-1:=by have:=z.out;omega
      have ea:el D i=el U2 0:=by
       rw[C,show i=(X++U1).length+0 by omega];exact mS f
      have eb:el D (E-1)=el V1 (V1.length-1):=by
       have lx:((X++U1)++U2).length=M:=by simp only [List.length_append];omega
       rw[C,show(X++U1)++(U2++(V1++(V2++Y)))=((X++U1)++U2)++(V1++(V2++Y)) by simp,show E-1=((X++U1)++U2).length+(V1.length-1) by omega];exact mS ω
      rw[ac,ea,eb]at h9;exact h9
     have bB:(H:Int)-(i:Int)=(E:Int):=ω;have S3:(0:Int)<=i/\(i:Int)<=1000/\(0:Int)<=E/\(E:Int)<=1000:=ω;have HF:=η (⟨f1,f2,f3,f4,f5,f6,f7,f8,f9,m⟩ :_/\_/\_/\_/\_/\_/\_/\_/\_/\_);have QN:=η (⟨t,o,S,l,R,k,C,J⟩ :U=U1++U2/\V=V1++V2/\U1.length=i-A/\V1.length=E-M/\U2.length=M-i/\V2.length=B-E/\D=(X++U1)++(U2++(V1++(V2++Y)))/\(X++U1).length=i);have BI:=η (⟨c1,c2⟩ :_/\_);clear f1 f2 f3 f4 f5 f6 f7 f8 f9 m bt t o S l R k C J c1 c2 hE YL YT tG YS h1 h2 tq al
     go_upto_region 39 with fail
     go_cut [185] (λv wx=>v= .bool (decide (i<M/\M<E))/\wx=wr)
     case first=>
      as_aux_lemma=>
       by_cases b:i<M
       · by_cases f:M<E
         · have TM:(i:Int)<(M:Int):=ω;have W:(M:Int)<(E:Int):=ω
           go_wp2_with fail
           go_meet
           exact⟨by rw[decide_eq_true (⟨b,f⟩ :_/\_)],rfl⟩
         · have TM:(i:Int)<(M:Int):=ω;have W:decide ((M:Int)<(E:Int))=false:=ξ
           go_wp2_with fail
           all_goals go_meet
           all_goals exact⟨by rw[decide_eq_false (λh=>f h.2)],rfl⟩
       · have TM:decide ((i:Int)<(M:Int))=false:=ξ
         go_wp2_with fail
         all_goals go_meet
         all_goals exact⟨by rw[decide_eq_false (λh=>b h.1)],rfl⟩
     case rest=>
      obtain⟨rfl,rfl⟩ :=hcut;have HH:=η h;clear h
      go_upto_if 185 with fail
      go_cut [] (λwx=>Dt w0 g n ((X++U1)++(V1++(U2++(V2++Y)))) wx)
      case first=>
       as_aux_lemma=>
        obtain⟨t,o,S,l,R,k,C,J⟩ :=QN.out;obtain⟨f1,f2,f3,f4,f5,f6,f7,f8,f9,m⟩ :=HF.out;by_cases b:i<M/\M<E
        · rw[decide_eq_true b];have im:=η (a36.out _ w0 (X++U1) U2 V1 (V2++Y) D i M E C HH.out J ω ω ω ω);clear f1 f2 f3 f4 f5 f6 f7 f8 f9 m t o S l R k C J
          go_wp2_with fail
          refine im.out.mono ?_;rintro e w5 ⟨rfl,h5⟩
          go_wp2_with fail
          go_meet
          exact h5
        · rw[decide_eq_false b]
          have jV:(X++U1)++(V1++(U2++(V2++Y)))=D:=by
           rw[C];by_cases k1:i<M
           · have:V1=[]:=List.eq_nil_of_length_eq_zero ω;rw[this];simp
           · have:U2=[]:=List.eq_nil_of_length_eq_zero ω;rw[this];simp
          have mb:=HH.out;rw[<-jV]at mb;have Zl:=η mb;clear f1 f2 f3 f4 f5 f6 f7 f8 f9 m t o S l R k C J mb jV
          go_wp2_with fail
          all_goals go_meet
          all_goals exact Zl.out
      case rest=>
       have Zl:=η hcut;clear hcut HH
       have ad:Sm ((X++U1)++(V1++(U2++(V2++Y)))):=sP.out.perm (by
        rw[QN.out.2.2.2.2.2.2.1];refine List.Perm.append_left _ ?_;have e1:V1++(U2++(V2++Y))=(V1++U2)++(V2++Y):=σ;have e2:U2++(V1++(V2++Y))=(U2++V1)++(V2++Y):=σ;rw[e1,e2];exact List.Perm.append_right _ List.perm_append_comm)
       have ZA:=η ad;clear ad
       go_upto_region 41 with fail
       go_cut [199] (λv wx=>v= .bool (decide (A<i/\i<a))/\wx=wc)
       case first=>
        as_aux_lemma=>
         by_cases b:A<i
         · by_cases f:i<a
           · have TM:(A:Int)<(i:Int):=ω;have W:(i:Int)<(a:Int):=ω
             go_wp2_with fail
             go_meet
             exact⟨by rw[decide_eq_true (⟨b,f⟩ :_/\_)],rfl⟩
           · have TM:(A:Int)<(i:Int):=ω;have W:decide ((i:Int)<(a:Int))=false:=ξ
             go_wp2_with fail
             all_goals go_meet
             all_goals exact⟨by rw[decide_eq_false (λh=>f h.2)],rfl⟩
         · have TM:decide ((A:Int)<(i:Int))=false:=ξ
           go_wp2_with fail
           all_goals go_meet
           all_goals exact⟨by rw[decide_eq_false (λh=>b h.1)],rfl⟩
       case rest=>
        obtain⟨rfl,rfl⟩ :=hcut
        go_upto_if 199 with fail
        go_cut [] (λwx=>S3Z w0 g n X (U1++V1) (U2++(V2++Y)) wx)
        case first=>
         as_aux_lemma=>
          obtain⟨t,o,S,l,R,k,C,J⟩ :=QN.out;obtain⟨f1,f2,f3,f4,f5,f6,f7,f8,f9,m⟩ :=HF.out;by_cases b:A<i/\i<a
          · rw[decide_eq_true b];have im:=η (aE.out _ w0 X U1 V1 (U2++(V2++Y)) _ A i a σ Zl.out ZA.out z.out.1 ω ω (dt.1 (by rw[<-t];exact HS.out.1)).1 (dt.1 (by rw[<-o];exact HS.out.2)).1 (aC.out.sub (λp hp=>by rw[t];exact List.mem_append_left _ hp) λp hp=>by rw[o];exact List.mem_append_left _ hp) ω ω (by have:=z.out;omega));clear f1 f2 f3 f4 f5 f6 f7 f8 f9 m t o S l R k C J
            go_wp2_with fail
            refine im.out.mono ?_;rintro e w5 ⟨Z,rfl,h5,ab,G⟩
            go_wp2_with fail
            go_meet
            exact⟨Z,h5,ab,G⟩
          · rw[decide_eq_false b]
            have hz:S3Z w0 g n X (U1++V1) (U2++(V2++Y)) wc:=by
             have h5:=Zl.out;rw[show(X++U1)++(V1++(U2++(V2++Y)))=X++((U1++V1)++(U2++(V2++Y))) by simp]at h5;refine⟨U1++V1,h5, ?_,List.Perm.refl _⟩;by_cases k1:A<i
             · have:V1=[]:=List.eq_nil_of_length_eq_zero ω;rw[this,List.append_nil];exact(dt.1 (by rw[<-t];exact HS.out.1)).1
             · have:U1=[]:=List.eq_nil_of_length_eq_zero ω;rw[this,List.nil_append];exact(dt.1 (by rw[<-o];exact HS.out.2)).1
            have HZ:=η hz;clear f1 f2 f3 f4 f5 f6 f7 f8 f9 m t o S l R k C J hz
            go_wp2_with fail
            all_goals go_meet
            all_goals exact HZ.out
        case rest=>
         have ap:=η hcut;clear hcut;clear Zl;obtain⟨Z1,F,Zd,UO⟩ :=ap.out
         have Kb:Sm (X++(Z1++(U2++(V2++Y)))):=ZA.out.perm (by
          rw[show(X++U1)++(V1++(U2++(V2++Y)))=X++((U1++V1)++(U2++(V2++Y))) by simp];exact List.Perm.append_left _ (List.Perm.append_right _ UO))
         have H3:=η (⟨F,Zd,UO,Kb⟩ :_/\_/\_/\_);clear F Zd UO Kb ap
         go_upto_region 43 with fail
         go_cut [213] (λv wx=>v= .bool (decide (a<E/\E<B))/\wx=wc)
         case first=>
          as_aux_lemma=>
           by_cases b:a<E
           · by_cases f:E<B
             · have TM:(a:Int)<(E:Int):=ω;have W:(E:Int)<(B:Int):=ω
               go_wp2_with fail
               go_meet
               exact⟨by rw[decide_eq_true (⟨b,f⟩ :_/\_)],rfl⟩
             · have TM:(a:Int)<(E:Int):=ω;have W:decide ((E:Int)<(B:Int))=false:=ξ
               go_wp2_with fail
               all_goals go_meet
               all_goals exact⟨by rw[decide_eq_false (λh=>f h.2)],rfl⟩
           · have TM:decide ((a:Int)<(E:Int))=false:=ξ
             go_wp2_with fail
             all_goals go_meet
             all_goals exact⟨by rw[decide_eq_false (λh=>b h.1)],rfl⟩
         case rest=>
          obtain⟨rfl,rfl⟩ :=hcut;obtain⟨t,o,S,l,R,k,C,J⟩ :=QN.out;obtain⟨f1,f2,f3,f4,f5,f6,f7,f8,f9,m⟩ :=HF.out;obtain⟨F,Zd,UO,Kb⟩ :=H3.out
          have aA:Hid (∀Z2 wx,Dt w0 g n (X++(Z1++(Z2++Y))) wx->dy Z2->Z2.Perm (U2++V2)->gM w0 g n X (U++V) Y (.returned (.tuple #[])) wx):=λZ2 wx h5 aI aS=>by
           obtain⟨j1,j2⟩ :=PJ (U1:=U1) (U2:=U2) (V1:=V1) (V2:=V2) (by rw[<-t];exact HS.out.1) (by rw[<-o];exact HS.out.2) UO Zd aS aI BI.out.1 BI.out.2;refine⟨Z1++Z2,rfl, ?_,j1,by rw[t,o];exact j2⟩;rw[show X++((Z1++Z2)++Y)=X++(Z1++(Z2++Y)) by simp];exact h5
          have sZ:Z1.length=U1.length+V1.length:=by rw[UO.length_eq,List.length_append]
          have YL:X.length=A:=z.out.1;by_cases b:a<E/\E<B
          · as_aux_lemma=>
             rw[decide_eq_true b];have im:=η (aE.out _ w0 (X++Z1) U2 V2 Y _ a E B σ F Kb (by rw[List.length_append];omega) ω ω (dt.1 (by rw[<-t];exact HS.out.1)).2.1 (dt.1 (by rw[<-o];exact HS.out.2)).2.1 (aC.out.sub (λp hp=>by rw[t];exact List.mem_append_right _ hp) λp hp=>by rw[o];exact List.mem_append_right _ hp) ω ω (by have:=z.out;omega));clear f1 f2 f3 f4 f5 f6 f7 f8 f9 m t o S l R k C J F Zd UO Kb sZ YL
             go_wp2_with fail
             refine im.out.mono ?_;rintro e w5 ⟨Z2,rfl,h5,ab,G⟩
             go_wp2_with fail
             go_end0
             rw[List.append_assoc]at h5;exact aA.out Z2 _ h5 ab G
          · as_aux_lemma=>
             rw[decide_eq_false b]
             have G:dy (U2++V2):=by
              by_cases k1:a<E
              · have:V2=[]:=List.eq_nil_of_length_eq_zero ω;rw[this,List.append_nil];exact(dt.1 (by rw[<-t];exact HS.out.1)).2.1
              · have:U2=[]:=List.eq_nil_of_length_eq_zero ω;rw[this,List.nil_append];exact(dt.1 (by rw[<-o];exact HS.out.2)).2.1
             have Bw:=aA.out (U2++V2) _ (by rw[List.append_assoc];exact F) G (List.Perm.refl _);have bx:=η Bw;clear f1 f2 f3 f4 f5 f6 f7 f8 f9 m t o S l R k C J F Zd UO Kb sZ YL G Bw
             go_wp2_with fail
             all_goals go_end0
             all_goals exact bx.out
end Go.Proofs.YtddhegejmkgmjaaGreat
