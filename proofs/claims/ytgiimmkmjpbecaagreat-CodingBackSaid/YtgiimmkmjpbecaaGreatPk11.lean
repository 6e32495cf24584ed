/-
  part
-/
import Derived.Test.YtgiimmkmjpbecaaGreatPk3
import Derived.Test.YtgiimmkmjpbecaaGreatProg
import Derived.Deep.RegionHeld3
import Derived.Deep.RegionLaw
import Derived.Deep.CutBlock
import Derived.Deep.DeepCutAuto
import Derived.BigRegion
set_option linter.unusedVariables false
set_option maxRecDepth 100000
set_option maxHeartbeats 8000000
namespace Go.Proofs.YtgiimmkmjpbecaaGreat
open Go.RowKit
def sv (v:ax×Nat×Nat):Value:= .slice v.1 v.2.1 v.2.2
def ye (D:List El) (j:Nat):Value:=if j%2=0 then .int .i64 (el D (j/2)).1 else sv (el D (j/2)).2
theorem sT (D:List El) {i j:Nat} (h:j=i*2):ye D j= .int .i64 (el D i).1:=by subst h;unfold ye;rw[aa ω,show i*2/2=i by omega]
theorem wV (D:List El) {i j:Nat} (h:j=i*2+1):ye D j=sv (el D i).2:=by subst h;unfold ye;rw[a8 ω,show(i*2+1)/2=i by omega]
def tE:Value:= .func (.func 148) #[] #[]
structure Dt (w0:World) (g n:Nat) (D:List El) (w:World):Prop where
 len:D.length=n
 dx:bb w0 w (λk=>k=g)
 ar:Ar w g (n*2) (ye D)
section
variable {w0 w w':World} {g n:Nat} {D:List El}
theorem Dt.lt (h:Dt w0 g n D w):g<w.heap.size:=h.ar.lt
theorem Dt.drewN (h:Dt w0 g n D w) (q:Nat):Dt w0 g n D (w.drewN q):= ⟨h.len,h.dx.drewN q,h.ar.drewN q⟩
theorem Dt.drew (h:Dt w0 g n D w):Dt w0 g n D w.drew:= ⟨h.len,h.dx.drew,h.ar.drew⟩
theorem Dt.keeps (h:Dt w0 g n D w) (a:Below w.heap.size w w'):Dt w0 g n D w':=
 ⟨h.len,h.dx.trans (bb.bC (S:=λ_=>False) a) λk b=>b.elim,h.ar.keeps a⟩
theorem Dt.c0 (h:Dt w0 g n D w) {i:Nat} (hi:i<n):w.cell? ⟨g,i*2,none⟩ =some (.int .i64 (el D i).1):=by rw[<-sT D rfl];exact h.ar.cell ω
theorem Dt.c1 (h:Dt w0 g n D w) {i:Nat} (hi:i<n):w.cell? ⟨g,i*2+1,none⟩ =some (sv (el D i).2):=by rw[<-wV D rfl];exact h.ar.cell ω
theorem Dt.z (h:Dt w0 g n D w) {i:Nat} (hi:i<n*2):w.frozen? ⟨g,i,none⟩ =false:=h.ar.frozen' hi
theorem Dt.stores (h:Dt w0 g n D w) {p q:Nat} (hp:p<n) (k:q<n) (a b c:Value):
  w.frozen? ⟨g,p*2,none⟩ =false/\(w.setCell ⟨g,p*2,none⟩ a).cell? ⟨g,p*2+1,none⟩ =some (upd (ye D) (p*2) a (p*2+1))/\(w.setCell ⟨g,p*2,none⟩ a).frozen? ⟨g,p*2+1,none⟩ =false/\
  ((w.setCell ⟨g,p*2,none⟩ a).setCell ⟨g,p*2+1,none⟩ b).cell? ⟨g,q*2,none⟩ =some (upd (upd (ye D) (p*2) a) (p*2+1) b (q*2))/\((w.setCell ⟨g,p*2,none⟩ a).setCell ⟨g,p*2+1,none⟩ b).frozen? ⟨g,q*2,none⟩ =false/\
  (((w.setCell ⟨g,p*2,none⟩ a).setCell ⟨g,p*2+1,none⟩ b).setCell ⟨g,q*2,none⟩ c).cell? ⟨g,q*2+1,none⟩ =some (upd (upd (upd (ye D) (p*2) a) (p*2+1) b) (q*2) c (q*2+1))/\(((w.setCell ⟨g,p*2,none⟩ a).setCell ⟨g,p*2+1,none⟩ b).setCell ⟨g,q*2,none⟩ c).frozen? ⟨g,q*2+1,none⟩ =false:=by
 have j:=h.ar;have e:=j.iz (i:=p*2) ω a;have d:=e.iz (i:=p*2+1) ω b;have f:=d.iz (i:=q*2) ω c;exact⟨j.frozen' ω,e.cell ω,e.frozen' ω,d.cell ω,d.frozen' ω,f.cell ω,f.frozen' ω⟩
theorem Dt.swp (h:Dt w0 g n D w) {p q:Nat} (hp:p<n) (o:q<n) (l:p≠q):
  Dt w0 g n (Go.Proofs.YtgiimmkmjpbecaaGreat.swp D p q) ((((w.setCell ⟨g,p*2,none⟩ (.int .i64 (el D q).1)).setCell ⟨g,p*2+1,none⟩ (sv (el D q).2)).setCell ⟨g,q*2,none⟩ (.int .i64 (el D p).1)).setCell ⟨g,q*2+1,none⟩ (sv (el D p).2)):=by
 refine⟨NK.trans h.len,(((h.dx.setCell (p:= ⟨g,p*2,none⟩) (.inl rfl) _).setCell (p:= ⟨g,p*2+1,none⟩) (.inl rfl) _).setCell (p:= ⟨g,q*2,none⟩) (.inl rfl) _).setCell (p:= ⟨g,q*2+1,none⟩) (.inl rfl) _, ?_⟩;refine((((h.ar.iz (i:=p*2) ω _).iz (i:=p*2+1) ω _).iz (i:=q*2) ω _).iz (i:=q*2+1) ω _).congr λj s=> ?_;have r:=h.len
 have e:∀i,i<n->el (Go.Proofs.YtgiimmkmjpbecaaGreat.swp D p q) i=if i=p then el D q else if i=q then el D p else el D i:=λi hi=>by
  unfold Go.Proofs.YtgiimmkmjpbecaaGreat.swp
  have k:∀(E:List El) (a:Nat) (v:El),a<E.length->el (E.set a v) i=if i=a then v else el E i:=λE a v m=>by
   unfold el;rw[au,au,List.getElem?_set];by_cases h:a=i
   · subst h;rw[aa rfl,aa m,aa rfl];rfl
   rw[a8 h,a8 (λe=>h e.symm)]
  rw[k _ _ _ (by rw[fQ];omega),k _ _ _ ω];by_cases c:i=q
  · rw[aa c,a8 ω,aa c]
  rw[a8 c,a8 c]
 unfold upd;have d:j/2<n:=ω;by_cases t:j%2=0
 · have b:j=j/2*2:=ω;rw[sT (Go.Proofs.YtgiimmkmjpbecaaGreat.swp D p q) b,e _ d];rw[a8 ω];by_cases c:j=q*2
   · rw[aa c,a8 ω,aa ω]
   rw[a8 c,a8 ω];by_cases f:j=p*2
   · rw[aa f,aa ω]
   rw[a8 f,a8 ω,a8 ω,sT _ b]
 have b:j=j/2*2+1:=ω;rw[wV (Go.Proofs.YtgiimmkmjpbecaaGreat.swp D p q) b,e _ d];by_cases c:j=q*2+1
 · rw[aa c,a8 ω,aa ω]
 rw[a8 c,a8 ω];by_cases f:j=p*2+1
 · rw[aa f,aa ω]
 rw[a8 f,a8 ω,a8 ω,a8 ω,wV _ b]
end
def Yy (w:World) (x y:Int) (e:Ending) (w':World):Prop:=e= .returned (.int .i64 (x-y))/\Below w.heap.size w w'
theorem Z6 (w:World) (x y:Int) (u v:Value) (b:0<=x/\x<=4294967296) (a:0<=y/\y<=4294967296):
  Calls Tryz.prog 148 #[.agg #[.int .i64 x,u], .agg #[.int .i64 y,v]] w (Yy w x y):=by
 go_in
 go_wp2;go_ret;exact⟨rfl,((aw _ w).alloc (af _) _).alloc σ _⟩
theorem rQ {w0 w:World} {g n:Nat} {D:List El} (h:Dt w0 g n D w) {x y d:Int} (u v:Value) (H:Hid (x-y=d/\(0<=x/\x<=4294967296)/\(0<=y/\y<=4294967296))):
  Calls Tryz.prog 148 #[.agg #[.int .i64 x,u], .agg #[.int .i64 y,v]] w λe w'=>e= .returned (.int .i64 d)/\Dt w0 g n D w':=by
 refine(Z6 w x y u v H.out.2.1 H.out.2.2).mono ?_;rintro e w' ⟨rfl,a⟩;exact⟨by rw[H.out.1],h.keeps a⟩
def kd (w0:World) (g n:Nat) (D:List El) (p q:Nat) (a e:Int) (d i:ax) (b c f h:Nat) (w':World):Prop:=
 w'.cell? ⟨g,p*2,none⟩ =some (.int .i64 a)/\w'.cell? ⟨g,p*2+1,none⟩ =some (.slice d b c)/\w'.cell? ⟨g,q*2,none⟩ =some (.int .i64 e)/\w'.cell? ⟨g,q*2+1,none⟩ =some (.slice i f h)/\Dt w0 g n D w'
theorem kd.of {w0 w:World} {g n:Nat} {D:List El} {p q:Nat} {a e:Int} {d j:ax} {b c f i:Nat} (H:Hid (p<n/\q<n/\el D p=(a,d,b,c)/\el D q=(e,j,f,i))) (h:Dt w0 g n D w):kd w0 g n D p q a e d j b c f i w:=by
 obtain⟨m,l,k,h4⟩ :=H.out;refine⟨?_, ?_, ?_, ?_,h⟩
 · have:=h.c0 m;rwa [k]at this
 · have:=h.c1 m;rwa [k]at this
 · have:=h.c0 l;rwa [h4]at this
 have:=h.c1 l;rwa [h4]at this
def Sm (D:List El):Prop:=∀p∈D,0<=p.1/\p.1<=4294967296
def a48 (w0:World) (g n:Nat) (X Y c:List El) (b:Nat) (k:Nat) (a:Value) (wr:World):Prop:=
 ∃U V D,a= .int .i64 ((X.length+U.length:Nat):Int)/\Hid (D=X++(U++(V++Y)))/\Dt w0 g n D wr/\iF U/\0<U.length/\Hid ((U++V).Perm c)/\Hid (k=V.length)/\X.length+U.length+V.length=b/\Sm D/\Hid (Sep U V/\PF V)
def a47 (w0:World) (g n:Nat) (X Y V U:List El) (x:El) (k:Nat) (a:Value) (wr:World):Prop:=
 ∃U1 U2 D,a= .int .i64 ((X.length+U1.length:Nat):Int)/\Hid (D=X++(U1++x::(U2++(V++Y))))/\Dt w0 g n D wr/\Hid (U1++U2=U)/\Hid (∀q∈U2,pz x q)/\Hid (k=U1.length)/\Sm D
def lr (w0:World) (g n:Nat) (X a Y:List El) (e:Ending) (w':World):Prop:=∃U,e= .returned (.tuple #[])/\Dt w0 g n (X++(U++Y)) w'/\iF U/\U.Perm a
theorem LP (l:List El):l=[]\/∃l' y,l=l'++[y]:=by
 rcases List.eq_nil_or_concat l with h | ⟨l',y,h⟩
 · exact .inl h
 exact .inr ⟨l',y,by rw[h];simp⟩
theorem a0o (w w0:World) (g n c:Nat) (X P Y D:List El) (hD:D=X++(P++Y)) (h:Dt w0 g n D w) (hn:n<=1000) (L:Sm D) (Q:0<P.length) (Fz:PF P):
  Calls Tryz.prog 153 #[.slice (some ⟨g,0,none⟩) n c, .int .i64 (X.length:Nat), .int .i64 ((X.length+P.length:Nat):Int),tE] w (lr w0 g n X P Y):=by
 obtain⟨u,H,rfl⟩ :∃u H,P=u::H:=by
  cases P with
  | nil=>simp at Q
  | cons u V=>exact⟨u,V,rfl⟩
 have J:=h.len;have W:X.length+(u::H).length<=n:=by rw[<-J,hD];simp only [List.length_append];omega
 obtain⟨K,C⟩ :=ν (X.length);obtain⟨b,hb⟩ :=ν (X.length+(u::H).length);have FP:K+1<=b/\b<=n:=by rw[<-C,<-hb];simp only [List.length_cons]at W⊢;omega
 have be:(0:Int)<=K/\(K:Int)+1<=b/\(b:Int)<=n/\(n:Int)<=1000:=ω;have HX:=η C;have HB:=η hb;have Z:Hid (a48 w0 g n X Y (u::H) b H.length (.int .i64 ((K:Int)+1)) w):= ⟨[u],H,D,by rw[<-C];simp,by show D=_;rw[hD];simp,h,i9 _ _,σ,cO _,rfl,by rw[<-hb];simp only [List.length_cons,List.length_nil];omega,L, ⟨λp hp q E=>by rw[bk.1 hp];exact(aV.1 Fz).1 q E,(aV.1 Fz).2⟩⟩;rw[hb,C];unfold tE;clear hb C W J hD h L Q Fz
 go_in
 go_wp2_with fail;go_loopg [8] H.length (a48 w0 g n X Y (u::H) b)
 case atStart=>exact Z
 clear Z;obtain⟨U,V,D,rfl,hD,h,L,hu,hp,hk,G,l,rh⟩ :=hrel;obtain⟨p,R⟩ :=ν (X.length+U.length);rw[R]at G⊢;have I:=η R;cases V with
 | nil=>
   have Yo:¬(p:Int)<(b:Int):=by have:p=b:=G
                                omega
   clear G R
   go_wp2_with fail;go_end0;exact⟨U,rfl,by rw[hD.out]at h;exact h,L,by have:=hp.out;rwa [ak]at this⟩
 | cons x V=>
   have Yo:(p:Int)<(b:Int)/\(0:Int)<=p:=by simp only [List.length_cons]at G;omega
   have F:p+1+V.length=b:=by simp only [List.length_cons]at G;omega
   have ac:=η F;have Z:Hid (a47 w0 g n X Y V U x U.length (.int .i64 p) wr):= ⟨U,[],D,by rw[R],by show D=_;rw[hD.out];simp,h,by show _=_;simp,λq E=>by simp at E,rfl,l⟩;clear G R F hD h l
   go_wp2_with fail;go_loopg [9] U.length (a47 w0 g n X Y V U x)
   case atStart=>exact Z
   clear Z;obtain⟨U1,U2,D,rfl,hD,h,Q,h2,ap,l⟩ :=hrel;rcases LP U1 with rfl | ⟨U1,y,rfl⟩
   · have O:X.length+([]:List El).length=K:=HX.out;rw[O];clear O
     go_wp2_with fail;go_quiet (fail)
     go_wp2_with fail;go_roundg V.length
     case measure=>have:=hk.out;rw[br]at this;omega
     have e:U2=U:=Q.out;subst e;have F:=ac.out;refine⟨x::U2,V,D, ?_, ?_,h.drewN _,aV.2 ⟨h2.out,L⟩,σ, ?_,rfl, ?_,l,K6 rh.out λp hp=>aZ.1 hp⟩
     · rw[<-I.out];simp;omega
     · show D=_;rw[hD.out];simp
     · exact(List.perm_middle.symm).trans hp.out
     have:=I.out;rw[br];omega
   obtain⟨j,hj⟩ :=ν (X.length+U1.length);have O:X.length+(U1++[y]).length=j+1:=by rw[ae,cJ];omega
   have aE:K<=j:=by have:=HX.out;omega
   have SY:=h.len
   have sZ:j+1<n:=by
    rw[hD.out]at SY;simp only [List.length_append,List.length_cons,List.length_nil]at SY;omega
   obtain⟨m,M⟩ :=ν (j+1);have ey:el D j=y:=by rw[hD.out,show X++(U1++[y]++x::(U2++(V++Y)))=(X++U1)++y::(x::(U2++(V++Y))) by simp];exact kN (by rw[ae];exact hj.symm)
   have ex:el D m=x:=by rw[hD.out,show X++(U1++[y]++x::(U2++(V++Y)))=(X++(U1++[y]))++x::(U2++(V++Y)) by simp];exact kN (by rw[ae];omega)
   have T:x∈D:=by rw[<-ex];exact lL ω
   have S:y∈D:=by rw[<-ey];exact lL ω
   have sx:=l x T;have sy:=l y S;obtain⟨f,B,v,A⟩ :=x;obtain⟨a,s,o,r⟩ :=y;replace sx:0<=f/\f<=4294967296:=sx;replace sy:0<=a/\a<=4294967296:=sy;have bo:(0:Int)<=j/\(j:Int)<n/\(0:Int)<=m/\(m:Int)<n/\(K:Int)<m/\(j:Int)<m:=ω;have VQ:(m:Int)-1=(j:Int):=ω;have bl:IntKind.i64.wrap ((m:Int)-1)=(j:Int):=by rw[aM _ ω];exact VQ
   have bi:IntKind.i64.wrap (j:Int)=(j:Int):=aM _ ω;have k:=η (⟨ω,ω,ey,ex⟩ :j<n/\m<n/\el D j=(a,s,o,r)/\el D m=(f,B,v,A));obtain⟨a0,a1,b0,b1, -⟩ :=kd.of k h;rw[O,M];have ad:=η M;have HJ:=η hj;clear O M aE SY sZ ey ex hj T S
   go_wp2_with fail;obtain⟨d,hd⟩ :=ν (f-a);have HC:=η (⟨hd,sx,sy⟩ :f-a=d/\(0<=f/\f<=4294967296)/\(0<=a/\a<=4294967296));have ab:d<0↔f<a:=ω;have Tn:=η ab;clear hd sx sy ab;by_cases ao:d<0
   ·
    go_region_held3 (λw'=>w'.cell? ⟨g,j*2,none⟩ =some (.int .i64 a)/\w'.cell? ⟨g,j*2+1,none⟩ =some (.slice s o r)/\w'.cell? ⟨g,m*2,none⟩ =some (.int .i64 f)/\w'.cell? ⟨g,m*2+1,none⟩ =some (.slice B v A)/\Dt w0 g n D w')
     (first | exact kd.of k t | exact kd.of k h | exact kd.of k h.drew)
     (first | (go_at_call 148;(refine(rQ (by first | exact h | exact h.drew) _ _ HC).mono ?_);rintro e w5 ⟨rfl,t⟩))
    obtain⟨a0,a1,b0,b1, -⟩ :=kd.of k t;have an:=t.z (i:=j*2) (τ k.out.1);have am:=t.z (i:=j*2+1) (τ k.out.1);have al:=t.z (i:=m*2) (τ k.out.2.1);have ah:=t.z (i:=m*2+1) (τ k.out.2.1);obtain⟨z0,c1,z1,c2,z2,c3,z3⟩ :=t.stores k.out.2.1 k.out.1 (.int .i64 a) (.slice s o r) (.int .i64 f)
    go_wp2_with fail;go_region;have h6:=(t.swp k.out.2.1 k.out.1 (τ ad.out)).drew;rw[k.out.2.2.1,k.out.2.2.2]at h6;clear z0 c1 z1 c2 z2 c3 z3 an am al ah a0 a1 b0 b1 h
    all_goals
     go_wp2_with fail;go_roundg U1.length
     case measure=>have:=ap.out;rw[ae,cJ]at this;omega
     have e0:D=(X++U1)++(a,s,o,r)::([]++(f,B,v,A)::(U2++(V++Y))):=by rw[hD.out];simp
     have e9:Go.Proofs.YtgiimmkmjpbecaaGreat.swp D m j=X++(U1++(f,B,v,A)::((a,s,o,r)::U2++(V++Y))):=by
      have G:(X++U1).length=j:=by rw[ae];exact HJ
      rw[Kk,e0,zn G.symm (by rw[G,<-ad.out];simp)];simp
     refine⟨U1,(a,s,o,r)::U2,_,by rw[HJ.out],e9,h6, ?_,λq E=> ?_,rfl,λq E=> ?_⟩
     · show _=_;rw[<-Q.out];simp
     · rcases aZ.1 E with rfl | E
       · have:=Tn.1 ao;exact .inl this
       exact h2.out q E
     have kB:=t.len;exact l q (a0X (τ k.out.2.1) (τ k.out.1) q E)
   have l9:decide (d<0)=false:=ξ
   go_region_held3 (λw'=>w'.cell? ⟨g,j*2,none⟩ =some (.int .i64 a)/\w'.cell? ⟨g,j*2+1,none⟩ =some (.slice s o r)/\w'.cell? ⟨g,m*2,none⟩ =some (.int .i64 f)/\w'.cell? ⟨g,m*2+1,none⟩ =some (.slice B v A)/\Dt w0 g n D w')
    (first | exact kd.of k t | exact kd.of k h | exact kd.of k h.drew)
    (first | (go_at_call 148;(refine(rQ (by first | exact h | exact h.drew) _ _ HC).mono ?_);rintro e w5 ⟨rfl,t⟩))
   clear a0 a1 b0 b1 h
   go_wp2_with fail;go_roundg V.length
   case measure=>have:=hk.out;rw[br]at this;omega
   have F:=ac.out;have e:=Q.out;subst e;have bd:pz (a,s,o,r) (f,B,v,A):=pz.of_le (by have:=Tn.out;show a<=f;omega) (rh.out.1 _ σ _ aI)
   refine⟨(U1++[(a,s,o,r)])++(f,B,v,A)::U2,V,D, ?_, ?_,t,FT L h2.out (K9 (iA.1 L).1 bd),ξ, ?_,rfl, ?_,l,K6 rh.out λp hp=>by
    simp only [List.mem_append,List.mem_cons]at hp⊢;rcases hp with hp | hp | hp
    · exact .inr (.inl hp)
    · exact .inl hp
    exact .inr (.inr hp)⟩
   · rw[<-I.out];simp;omega
   · show D=_;rw[hD.out];simp
   · refine List.Perm.trans ?_ hp.out;have O:(U1++[(a,s,o,r)])++(f,B,v,A)::U2++V=(U1++[(a,s,o,r)])++((f,B,v,A)::(U2++V)):=σ;have e2:(U1++[(a,s,o,r)])++U2++(f,B,v,A)::V=(U1++[(a,s,o,r)])++(U2++(f,B,v,A)::V):=σ;rw[O,e2];exact cI _ List.perm_middle.symm
   have:=I.out;rw[ae,br]at*;omega
theorem pT {x:Int} (h: -1000000<=x/\x<=1000000):IntKind.i64.wrap x=x:=aM _ ω
def L8 (w0:World) (g n:Nat) (D:List El) (e:Ending) (w':World):Prop:=e= .returned (.tuple #[])/\Dt w0 g n D w'
def a4i (w0:World) (g n:Nat) (X P Q R Y:List El) (k:Nat) (b:Value) (wr:World):Prop:=
 ∃i d a c e D,b= .int .i64 (i:Nat)/\Hid (P=d++a/\R=c++e/\d.length=i/\c.length=i)/\Hid (D=X++(c++(a++(Q++(d++(e++Y))))))/\Dt w0 g n D wr/\Hid (k=a.length)/\i+a.length=P.length
theorem GA (w w0:World) (g n c:Nat) (X P Q R Y D:List El) (hD:D=X++(P++(Q++(R++Y)))) (r:P.length=R.length) (h:Dt w0 g n D w) (hn:n<=1000) (A B N:Nat) (hA:X.length=A) (hB:X.length+P.length+Q.length=B) (hN:P.length=N) (F:Value):
  Calls Tryz.prog 156 #[.slice (some ⟨g,0,none⟩) n c, .int .i64 A, .int .i64 B, .int .i64 N,F] w (L8 w0 g n (X++(R++(Q++(P++Y))))):=by
 have a:=h.len;have kB:A+P.length+Q.length+R.length<=n:=by rw[<-a,hD];simp only [List.length_append];omega
 have fy:Hid (a4i w0 g n X P Q R Y N (.int .i64 0) w):= ⟨0,[],P,[],R,D,rfl, ⟨rfl,rfl,rfl,rfl⟩,by show D=_;rw[hD];simp,h,hN.symm,bX _⟩;have HA:=η hA;have HB:=η hB;have HN:=η hN;have HL:=η kB;have s:=η r;have qY:(0:Int)<=A/\(A:Int)<=1000/\(0:Int)<=B/\(B:Int)<=1000/\(0:Int)<=N/\(N:Int)<=1000:=ω;clear hD r h a kB hA hB hN
 go_in
 go_wp2_with fail;go_loopg [10] N (a4i w0 g n X P Q R Y)
 case atStart=>exact fy
 clear fy;obtain⟨i,m,b,j,f,D,rfl,hp,hD,h,hk,hi⟩ :=hrel;cases b with
 | nil=>
   have ab:¬(i:Int)<(N:Int):=by have:=HN.out;simp at hi;omega
   have S:f=[]:=aC (by
    have u:=bf List.length hp.out.2.1;rw[ae]at u;have:=hp.out.2.2.2;have:=s.out;simp at hi;omega)
   subst S;clear hi
   go_wp2_with fail;go_end0;have e1:P=m:=by have:=hp.out.1;rwa [ak]at this
   have e2:R=j:=by have:=hp.out.2.1;rwa [ak]at this
   rw[hD.out]at h;rw[e1,e2];exact⟨rfl,h⟩
 | cons x b=>
   have t:=bf List.length hp.out.2.1;rw[ae,hp.out.2.2.2]at t;cases f with
   | nil=>have:=s.out;simp at hi t;omega
   | cons y f=>
     rw[br]at hi t;obtain⟨p,Z⟩ :=ν (A+i);obtain⟨q,Co⟩ :=ν (B+i);have e:D=(X++j)++x::((b++(Q++m))++y::(f++Y)):=by rw[hD.out];simp
     have l:(X++j).length=p:=by rw[ae,HA.out,hp.out.2.2.2];exact Z
     have o:(X++j).length+1+(b++(Q++m)).length=q:=by
      rw[l,ae,ae,hp.out.2.2.1];have:=HB.out;have:=HA.out;omega
     have ex:el D p=x:=by rw[e];exact kN l.symm
     have ey:el D q=y:=by
      rw[e,show(X++j)++x::((b++(Q++m))++y::(f++Y))=((X++j)++x::(b++(Q++m)))++y::(f++Y) by simp];exact kN (by rw[ae,br];omega)
     have W:q<n:=by have u:=h.len;rw[e]at u;simp only [List.length_append,List.length_cons]at u o;omega
     have d:p<q:=ω;obtain⟨L,V,T,U⟩ :=x;obtain⟨H,K,I,J⟩ :=y;have k:=η (⟨ω,W,ex,ey⟩ :p<n/\q<n/\el D p=(L,V,T,U)/\el D q=(H,K,I,J));obtain⟨a0,a1,b0,b1, -⟩ :=kd.of k h;have G:=h.z (i:=p*2) ω;have E:=h.z (i:=p*2+1) ω;have C:=h.z (i:=q*2) ω;have v:=h.z (i:=q*2+1) ω;obtain⟨z0,c1,z1,c2,z2,c3,z3⟩ :=h.stores k.out.1 k.out.2.1 (.int .i64 H) (.slice K I J) (.int .i64 L);have B4:¬p*2=q*2:=ω;have ac:(0:Int)<=i/\(i:Int)<N/\(0:Int)<=p/\(p:Int)<n/\(0:Int)<=q/\(q:Int)<n:=by have:=HN.out;omega
     have O:(A:Int)+(i:Int)=(p:Int):=ω;have M:(B:Int)+(i:Int)=(q:Int):=ω;have w1:IntKind.i64.wrap ((A:Int)+(i:Int))=(p:Int):=by rw[O];exact pT ω
     have w2:IntKind.i64.wrap ((B:Int)+(i:Int))=(q:Int):=by rw[M];exact pT ω
     have w3:IntKind.i64.wrap (p:Int)=(p:Int):=pT ω;have w4:IntKind.i64.wrap (q:Int)=(q:Int):=pT ω;have GU:=η (⟨e,l,o,d,hi⟩ :_/\_/\_/\_/\_);clear e l o d ex ey W hi t Z Co
     go_wp2_with fail;go_region;have h6:=(h.swp k.out.1 k.out.2.1 (τ GU.2.2.2.1)).drew;rw[k.out.2.2.1,k.out.2.2.2]at h6;clear G E C v a0 a1 b0 b1 h w1 w2 w3 w4 z0 c1 z1 c2 z2 c3 z3 B4
     all_goals
      go_wp2_with fail;go_roundg b.length
      case measure=>have:=hk.out;rw[br]at this;omega
      obtain⟨e,l,o,d,hi⟩ :=GU.out;refine⟨i+1,m++[(L,V,T,U)],b,j++[(H,K,I,J)],f,_,by go_num, ?_, ?_,h6,rfl,ω⟩
      · obtain⟨g1,g2,g3,g4⟩ :=hp.out;exact⟨by rw[g1];simp,by rw[g2];simp,by rw[ae,g3];rfl,by rw[ae,g4];rfl⟩
      show _=_;rw[e,zn l.symm o.symm];simp
def a4e (w0:World) (g n M:Nat) (G:List El) (k:Nat) (b a:Value) (wr:World):Prop:=
 ∃(i j:Nat) (X U V Y D:List El),b= .int .i64 i/\a= .int .i64 j/\Hid (U.length=i/\V.length=j/\X.length+i=M)/\Hid (D=X++(U++(V++Y)))/\Dt w0 g n D wr/\Hid (X++(V++(U++Y))=G)/\0<i/\0<j/\Hid (k=i+j)/\i+j<=n/\M+j<=n
theorem a0O (w w0:World) (g n c:Nat) (X U V Y D:List El) (hD:D=X++(U++(V++Y))) (h:Dt w0 g n D w) (hn:n<=1000) (A M B:Nat) (hA:X.length=A) (hM:X.length+U.length=M) (hB:X.length+U.length+V.length=B) (s:0<U.length) (r:0<V.length):
  Calls Tryz.prog 155 #[.slice (some ⟨g,0,none⟩) n c, .int .i64 A, .int .i64 M, .int .i64 B,tE] w (L8 w0 g n (X++(V++(U++Y)))):=by
 have q:=h.len;have kB:A+U.length+V.length<=n:=by rw[<-q,hD];simp only [List.length_append];omega
 obtain⟨x,z⟩ :=ν (U.length);obtain⟨v,y⟩ :=ν (V.length);have S:Hid (a4e w0 g n M (X++(V++(U++Y))) (x+v) (.int .i64 x) (.int .i64 v) w):= ⟨x,v,X,U,V,Y,D,rfl,rfl, ⟨z,y,ω⟩,hD,h,rfl,ω,ω,rfl,ω,ω⟩;have qY:(0:Int)<=A/\(A:Int)<=1000/\(0:Int)<=B/\(B:Int)<=1000/\(0:Int)<=M/\(M:Int)<=1000:=ω;have W:(M:Int)-(A:Int)=(x:Int):=ω;have T:(B:Int)-(M:Int)=(v:Int):=ω;have tJ:(n:Int)<=1000:=ω;clear hD h q kB hA hB hM s r z y hn;unfold tE
 go_in
 go_wp2_with fail;go_loopg [10,11] (x+v) (a4e w0 g n M (X++(V++(U++Y))))
 case atStart=>exact S
 clear S W T;obtain⟨i,j,X,U,V,Y,D,rfl,rfl,b,hD,h,O,hi,F,R,G,o⟩ :=hrel;obtain⟨A',d⟩ :=ν (X.length);have p:A'+i=M:=by have:=b.out.2.2;omega
 have ad:(M:Int)-(i:Int)=(A':Int):=ω;have ah:(0:Int)<=i/\(i:Int)<=1000/\(0:Int)<=j/\(j:Int)<=1000/\(0:Int)<=A'/\(A':Int)<=1000:=ω;have HA:=η d;have al:=η p;have a:=η (⟨hi,F,G,o⟩ :_/\_/\_/\_);rcases Nat.lt_trichotomy i j with t | K | J
 ·
  obtain⟨V1,V2,r,k⟩ :∃V1 V2,V=V1++V2/\V1.length=j-i:= ⟨V.take (j-i),V.drop (j-i),(aO ..).symm,by rw[aD,b.out.2.1];omega⟩;have f:V2.length=i:=by have:=b.out.2.1;rw[r,ae]at this;omega
  obtain⟨B',P⟩ :=ν (M+j-i);have E:=η (GA wr w0 g n c X U V1 V2 Y D (by rw[hD.out,r];simp) (by rw[b.out.1,f]) h ω A' B' i d (by rw[b.out.1,k];omega) b.out.1 (.func (.func 148) #[] #[]));have N:((i:Int) != (j:Int))=true:=ξ;have L:¬(j:Int)<(i:Int):=ω;have ac:(M:Int)+(j:Int)-(i:Int)=(B':Int):=ω;obtain⟨H,l⟩ :=ν (j-i);have Z:(j:Int)-(i:Int)=(H:Int):=ω;have HV:=η (⟨r,k,f,l,t⟩ :_/\_/\_/\_/\_);clear r k f l t P hi F G o d p h
  go_wp2_with fail;refine E.mono ?_;rintro e Q ⟨rfl,h5⟩
  go_wp2_with fail;go_roundg (i+H)
  case measure=>have:=R.out;have:=a.out;have:=HV.2.2.2;omega
  obtain⟨r,k,f,l,t⟩ :=HV.out;refine⟨i,H,X,V2,V1,U++Y,_,rfl,rfl, ⟨f,by rw[k,l],b.out.2.2⟩, ?_,h5, ?_,a.1,ω,rfl,τ a.out,τ a.out⟩
  · show _=_;simp
  show _=_;rw[<-O.out,r];simp
 · subst K;have E:=η (GA wr w0 g n c X U [] V Y D (by rw[hD.out];simp) (by rw[b.out.1,b.out.2.1]) h ω A' M i d (by rw[b.out.1];simp;omega) b.out.1 (.func (.func 148) #[] #[]));clear hi F G o d p h
   go_wp2_with fail;refine E.mono ?_;rintro e Q ⟨rfl,h5⟩
   go_wp2_with fail;go_end0;rw[ba,O.out]at h5;exact⟨rfl,h5⟩
 obtain⟨U1,U2,s,u⟩ :∃U1 U2,U=U1++U2/\U1.length=j:= ⟨U.take j,U.drop j,(aO ..).symm,by rw[aD,b.out.1];omega⟩;have C:U2.length=i-j:=by have:=b.out.1;rw[s,ae]at this;omega
 have E:=η (GA wr w0 g n c X U1 U2 V Y D (by rw[hD.out,s];simp) (by rw[b.out.2.1,u]) h ω A' M j d (by rw[u,C];omega) u (.func (.func 148) #[] #[]));have N:((i:Int) != (j:Int))=true:=ξ;have L:(j:Int)<(i:Int):=ω;obtain⟨I,m⟩ :=ν (i-j);have ab:(i:Int)-(j:Int)=(I:Int):=ω;have HV:=η (⟨s,u,C,m,J⟩ :_/\_/\_/\_/\_);clear s u C m J hi F G o d p h
 go_wp2_with fail;refine E.mono ?_;rintro e Q ⟨rfl,h5⟩
 go_wp2_with fail;go_roundg (I+j)
 case measure=>have:=R.out;have:=a.out;have:=HV.2.2.2;omega
 obtain⟨s,u,C,m,J⟩ :=HV.out;refine⟨I,j,X++V,U2,U1,Y,_,rfl,rfl, ⟨by rw[C,m],u, ?_⟩, ?_,h5, ?_,ω,a.2.1,rfl,τ a.out,τ a.out⟩
 · have:=b.out;rw[ae];omega
 · show _=_;simp
 show _=_;rw[<-O.out,s];simp
theorem Ka {V:List El} {h:Nat} (c:iF V) (g:h<V.length):∀q∈V.take (h+1),pz q (el V h):=λq a=>by
 obtain⟨V1,y,V2,e,d⟩ :∃V1 y V2,V=V1++y::V2/\V1.length=h:= ⟨V.take h,V[h],V.drop (h+1),σ,ξ⟩;subst d;rw[e]at c a⊢;rw[kN rfl]
 have f:(V1++y::V2).take (V1.length+1)=V1++[y]:=by
  rw[show V1++y::V2=(V1++[y])++V2 by simp,cQ σ,aA σ]
 rw[f]at a;rcases aQ.1 a with b | b
 · exact(iA.1 c).2.2 q b y aI
 rw[bk.1 b];exact pz.rfl' _
theorem K8 {V:List El} {h:Nat} (c:iF V) (f:h<V.length):∀q∈V.drop h,pz (el V h) q:=λq a=>by
 obtain⟨V1,y,V2,e,d⟩ :∃V1 y V2,V=V1++y::V2/\V1.length=h:= ⟨V.take h,V[h],V.drop (h+1),σ,ξ⟩;subst d;rw[e]at c a⊢;rw[kN rfl];rw[gy]at a;rcases aZ.1 a with b | b
 · rw[b];exact pz.rfl' _
 exact(aV.1 (iA.1 c).2.1).1 q b
theorem rU {X V Y:List El} {h:Nat} (a:h<V.length):el (X++(V++Y)) (X.length+h)=el V h:=by
 rw[qs ω,bP,xR a]
def S1R (w0:World) (g n:Nat) (D V:List El) (u:El) (M:Nat) (k:Nat) (b a:Value) (wr:World):Prop:=
 ∃i j:Nat,b= .int .i64 i/\a= .int .i64 j/\M<=i/\i<=j/\j<=M+V.length/\Hid (∀q∈V.take (i-M),pz q u)/\Hid (∀q∈V.drop (j-M),pz u q)/\Hid (k=j-i)/\Dt w0 g n D wr
def S1M (w0:World) (g n:Nat) (X V Y:List El) (u:El) (A s:Nat) (k:Nat) (a:Value) (wr:World):Prop:=
 ∃t D,a= .int .i64 ((A+t:Nat):Int)/\t<=s/\Hid (D=X++(V.take t++u::(V.drop t++Y)))/\Hid (k=s-t)/\Dt w0 g n D wr
theorem XA (w w0:World) (g n c:Nat) (X V Y D:List El) (u:El) (hD:D=X++(u::(V++Y))) (h:Dt w0 g n D w) (hn:n<=1000) (O:Sm D) (A M B:Nat) (hA:X.length=A) (hM:A+1=M) (hB:M+V.length=B) (hV:iF V) (yy:0<V.length) (rh:Sep [u] V):
  Calls Tryz.prog 154 #[.slice (some ⟨g,0,none⟩) n c, .int .i64 A, .int .i64 M, .int .i64 B,tE] w (lr w0 g n X (u::V) Y):=by
 have k:=h.len;have H:B<=n:=by rw[<-k,hD];simp only [List.length_append,List.length_cons];omega
 have eu:el D A=u:=by rw[hD];exact kN hA.symm
 have ev:∀q,q<V.length->el D (M+q)=el V q:=λq o=>by
  rw[hD,show X++(u::(V++Y))=(X++[u])++(V++Y) by simp,show M+q=(X++[u]).length+q by rw[ae,cJ];omega];exact rU o
 have Q:Hid (S1R w0 g n D V u M V.length (.int .i64 M) (.int .i64 B) w):= ⟨M,B,rfl,rfl,af _,ω,ω,λq o=>by simp at o,λq o=>by rw[<-hB,Nat.add_sub_cancel_left,List.drop_length]at o;simp at o,by show _=_;omega,h⟩;have qY:(0:Int)<=A/\(A:Int)<=1000/\(0:Int)<=B/\(B:Int)<=1000/\(0:Int)<=M/\(M:Int)<=1000/\(A:Int)<n/\(n:Int)<=1000:=ω;have bi:(M:Int)-(A:Int)=1:=ω;have Z:=η (⟨hA,hM,hB,H,hn⟩ :_/\_/\_/\_/\_);have HD:=η hD;have HU:=η eu;have HV:=η ev;have I:=η (⟨hV,yy⟩ :_/\_);have bd:Hid (∀q,q<V.length->ps u<=ps (el V q)):=λq o=>rh u aI _ (lL o);have Db:=η O;have be:=η k;clear hA hM hB H hn hD eu ev hV yy O k h rh;unfold tE
 go_in
 go_wp2_with fail;go_loopg [10,11] V.length (S1R w0 g n D V u M)
 case atStart=>exact Q
 clear Q;obtain⟨i,j,rfl,rfl,G,R,F,h1,h2,hk,h⟩ :=hrel;by_cases P:i<j
 · obtain⟨q,o⟩ :=ν ((i+j)/2);have OV:i<=q/\q<j:=ω;have H:B<=n:=Z.2.2.2.1;have aE:M+V.length=B:=Z.2.2.1;have xi:(i:Int)<(j:Int):=ω;have bo:(0:Int)<=q/\(q:Int)<n/\(0:Int)<=i/\(0:Int)<=j/\(j:Int)<=1000/\(i:Int)<=1000:=ω;have bl:((i:Int)+(j:Int))/2=(q:Int):=ω;have r:q-M<V.length:=ω;obtain⟨v,hv⟩ :=ν (el V (q-M));have ev:el D q=v:=by rw[<-hv,<-HV.out (q-M) r];congr 1;omega
   have SY:=be.out;have U:A<n:=ω;have l:=Db.out v (by rw[<-ev];exact lL ω);have m:=Db.out u (by rw[<-HU.out];exact lL ω);have YN:=η (⟨hv,r,OV,G,R,F⟩ :_/\_/\_/\_/\_/\_);have W:=HU.out;obtain⟨b,vA,vn,vc⟩ :=v;obtain⟨f,uA,un,uc⟩ :=u;replace l:0<=b/\b<=4294967296:=l;replace m:0<=f/\f<=4294967296:=m;have a:=η (⟨ω,U,ev,W⟩ :q<n/\A<n/\el D q=(b,vA,vn,vc)/\el D A=(f,uA,un,uc));obtain⟨d,hd⟩ :=ν (b-f);have HC:=η (⟨hd,l,m⟩ :b-f=d/\(0<=b/\b<=4294967296)/\(0<=f/\f<=4294967296));have Tn:Hid (d<0↔b<f):=by show _↔_;omega
   obtain⟨a0,a1,b0,b1, -⟩ :=kd.of a h;clear hd l m ev hv r OV G R F SY U W H aE P
   go_wp2_with fail;by_cases ap:d<0
   · go_region_held3 (λw'=>w'.cell? ⟨g,q*2,none⟩ =some (.int .i64 b)/\w'.cell? ⟨g,q*2+1,none⟩ =some (.slice vA vn vc)/\w'.cell? ⟨g,A*2,none⟩ =some (.int .i64 f)/\w'.cell? ⟨g,A*2+1,none⟩ =some (.slice uA un uc)/\Dt w0 g n D w')
      (first | exact kd.of a T | exact kd.of a h | exact kd.of a h.drew)
      (first | (go_at_call 148;(refine(rQ (by first | exact h | exact h.drew) _ _ HC).mono ?_);rintro e w5 ⟨rfl,T⟩))
     clear a0 a1 b0 b1 h
     go_wp2_with fail;go_roundg (j-(q+1))
     case measure=>have:=hk.out;have:=YN.2.2.1;omega
     obtain⟨hv,r,OV,G,R,F⟩ :=YN.out;refine⟨q+1,j,by go_num,rfl,ω,ω,F,λp hp=> ?_,h2,rfl,T⟩;rw[show q+1-M=q-M+1 by omega]at hp;have:=Ka I.1 r p hp;rw[hv]at this;exact this.trans (.inl (Tn.1 ap))
   have rG:decide (d<0)=false:=ξ
   go_region_held3 (λw'=>w'.cell? ⟨g,q*2,none⟩ =some (.int .i64 b)/\w'.cell? ⟨g,q*2+1,none⟩ =some (.slice vA vn vc)/\w'.cell? ⟨g,A*2,none⟩ =some (.int .i64 f)/\w'.cell? ⟨g,A*2+1,none⟩ =some (.slice uA un uc)/\Dt w0 g n D w')
    (first | exact kd.of a T | exact kd.of a h | exact kd.of a h.drew)
    (first | (go_at_call 148;(refine(rQ (by first | exact h | exact h.drew) _ _ HC).mono ?_);rintro e w5 ⟨rfl,T⟩))
   clear a0 a1 b0 b1 h
   go_wp2_with fail;go_roundg (q-i)
   case measure=>have:=hk.out;have:=YN.2.2.1;omega
   obtain⟨hv,r,OV,G,R,F⟩ :=YN.out;refine⟨i,q,rfl,rfl,G,ω,ω,h1,λp hp=> ?_,rfl,T⟩;have:=K8 I.1 r p hp;rw[hv]at this;have h8:=bd.out _ r;rw[hv]at h8;exact(pz.of_le (by have h9:=Tn.out;show f<=b;omega) h8).trans this
 obtain rfl:i=j:=ω;obtain⟨s,hs⟩ :=ν (i-M);have OW:i=A+1+s:=by have:=Z.2.1;omega
 have VQ:(i:Int)-1=((A+s:Nat):Int):=ω;have bs:(0:Int)<=i/\(i:Int)<=1000:=by have:=Z.out;omega
 have Q:Hid (S1M w0 g n X V Y u A s s (.int .i64 A) wr):= ⟨0,D,rfl,aG _,by show D=_;rw[HD.out];simp,rfl,h⟩;rw[hs]at h1 h2;have HI:=η (⟨OW,hs,G,F⟩ :_/\_/\_/\_);obtain⟨E,hE⟩ :=ν (A+s);rw[hE]at VQ;have bt:(0:Int)<=E/\(E:Int)<=1000:=ω;have HE:=η hE;clear OW hs R G F P h hE
 go_wp2_with fail;go_loopg [13] s (S1M w0 g n X V Y u A s)
 case atStart=>exact Q
 clear Q;obtain⟨t,D1,rfl,K,tQ,ao,h⟩ :=hrel;have yD:=h.len;have H:=Z.out;have S:=HI.out;by_cases L:t<s
 rotate_left
 · obtain rfl:s=t:=ω;have an:¬((A+s:Nat):Int)<(E:Int):=by have:=HE.out;omega
   obtain⟨p,hp⟩ :=ν (A+s);rw[hp]at an⊢;clear hp L K yD H S
   go_wp2_with fail;go_end0;rw[tQ.out]at h;have al:=FT (x:=u) (U1:=V.take s) (U2:=V.drop s) (by rw[aO];exact I.1) h2.out h1.out;refine⟨V.take s++u::V.drop s,rfl, ?_,al, ?_⟩
   · have e:X++((V.take s++u::V.drop s)++Y)=X++(V.take s++u::(V.drop s++Y)):=σ;rw[e];exact h
   refine List.perm_middle.trans ?_;rw[aO]
 have N:t<V.length:=ω;obtain⟨p,hp⟩ :=ν (A+t);obtain⟨p1,px⟩ :=ν (p+1);obtain⟨y,hy⟩ :=ν (el V t);have hdr:V.drop t=y::V.drop (t+1):=by rw[bQ N,<-hy];simp [el,N]
 have jB:V.take (t+1)=V.take t++[y]:=by rw[bc N,<-hy];simp [el,N]
 have J:D1=(X++V.take t)++u::([]++y::(V.drop (t+1)++Y)):=by rw[tQ.out,hdr];simp
 have C:(X++V.take t).length=p:=by rw[ae,aD];omega
 have ex:el D1 p=u:=by rw[J];exact kN C.symm
 have ey:el D1 p1=y:=by
  rw[J,show(X++V.take t)++u::([]++y::(V.drop (t+1)++Y))=((X++V.take t)++[u])++y::(V.drop (t+1)++Y) by simp];exact kN (by rw[ae,C,cJ];omega)
 obtain⟨xw,xA,xn,xc⟩ :=u;obtain⟨yw,yA,yn,yc⟩ :=y;have a:=η (⟨ω,ω,ex,ey⟩ :p<n/\p1<n/\el D1 p=(xw,xA,xn,xc)/\el D1 p1=(yw,yA,yn,yc));obtain⟨a0,a1,b0,b1, -⟩ :=kd.of a h;have ah:=h.z (i:=p*2) ω;have ad:=h.z (i:=p*2+1) ω;have ac:=h.z (i:=p1*2) ω;have ab:=h.z (i:=p1*2+1) ω;obtain⟨z0,c1,z1,c2,z2,c3,z3⟩ :=h.stores a.out.1 a.out.2.1 (.int .i64 yw) (.slice yA yn yc) (.int .i64 xw);have B4:¬p*2=p1*2:=ω;have bp:(0:Int)<=p/\(p:Int)<n/\(0:Int)<=p1/\(p1:Int)<n/\(p:Int)<(E:Int):=by have:=HE.out;omega
 have am:(p:Int)+1=(p1:Int):=ω;have w1:IntKind.i64.wrap ((p:Int)+1)=(p1:Int):=by rw[am];exact pT ω
 have w3:IntKind.i64.wrap (p1:Int)=(p1:Int):=pT ω;have GU:=η (⟨J,C,hp,px,L,jB⟩ :_/\_/\_/\_/\_/\_);rw[hp];clear J C ex ey hp px L jB hdr N hy yD H S K
 go_wp2_with fail;go_region;have h6:=(h.swp a.out.1 a.out.2.1 (τ GU.2.2.2.1)).drew;rw[a.out.2.2.1,a.out.2.2.2]at h6;clear ah ad ac ab a0 a1 b0 b1 h w1 w3 z0 c1 z1 c2 z2 c3 z3 B4
 all_goals
  go_wp2_with fail;go_roundg (s-(t+1))
  case measure=>have:=ao.out;have:=GU.2.2.2.2.1;omega
  obtain⟨J,C,hp,px,L,jB⟩ :=GU.out;refine⟨t+1,_,by go_num,L, ?_,rfl,h6⟩;show _=_;rw[J,zn C.symm (by rw[C,<-px];rfl),jB];simp
def S2R (w0:World) (g n:Nat) (D U:List El) (v:El) (A:Nat) (k:Nat) (b a:Value) (wr:World):Prop:=
 ∃i j:Nat,b= .int .i64 i/\a= .int .i64 j/\A<=i/\i<=j/\j<=A+U.length/\Hid (∀q∈U.take (i-A),pz q v)/\Hid (∀q∈U.drop (j-A),pz v q)/\Hid (k=j-i)/\Dt w0 g n D wr
def S2M (w0:World) (g n:Nat) (X U Y:List El) (v:El) (A s:Nat) (k:Nat) (a:Value) (wr:World):Prop:=
 ∃t D,a= .int .i64 ((A+t:Nat):Int)/\s<=t/\t<=U.length/\Hid (D=X++(U.take t++v::(U.drop t++Y)))/\Hid (k=t-s)/\Dt w0 g n D wr
theorem XC (w w0:World) (g n c:Nat) (X U Y D:List El) (v:El) (hD:D=X++(U++(v::Y))) (h:Dt w0 g n D w) (hn:n<=1000) (S:Sm D) (A M B:Nat) (hA:X.length=A) (hM:A+U.length=M) (hB:M+1=B) (hU:iF U) (KQ:1<U.length) (rh:Sep U [v]):
  Calls Tryz.prog 154 #[.slice (some ⟨g,0,none⟩) n c, .int .i64 A, .int .i64 M, .int .i64 B,tE] w (lr w0 g n X (U++[v]) Y):=by
 have k:=h.len;have K:B<=n:=by rw[<-k,hD];simp only [List.length_append,List.length_cons];omega
 have ev:el D M=v:=by rw[hD,show X++(U++(v::Y))=(X++U)++v::Y by simp];exact kN (by rw[ae];omega)
 have N:∀q,q<U.length->el D (A+q)=el U q:=λq C=>by
  rw[hD,<-hA];exact rU C
 have Z:Hid (S2R w0 g n D U v A U.length (.int .i64 A) (.int .i64 M) w):= ⟨A,M,rfl,rfl,af _,ω,ω,λq C=>by simp at C,λq C=>by rw[<-hM,Nat.add_sub_cancel_left,List.drop_length]at C;simp at C,by show _=_;omega,h⟩;have qY:(0:Int)<=A/\(A:Int)<=1000/\(0:Int)<=B/\(B:Int)<=1000/\(0:Int)<=M/\(M:Int)<=1000/\(M:Int)<n/\(n:Int)<=1000:=ω;obtain⟨nu,bo⟩ :=ν (U.length);have be:(M:Int)-(A:Int)=(nu:Int):=ω;have bd:(B:Int)-(M:Int)=1:=ω;have bl:((nu:Int)==1)=false:=ξ;have P:=η (⟨hA,hM,hB,K,hn⟩ :_/\_/\_/\_/\_);have HD:=η hD;have HV:=η ev;have HU:=η N;have L:=η (⟨hU,KQ⟩ :_/\_);have bv:Hid (∀q,q<U.length->ps (el U q)<=ps v):=λq C=>rh _ (lL C) v aI;have Db:=η S;have bx:=η k;clear hA hM hB K hn hD N ev hU KQ S k h bo rh;unfold tE
 go_in
 go_wp2_with fail;go_loopg [14,15] U.length (S2R w0 g n D U v A)
 case atStart=>exact Z
 clear Z be bd bl;obtain⟨i,j,rfl,rfl,J,Cl,I,h1,h2,hk,h⟩ :=hrel;by_cases W:i<j
 · obtain⟨q,C⟩ :=ν ((i+j)/2);have OV:i<=q/\q<j:=ω;have K:B<=n:=P.2.2.2.1;have QH:M+1=B:=P.2.2.1;have bt:A+U.length=M:=P.2.1;have xi:(i:Int)<(j:Int):=ω;have bG:(0:Int)<=q/\(q:Int)<n/\(0:Int)<=i/\(0:Int)<=j/\(j:Int)<=1000/\(i:Int)<=1000:=ω;have bB:((i:Int)+(j:Int))/2=(q:Int):=ω;have G:q-A<U.length:=ω;obtain⟨u,F⟩ :=ν (el U (q-A));have N:el D q=u:=by rw[<-F,<-HU.out (q-A) G];congr 1;omega
   have SY:=bx.out;have ac:M<n:=ω;have o:=Db.out u (by rw[<-N];exact lL ω);have m:=Db.out v (by rw[<-HV.out];exact lL ω);have E:=η (⟨F,G,OV,J,Cl,I⟩ :_/\_/\_/\_/\_/\_);have YN:=HV.out;obtain⟨b,vA,vn,vc⟩ :=v;obtain⟨f,uA,un,uc⟩ :=u;replace m:0<=b/\b<=4294967296:=m;replace o:0<=f/\f<=4294967296:=o;have a:=η (⟨ac,ω,YN,N⟩ :M<n/\q<n/\el D M=(b,vA,vn,vc)/\el D q=(f,uA,un,uc));obtain⟨d,hd⟩ :=ν (b-f);have HC:=η (⟨hd,m,o⟩ :b-f=d/\(0<=b/\b<=4294967296)/\(0<=f/\f<=4294967296));have Tn:Hid (d<0↔b<f):=by show _↔_;omega
   obtain⟨a0,a1,b0,b1, -⟩ :=kd.of a h;clear hd m o N F G OV J Cl I SY ac YN K bt QH W
   go_wp2_with fail;by_cases bs:d<0
   · go_region_held3 (λw'=>w'.cell? ⟨g,M*2,none⟩ =some (.int .i64 b)/\w'.cell? ⟨g,M*2+1,none⟩ =some (.slice vA vn vc)/\w'.cell? ⟨g,q*2,none⟩ =some (.int .i64 f)/\w'.cell? ⟨g,q*2+1,none⟩ =some (.slice uA un uc)/\Dt w0 g n D w')
      (first | exact kd.of a pq | exact kd.of a h | exact kd.of a h.drew)
      (first | (go_at_call 148;(refine(rQ (by first | exact h | exact h.drew) _ _ HC).mono ?_);rintro e w5 ⟨rfl,pq⟩))
     clear a0 a1 b0 b1 h
     go_wp2_with fail;go_roundg (q-i)
     case measure=>have:=hk.out;have:=E.2.2.1;omega
     obtain⟨F,G,OV,J,Cl,I⟩ :=E.out;refine⟨i,q,rfl,rfl,J,ω,ω,h1,λp hp=> ?_,rfl,pq⟩;have:=K8 L.1 G p hp;rw[F]at this;exact pz.trans (.inl (Tn.1 bs)) this
   have rG:decide (d<0)=false:=ξ
   go_region_held3 (λw'=>w'.cell? ⟨g,M*2,none⟩ =some (.int .i64 b)/\w'.cell? ⟨g,M*2+1,none⟩ =some (.slice vA vn vc)/\w'.cell? ⟨g,q*2,none⟩ =some (.int .i64 f)/\w'.cell? ⟨g,q*2+1,none⟩ =some (.slice uA un uc)/\Dt w0 g n D w')
    (first | exact kd.of a pq | exact kd.of a h | exact kd.of a h.drew)
    (first | (go_at_call 148;(refine(rQ (by first | exact h | exact h.drew) _ _ HC).mono ?_);rintro e w5 ⟨rfl,pq⟩))
   clear a0 a1 b0 b1 h
   go_wp2_with fail;go_roundg (j-(q+1))
   case measure=>have:=hk.out;have:=E.2.2.1;omega
   obtain⟨F,G,OV,J,Cl,I⟩ :=E.out;refine⟨q+1,j,by go_num,rfl,ω,ω,I,λp hp=> ?_,h2,rfl,pq⟩;rw[show q+1-A=q-A+1 by omega]at hp;have:=Ka L.1 G p hp;rw[F]at this;have h8:=bv.out _ G;rw[F]at h8;exact this.trans (pz.of_le (by have h9:=Tn.out;show f<=b;omega) h8)
 obtain rfl:i=j:=ω;obtain⟨s,hs⟩ :=ν (i-A);have OW:i=A+s:=ω;have bM:(0:Int)<=i/\(i:Int)<=1000:=by have:=P.out;omega
 have T:s<=U.length:=ω;have ad:M=A+U.length:=P.2.1.symm;have Z:Hid (S2M w0 g n X U Y v A s (U.length-s) (.int .i64 M) wr):= ⟨U.length,D,by rw[ad],T,af _,by show D=_;rw[HD.out];simp,rfl,h⟩;rw[hs]at h1 h2;have HI:=η (⟨OW,hs,J,I⟩ :_/\_/\_/\_);clear OW hs Cl J I W h T ad
 go_wp2_with fail;go_loopg [17] (U.length-s) (S2M w0 g n X U Y v A s)
 case atStart=>exact Z
 clear Z;obtain⟨t,D1,rfl,Q,ao,tQ,bp,h⟩ :=hrel;have yD:=h.len;have K:=P.out;have ab:=HI.out;by_cases FN:s<t
 rotate_left
 · obtain rfl:s=t:=ω;have bi:¬(i:Int)<((A+s:Nat):Int):=ω;obtain⟨p,hp⟩ :=ν (A+s);rw[hp]at bi⊢;clear hp FN Q yD K ab ao
   go_wp2_with fail;go_end0;rw[tQ.out]at h;have ap:=FT (x:=v) (U1:=U.take s) (U2:=U.drop s) (by rw[aO];exact L.1) h2.out h1.out;refine⟨U.take s++v::U.drop s,rfl, ?_,ap, ?_⟩
   · have e:X++((U.take s++v::U.drop s)++Y)=X++(U.take s++v::(U.drop s++Y)):=σ;rw[e];exact h
   refine List.perm_middle.trans ?_;rw[aO];exact(iK (l₁:=U) (l₂:=[v])).symm
 obtain⟨r,rfl⟩ :∃r,t=r+1:= ⟨t-1,ω⟩;have R:r<U.length:=ω;obtain⟨p,hp⟩ :=ν (A+r);obtain⟨p1,V⟩ :=ν (A+(r+1));obtain⟨y,hy⟩ :=ν (el U r);have hdr:U.drop r=y::U.drop (r+1):=by rw[bQ R,<-hy];simp [el,R]
 have jB:U.take (r+1)=U.take r++[y]:=by rw[bc R,<-hy];simp [el,R]
 have O:D1=(X++U.take r)++y::([]++v::(U.drop (r+1)++Y)):=by rw[tQ.out,jB];simp
 have H:(X++U.take r).length=p:=by rw[ae,aD];omega
 have ey:el D1 p=y:=by rw[O];exact kN H.symm
 have ex:el D1 p1=v:=by
  rw[O,show(X++U.take r)++y::([]++v::(U.drop (r+1)++Y))=((X++U.take r)++[y])++v::(U.drop (r+1)++Y) by simp];exact kN (by rw[ae,H,cJ];omega)
 obtain⟨xw,xA,xn,xc⟩ :=v;obtain⟨yw,yA,yn,yc⟩ :=y;have a:=η (⟨ω,ω,ex,ey⟩ :p1<n/\p<n/\el D1 p1=(xw,xA,xn,xc)/\el D1 p=(yw,yA,yn,yc));obtain⟨a0,a1,b0,b1, -⟩ :=kd.of a h;have an:=h.z (i:=p*2) ω;have am:=h.z (i:=p*2+1) ω;have al:=h.z (i:=p1*2) ω;have ah:=h.z (i:=p1*2+1) ω;obtain⟨z0,c1,z1,c2,z2,c3,z3⟩ :=h.stores a.out.1 a.out.2.1 (.int .i64 yw) (.slice yA yn yc) (.int .i64 xw);have B4:¬p1*2=p*2:=ω;have bI:(0:Int)<=p/\(p:Int)<n/\(0:Int)<=p1/\(p1:Int)<n/\(i:Int)<(p1:Int):=ω;have aE:(p1:Int)-1=(p:Int):=ω;have w1:IntKind.i64.wrap ((p1:Int)-1)=(p:Int):=by rw[aE];exact pT ω
 have w3:IntKind.i64.wrap (p:Int)=(p:Int):=pT ω;have GU:=η (⟨O,H,hp,V,FN,hdr⟩ :_/\_/\_/\_/\_/\_);rw[V];clear O H ex ey hp V FN jB hdr R hy yD K ab Q
 go_wp2_with fail;go_region;have h6:=(h.swp a.out.1 a.out.2.1 (τ GU.out)).drew;rw[a.out.2.2.1,a.out.2.2.2]at h6;clear an am al ah a0 a1 b0 b1 h w1 w3 z0 c1 z1 c2 z2 c3 z3 B4
 all_goals
  go_wp2_with fail;go_roundg (r-s)
  case measure=>have:=bp.out;have:=GU.2.2.2.2.1;omega
  obtain⟨O,H,hp,V,FN,hdr⟩ :=GU.out;refine⟨r,_,by rw[hp],ω,ω, ?_,rfl,h6⟩;show _=_;rw[Kk,O,zn H.symm (by rw[H,<-V,<-hp];rfl),hdr];simp
theorem Sm.perm {D E:List El} (h:Sm D) (hp:E.Perm D):Sm E:=λp a=>h p (hp.mem_iff.1 a)
def S3R (w0:World) (g n:Nat) (D:List El) (lo hi P:Nat) (k:Nat) (b a:Value) (wr:World):Prop:=
 ∃i j:Nat,b= .int .i64 i/\a= .int .i64 j/\lo<=i/\i<=j/\j<=hi/\Hid (lo<i->pz (el D (i-1)) (el D (P-(i-1))))/\Hid (j<hi->pz (el D (P-j)) (el D j))/\Hid (k=j-i)/\Dt w0 g n D wr
def a4j (g n c K:Nat):Prop:=∀(w w0:World) (X U V Y D:List El) (A M B:Nat),D=X++(U++(V++Y))->Dt w0 g n D w->Sm D->X.length=A->A+U.length=M->M+V.length=B->iF U->iF V->Sep U V->0<U.length->0<V.length->U.length+V.length<=K->
 Calls Tryz.prog 154 #[.slice (some ⟨g,0,none⟩) n c, .int .i64 A, .int .i64 M, .int .i64 B,tE] w (lr w0 g n X (U++V) Y)
def S3Z (w0:World) (g n:Nat) (X W Y:List El) (wx:World):Prop:=∃Z,Dt w0 g n (X++(Z++Y)) wx/\iF Z/\Z.Perm W
theorem XD (K:Nat) (w w0:World) (g n c:Nat) (IH:a4j g n c K) (X U V Y D:List El) (A M B:Nat) (hD:D=X++(U++(V++Y))) (h:Dt w0 g n D w) (W:n<=1000) (ao:Sm D) (hA:X.length=A) (hM:A+U.length=M) (hB:M+V.length=B) (hU:iF U) (hV:iF V) (rh:Sep U V) (KQ:1<U.length) (yy:1<V.length) (hK:U.length+V.length<=K+1):
  Calls Tryz.prog 154 #[.slice (some ⟨g,0,none⟩) n c, .int .i64 A, .int .i64 M, .int .i64 B,tE] w (lr w0 g n X (U++V) Y):=by
 have ab:=h.len;have xT:B<=n:=by rw[<-ab,hD];simp only [List.length_append];omega
 obtain⟨a,xU⟩ :=ν ((A+B)/2);obtain⟨O,DJ⟩ :=ν (a+M);obtain⟨P,hP⟩ :=ν (O-1)
 obtain⟨lo,hi,u⟩ :∃lo hi:Nat,(a<M/\lo=O-B/\hi=a)\/(M<=a/\lo=A/\hi=M):=by
  by_cases e:a<M
  · exact⟨_,_, .inl ⟨e,rfl,rfl⟩⟩
  exact⟨_,_, .inr ⟨ω,rfl,rfl⟩⟩
 obtain⟨nu,ce⟩ :=ν (U.length);obtain⟨nv,cc⟩ :=ν (V.length);have bM:(M:Int)-(A:Int)=(nu:Int):=ω;have bI:(B:Int)-(M:Int)=(nv:Int):=ω;have cd:((nu:Int)==1)=false:=ξ;have cb:((nv:Int)==1)=false:=ξ;have cg:((A:Int)+(B:Int))/2=(a:Int):=ω;have Cn:(a:Int)+(M:Int)=(O:Int):=ω;have yE:(O:Int)-1=(P:Int):=ω;have qY:(0:Int)<=A/\(A:Int)<=1000/\(0:Int)<=B/\(B:Int)<=1000/\(0:Int)<=M/\(M:Int)<=1000/\(0:Int)<=a/\(a:Int)<=1000/\(0:Int)<=O/\(O:Int)<=2000/\(0:Int)<=P/\(P:Int)<=2000/\(n:Int)<=1000:=ω;have fy:Hid (S3R w0 g n D lo hi P (hi-lo) (.int .i64 lo) (.int .i64 hi) w):= ⟨lo,hi,rfl,rfl,af _,ω,af _,λh=>absurd h (j3 _),λh=>absurd h (j3 _),rfl,h⟩
 have be:∀(w w0:World) (X U V Y D:List El) (A M B:Nat),D=X++(U++(V++Y))->Dt w0 g n D w->Sm D->X.length=A->A+U.length=M->M+V.length=B->iF U->iF V->Sep U V->0<U.length->0<V.length->U.length+V.length<=K->
  Calls Tryz.prog 154 #[.slice (some ⟨g,0,none⟩) n c, .int .i64 A, .int .i64 M, .int .i64 B, .func (.func 148) #[] #[]] w (lr w0 g n X (U++V) Y):=IH
 have bd:∀(w w0:World) (X U V Y D:List El) (A M B:Nat),D=X++(U++(V++Y))->Dt w0 g n D w->X.length=A->X.length+U.length=M->X.length+U.length+V.length=B->0<U.length->0<V.length->
  Calls Tryz.prog 155 #[.slice (some ⟨g,0,none⟩) n c, .int .i64 A, .int .i64 M, .int .i64 B, .func (.func 148) #[] #[]] w (L8 w0 g n (X++(V++(U++Y)))):=λw w0 X U V Y D A M B h1 h2 H h4 h5 h6 h7=>a0O w w0 g n c X U V Y D h1 h2 W A M B H h4 h5 h6 h7
 have bp:=η be;have a78:=η bd;have z:=η (⟨hA,hM,hB,xT,W,xU,DJ,hP,u,KQ,yy,hK⟩ :X.length=A/\A+U.length=M/\M+V.length=B/\B<=n/\n<=1000/\(A+B)/2=a/\a+M=O/\O-1=P/\((a<M/\lo=O-B/\hi=a)\/(M<=a/\lo=A/\hi=M))/\1<U.length/\1<V.length/\U.length+V.length<=K+1);have HD:=η hD;have HS:=η (⟨hU,hV⟩ :_/\_);have bl:=η rh
 have cj:Hid (∀q r,A<=q->q<M->M<=r->r<B->ps (el D q)<=ps (el D r)):=λq r h1 h2 H h4=>by
  have e1:el D q=el U (q-A):=by
   rw[hD,show q=X.length+(q-A) by omega];rw[rU ω,show X.length+(q-A)-A=q-A by omega]
  have e2:el D r=el V (r-M):=by
   rw[hD,show X++(U++(V++Y))=(X++U)++(V++Y) by simp,show r=(X++U).length+(r-M) by rw[ae];omega];rw[rU ω,show(X++U).length+(r-M)-M=r-M by rw[ae];omega]
  rw[e1,e2];exact rh _ (lL ω) _ (lL ω)
 have Db:=η ao;have cl:=η ab
 have aE:((a:Int)<(M:Int)/\(O:Int)-(B:Int)=(lo:Int)/\hi=a)\/(¬(a:Int)<(M:Int)/\lo=A/\hi=M):=by
  rcases u with ⟨h1,h2,H⟩ | ⟨h1,h2,H⟩
  · exact .inl ⟨ω,ω,H⟩
  exact .inr ⟨ω,h2,H⟩
 have ck:=η aE;have cr:(0:Int)<=lo/\(lo:Int)<=1000/\(0:Int)<=hi/\(hi:Int)<=1000:=ω;clear hA hM hB xT W xU DJ hP u KQ yy hK hD hU hV ao ab h be bd IH aE ce cc rh;unfold tE
 go_in
 go_upto_if 140 with fail
 go_cut [20,21] (λbx bv wx=>bx= .int .i64 (lo:Nat)/\bv= .int .i64 (hi:Nat)/\wx=w)
 case first=>
  as_aux_lemma=>
   rcases ck.out with ⟨h1,h2,rfl⟩ | ⟨h1,rfl,rfl⟩
   · go_wp2_with fail;all_goals go_meet
     all_goals exact⟨rfl,rfl,rfl⟩
   go_wp2_with fail;all_goals go_meet
   all_goals exact⟨rfl,rfl,rfl⟩
 obtain⟨rfl,rfl,rfl⟩ :=hcut;clear bM bI cd cb cg Cn
 go_wp2_with fail;go_loopg [20,21] (hi-lo) (S3R w0 g n D lo hi P)
 case atStart=>exact fy
 clear fy;obtain⟨i,j,rfl,rfl,L,Cl,N,h1,h2,hk,h⟩ :=hrel;by_cases ap:i<j
 · as_aux_lemma=>
    obtain⟨q,hq⟩ :=ν ((i+j)/2);obtain⟨r,hr⟩ :=ν (P-q);have OV:i<=q/\q<j:=ω
    have hb:q<n/\r<n/\q<=P/\(n:Int)<=1000:=by
     obtain⟨hA,hM,hB,xT,W,xU,DJ,hP,u,KQ,yy,hK⟩ :=z.out;rcases u with ⟨b,f,g3⟩ | ⟨b,f,g3⟩ <;> omega
    obtain⟨T6,T9,ca,tJ⟩ :=hb;have xi:(i:Int)<(j:Int):=ω;have cq:(0:Int)<=q/\(q:Int)<n/\(0:Int)<=r/\(r:Int)<n/\(0:Int)<=i/\(0:Int)<=j/\(j:Int)<=1000/\(i:Int)<=1000:=ω;have cp:((i:Int)+(j:Int))/2=(q:Int):=ω;have bB:(P:Int)-(q:Int)=(r:Int):=ω;have w1:IntKind.i64.wrap ((P:Int)-(q:Int))=(r:Int):=by rw[bB];exact pT ω
    have w2:IntKind.i64.wrap (r:Int)=(r:Int):=pT ω;obtain⟨x,hx⟩ :=ν (el D r);obtain⟨y,hy⟩ :=ν (el D q);have SY:=cl.out;have sx:=Db.out x (by rw[<-hx];exact lL ω);have sy:=Db.out y (by rw[<-hy];exact lL ω);have HE:=η (⟨OV,L,Cl,N,hr⟩ :_/\_/\_/\_/\_);obtain⟨T,xA,xn,xc⟩ :=x;obtain⟨S,yA,yn,yc⟩ :=y;replace sx:0<=T/\T<=4294967296:=sx;replace sy:0<=S/\S<=4294967296:=sy;have Q:=η (⟨T9,T6,hx,hy⟩ :r<n/\q<n/\el D r=(T,xA,xn,xc)/\el D q=(S,yA,yn,yc));obtain⟨d,hd⟩ :=ν (T-S);have HC:=η (⟨hd,sx,sy⟩ :T-S=d/\(0<=T/\T<=4294967296)/\(0<=S/\S<=4294967296));have Tn:Hid (d<0↔T<S):=by show _↔_;omega
    obtain⟨a0,a1,b0,b1, -⟩ :=kd.of Q h;clear hd sx sy hx hy OV L Cl N SY T9 T6 ca ap hr
    go_wp2_with fail;by_cases ch:d<0
    · go_region_held3 (λw'=>w'.cell? ⟨g,r*2,none⟩ =some (.int .i64 T)/\w'.cell? ⟨g,r*2+1,none⟩ =some (.slice xA xn xc)/\w'.cell? ⟨g,q*2,none⟩ =some (.int .i64 S)/\w'.cell? ⟨g,q*2+1,none⟩ =some (.slice yA yn yc)/\Dt w0 g n D w')
       (first | exact kd.of Q pq | exact kd.of Q h | exact kd.of Q h.drew)
       (first | (go_at_call 148;(refine(rQ (by first | exact h | exact h.drew) _ _ HC).mono ?_);rintro e w5 ⟨rfl,pq⟩))
      clear a0 a1 b0 b1 h
      go_wp2_with fail;go_roundg (q-i)
      case measure=>have:=hk.out;have:=HE.1;omega
      obtain⟨OV,L,Cl,N,hr⟩ :=HE.out;refine⟨i,q,rfl,rfl,L,ω,ω,h1,λ_=> ?_,rfl,pq⟩;rw[hr,Q.out.2.2.1,Q.out.2.2.2];exact .inl (Tn.1 ch)
    have rG:decide (d<0)=false:=ξ
    go_region_held3 (λw'=>w'.cell? ⟨g,r*2,none⟩ =some (.int .i64 T)/\w'.cell? ⟨g,r*2+1,none⟩ =some (.slice xA xn xc)/\w'.cell? ⟨g,q*2,none⟩ =some (.int .i64 S)/\w'.cell? ⟨g,q*2+1,none⟩ =some (.slice yA yn yc)/\Dt w0 g n D w')
     (first | exact kd.of Q pq | exact kd.of Q h | exact kd.of Q h.drew)
     (first | (go_at_call 148;(refine(rQ (by first | exact h | exact h.drew) _ _ HC).mono ?_);rintro e w5 ⟨rfl,pq⟩))
    clear a0 a1 b0 b1 h
    go_wp2_with fail;go_roundg (j-(q+1))
    case measure=>have:=hk.out;have:=HE.1;omega
    obtain⟨OV,L,Cl,N,hr⟩ :=HE.out;refine⟨q+1,j,by go_num,rfl,ω,ω,N,λ_=> ?_,h2,rfl,pq⟩;rw[bW,hr,Q.out.2.2.1,Q.out.2.2.2];have h8:=cj.out q r (by obtain⟨hA,hM,hB,xT,W,xU,DJ,hP,u,KQ,yy,hK⟩ :=z.out;rcases u with ⟨b,f,g3⟩ | ⟨b,f,g3⟩ <;> omega) (by obtain⟨hA,hM,hB,xT,W,xU,DJ,hP,u,KQ,yy,hK⟩ :=z.out;rcases u with ⟨b,f,g3⟩ | ⟨b,f,g3⟩ <;> omega) (by obtain⟨hA,hM,hB,xT,W,xU,DJ,hP,u,KQ,yy,hK⟩ :=z.out;rcases u with ⟨b,f,g3⟩ | ⟨b,f,g3⟩ <;> omega) (by obtain⟨hA,hM,hB,xT,W,xU,DJ,hP,u,KQ,yy,hK⟩ :=z.out;rcases u with ⟨b,f,g3⟩ | ⟨b,f,g3⟩ <;> omega);rw[Q.out.2.2.1,Q.out.2.2.2]at h8;exact pz.of_le (by have:=Tn.out;show S<=T;omega) h8
 obtain⟨s,rfl⟩ :∃s,i=s:= ⟨i,rfl⟩;obtain rfl:i=j:=ω;obtain⟨E,hE⟩ :=ν (O-i)
 have hf:A<=i/\i<=M/\i<=a/\a<=E/\E<=B/\M<=E/\E=a+(M-i)/\a+M=E+i/\A<a/\a<B/\i<=O:=by
  obtain⟨hA,hM,hB,xT,W,xU,DJ,hP,u,KQ,yy,hK⟩ :=z.out;rcases u with ⟨b,f,g3⟩ | ⟨b,f,g3⟩ <;> omega
 obtain⟨f1,f2,f3,f4,f5,f6,f7,f8,f9,m,ci⟩ :=hf;obtain⟨U1,U2,t,Fx⟩ :∃U1 U2,U=U1++U2/\U1.length=i-A:= ⟨U.take (i-A),U.drop (i-A),(aO ..).symm,by rw[aD];have:=z.out;omega⟩;obtain⟨V1,V2,o,l⟩ :∃V1 V2,V=V1++V2/\V1.length=E-M:= ⟨V.take (E-M),V.drop (E-M),(aO ..).symm,by rw[aD];have:=z.out;omega⟩;have IP:U2.length=M-i:=by have:=z.2.1;rw[t,ae]at this;omega
 have k:V2.length=B-E:=by have:=z.2.2.1;rw[o,ae]at this;omega
 have ah:X.length=A:=z.1;have G:D=(X++U1)++(U2++(V1++(V2++Y))):=by rw[HD.out,t,o];simp
 have R:(X++U1).length=i:=by rw[ae];omega
 have c1:0<U1.length->0<V2.length->pz (el U1 (U1.length-1)) (el V2 0):=λb f=>by
  have mg:lo<i:=by
   obtain⟨hA,hM,hB,xT,W,xU,DJ,hP,u,KQ,yy,hK⟩ :=z.out;rcases u with ⟨k1,k2,k3⟩ | ⟨k1,k2,k3⟩ <;> omega
  have h9:=h1.out mg;have am:P-(i-1)=E:=by have:=z.out;omega
  have ea:el D (i-1)=el U1 (U1.length-1):=by
   rw[G,show(X++U1)++(U2++(V1++(V2++Y)))=X++(U1++(U2++(V1++(V2++Y)))) by simp,show i-1=X.length+(U1.length-1) by omega];exact rU ω
  have eb:el D E=el V2 0:=by
   have lx:(((X++U1)++U2)++V1).length=E:=by simp only [List.length_append];omega
   rw[G,show(X++U1)++(U2++(V1++(V2++Y)))=(((X++U1)++U2)++V1)++(V2++Y) by simp,show E=(((X++U1)++U2)++V1).length+0 by omega];exact rU f
  rw[am,ea,eb]at h9;exact h9
 have c2:0<V1.length->0<U2.length->pz (el V1 (V1.length-1)) (el U2 0):=λb f=>by
  have KT:i<hi:=by
   obtain⟨hA,hM,hB,xT,W,xU,DJ,hP,u,KQ,yy,hK⟩ :=z.out;rcases u with ⟨k1,k2,k3⟩ | ⟨k1,k2,k3⟩ <;> omega
  have h9:=h2.out KT;have am:P-i=E-1:=by have:=z.out;omega
  have ea:el D i=el U2 0:=by
   rw[G,show i=(X++U1).length+0 by omega];exact rU f
  have eb:el D (E-1)=el V1 (V1.length-1):=by
   have lx:((X++U1)++U2).length=M:=by simp only [List.length_append];omega
   rw[G,show(X++U1)++(U2++(V1++(V2++Y)))=((X++U1)++U2)++(V1++(V2++Y)) by simp,show E-1=((X++U1)++U2).length+(V1.length-1) by omega];exact rU ω
  rw[am,ea,eb]at h9;exact h9
 have co:(O:Int)-(i:Int)=(E:Int):=ω;have cs:(0:Int)<=i/\(i:Int)<=1000/\(0:Int)<=E/\(E:Int)<=1000:=ω;have HF:=η (⟨f1,f2,f3,f4,f5,f6,f7,f8,f9,m⟩ :_/\_/\_/\_/\_/\_/\_/\_/\_/\_);have YK:=η (⟨t,o,Fx,l,IP,k,G,R⟩ :U=U1++U2/\V=V1++V2/\U1.length=i-A/\V1.length=E-M/\U2.length=M-i/\V2.length=B-E/\D=(X++U1)++(U2++(V1++(V2++Y)))/\(X++U1).length=i);have EL:=η (⟨c1,c2⟩ :_/\_);clear f1 f2 f3 f4 f5 f6 f7 f8 f9 m ci t o Fx l IP k G R c1 c2 hE ah L Cl N h1 h2 yE ap;go_upto_region 39 with fail
 go_cut [185] (λv wx=>v= .bool (decide (i<M/\M<E))/\wx=wr)
 case first=>
  as_aux_lemma=>
   by_cases b:i<M
   · by_cases f:M<E
     · have F:(i:Int)<(M:Int):=ω;have ac:(M:Int)<(E:Int):=ω
       go_wp2_with fail;go_meet;exact⟨by rw[aX (⟨b,f⟩ :_/\_)],rfl⟩
     have F:(i:Int)<(M:Int):=ω;have ac:decide ((M:Int)<(E:Int))=false:=ξ
     go_wp2_with fail;all_goals go_meet
     all_goals exact⟨by rw[aP (λh=>f h.2)],rfl⟩
   have F:decide ((i:Int)<(M:Int))=false:=ξ
   go_wp2_with fail;all_goals go_meet
   all_goals exact⟨by rw[aP (λh=>b h.1)],rfl⟩
 obtain⟨rfl,rfl⟩ :=hcut;have HH:=η h;clear h
 go_upto_if 185 with fail
 go_cut [] (λwx=>Dt w0 g n ((X++U1)++(V1++(U2++(V2++Y)))) wx)
 case first=>
  as_aux_lemma=>
   obtain⟨t,o,Fx,l,IP,k,G,R⟩ :=YK.out;obtain⟨f1,f2,f3,f4,f5,f6,f7,f8,f9,m⟩ :=HF.out;by_cases b:i<M/\M<E
   · rw[aX b];have mf:=η (a78 _ w0 (X++U1) U2 V1 (V2++Y) D i M E G HH.out R ω ω ω ω);clear f1 f2 f3 f4 f5 f6 f7 f8 f9 m t o Fx l IP k G R
     go_wp2_with fail;refine mf.mono ?_;rintro e w5 ⟨rfl,h5⟩
     go_wp2_with fail;go_meet;exact h5
   rw[aP b]
   have oM:(X++U1)++(V1++(U2++(V2++Y)))=D:=by
    rw[G];by_cases k1:i<M
    · have:V1=[]:=aC ω;rw[this];simp
    have:U2=[]:=aC ω;rw[this];simp
   have sf:=HH.out;rw[<-oM]at sf;have ad:=η sf;clear f1 f2 f3 f4 f5 f6 f7 f8 f9 m t o Fx l IP k G R sf oM
   go_wp2_with fail;all_goals go_meet
   all_goals exact ad
 have ad:=η hcut;clear hcut HH
 have an:Sm ((X++U1)++(V1++(U2++(V2++Y)))):=Db.perm (by
  rw[YK.2.2.2.2.2.2.1];refine cI _ ?_;have e1:V1++(U2++(V2++Y))=(V1++U2)++(V2++Y):=σ;have e2:U2++(V1++(V2++Y))=(U2++V1)++(V2++Y):=σ;rw[e1,e2];exact eD _ iK)
 have bo:=η an;clear an;go_upto_region 41 with fail
 go_cut [199] (λv wx=>v= .bool (decide (A<i/\i<a))/\wx=wc)
 case first=>
  as_aux_lemma=>
   by_cases b:A<i
   · by_cases f:i<a
     · have F:(A:Int)<(i:Int):=ω;have ac:(i:Int)<(a:Int):=ω
       go_wp2_with fail;go_meet;exact⟨by rw[aX (⟨b,f⟩ :_/\_)],rfl⟩
     have F:(A:Int)<(i:Int):=ω;have ac:decide ((i:Int)<(a:Int))=false:=ξ
     go_wp2_with fail;all_goals go_meet
     all_goals exact⟨by rw[aP (λh=>f h.2)],rfl⟩
   have F:decide ((A:Int)<(i:Int))=false:=ξ
   go_wp2_with fail;all_goals go_meet
   all_goals exact⟨by rw[aP (λh=>b h.1)],rfl⟩
 obtain⟨rfl,rfl⟩ :=hcut
 go_upto_if 199 with fail
 go_cut [] (λwx=>S3Z w0 g n X (U1++V1) (U2++(V2++Y)) wx)
 case first=>
  as_aux_lemma=>
   obtain⟨t,o,Fx,l,IP,k,G,R⟩ :=YK.out;obtain⟨f1,f2,f3,f4,f5,f6,f7,f8,f9,m⟩ :=HF.out;by_cases b:A<i/\i<a
   · rw[aX b];have mf:=η (bp _ w0 X U1 V1 (U2++(V2++Y)) _ A i a σ ad.out bo.out z.1 ω ω (iA.1 (by rw[<-t];exact HS.1)).1 (iA.1 (by rw[<-o];exact HS.2)).1 (bl.sub (λp hp=>by rw[t];exact cP _ hp) λp hp=>by rw[o];exact cP _ hp) ω ω (τ z.out));clear f1 f2 f3 f4 f5 f6 f7 f8 f9 m t o Fx l IP k G R
     go_wp2_with fail;refine mf.mono ?_;rintro e w5 ⟨Z,rfl,h5,al,J⟩
     go_wp2_with fail;go_meet;exact⟨Z,h5,al,J⟩
   rw[aP b]
   have hz:S3Z w0 g n X (U1++V1) (U2++(V2++Y)) wc:=by
    have h5:=ad.out;rw[show(X++U1)++(V1++(U2++(V2++Y)))=X++((U1++V1)++(U2++(V2++Y))) by simp]at h5;refine⟨U1++V1,h5, ?_,cO _⟩;by_cases k1:A<i
    · have:V1=[]:=aC ω;rw[this,ak];exact(iA.1 (by rw[<-t];exact HS.1)).1
    have:U1=[]:=aC ω;rw[this,ba];exact(iA.1 (by rw[<-o];exact HS.2)).1
   have HZ:=η hz;clear f1 f2 f3 f4 f5 f6 f7 f8 f9 m t o Fx l IP k G R hz
   go_wp2_with fail;all_goals go_meet
   all_goals exact HZ
 have bi:=η hcut;clear hcut;clear ad;obtain⟨Z1,H,I,C⟩ :=bi.out
 have Rc:Sm (X++(Z1++(U2++(V2++Y)))):=bo.perm (by
  rw[show(X++U1)++(V1++(U2++(V2++Y)))=X++((U1++V1)++(U2++(V2++Y))) by simp];exact cI _ (eD _ C))
 have H3:=η (⟨H,I,C,Rc⟩ :_/\_/\_/\_);clear H I C Rc bi;go_upto_region 43 with fail
 go_cut [213] (λv wx=>v= .bool (decide (a<E/\E<B))/\wx=wc)
 case first=>
  as_aux_lemma=>
   by_cases b:a<E
   · by_cases f:E<B
     · have F:(a:Int)<(E:Int):=ω;have ac:(E:Int)<(B:Int):=ω
       go_wp2_with fail;go_meet;exact⟨by rw[aX (⟨b,f⟩ :_/\_)],rfl⟩
     have F:(a:Int)<(E:Int):=ω;have ac:decide ((E:Int)<(B:Int))=false:=ξ
     go_wp2_with fail;all_goals go_meet
     all_goals exact⟨by rw[aP (λh=>f h.2)],rfl⟩
   have F:decide ((a:Int)<(E:Int))=false:=ξ
   go_wp2_with fail;all_goals go_meet
   all_goals exact⟨by rw[aP (λh=>b h.1)],rfl⟩
 obtain⟨rfl,rfl⟩ :=hcut;obtain⟨t,o,Fx,l,IP,k,G,R⟩ :=YK.out;obtain⟨f1,f2,f3,f4,f5,f6,f7,f8,f9,m⟩ :=HF.out;obtain⟨H,I,C,Rc⟩ :=H3.out
 have bG:Hid (∀Z2 wx,Dt w0 g n (X++(Z1++(Z2++Y))) wx->iF Z2->Z2.Perm (U2++V2)->lr w0 g n X (U++V) Y (.returned (.tuple #[])) wx):=λZ2 wx h5 bs bt=>by
  obtain⟨j1,j2⟩ :=XE (U1:=U1) (U2:=U2) (V1:=V1) (V2:=V2) (by rw[<-t];exact HS.1) (by rw[<-o];exact HS.2) C I bt bs EL.1 EL.2;refine⟨Z1++Z2,rfl, ?_,j1,by rw[t,o];exact j2⟩;rw[show X++((Z1++Z2)++Y)=X++(Z1++(Z2++Y)) by simp];exact h5
 have yD:Z1.length=U1.length+V1.length:=by rw[C.length_eq,ae]
 have ah:X.length=A:=z.1;by_cases b:a<E/\E<B
 · as_aux_lemma=>
    rw[aX b];have mf:=η (bp _ w0 (X++Z1) U2 V2 Y _ a E B σ H Rc (by rw[ae];omega) ω ω (iA.1 (by rw[<-t];exact HS.1)).2.1 (iA.1 (by rw[<-o];exact HS.2)).2.1 (bl.sub (λp hp=>by rw[t];exact bz _ hp) λp hp=>by rw[o];exact bz _ hp) ω ω (τ z.out));clear f1 f2 f3 f4 f5 f6 f7 f8 f9 m t o Fx l IP k G R H I C Rc yD ah
    go_wp2_with fail;refine mf.mono ?_;rintro e w5 ⟨Z2,rfl,h5,al,J⟩
    go_wp2_with fail;go_end0;rw[av]at h5;exact bG.out Z2 _ h5 al J
 as_aux_lemma=>
  rw[aP b]
  have J:iF (U2++V2):=by
   by_cases k1:a<E
   · have:V2=[]:=aC ω;rw[this,ak];exact(iA.1 (by rw[<-t];exact HS.1)).2.1
   have:U2=[]:=aC ω;rw[this,ba];exact(iA.1 (by rw[<-o];exact HS.2)).2.1
  have CM:=bG.out (U2++V2) _ (by rw[av];exact H) J (cO _);have cm:=η CM;clear f1 f2 f3 f4 f5 f6 f7 f8 f9 m t o Fx l IP k G R H I C Rc yD ah J CM
  go_wp2_with fail;all_goals go_end0
  all_goals exact cm
end Go.Proofs.YtgiimmkmjpbecaaGreat
