/-
  part
-/
import Derived.Test.YtdhmnlpfhfmpfaaGreatPk11
import Derived.Test.YtdhmnlpfhfmpfaaGreatStep
set_option linter.unusedVariables false
set_option maxRecDepth 100000
set_option maxHeartbeats 8000000
namespace Go.Proofs.YtdhmnlpfhfmpfaaGreat
open Go.RowKit
theorem a18 (g n c:Nat) (i:n<=1000):∀K,a5n g n c K:=by
 intro K;induction K with
 | zero=>intro w a X U V Y D A M B hD h b hA d e l k m j o;omega
 | succ K p=>
   intro w a X U V Y D A M B hD h b hA d e l k f m j o;by_cases r:U.length=1
   · obtain⟨u,rfl⟩ :∃u,U=[u]:=by
      cases U with
      | nil=>simp at m
      | cons u U=>cases U with
        | nil=>exact⟨u,rfl⟩
        | cons t U=>simp at r
     exact Xs w a g n c X V Y D u (by rw[hD];rfl) h i b A M B hA (by simpa using d) e k j f
   by_cases q:V.length=1
   · obtain⟨v,rfl⟩ :∃v,V=[v]:=by
      cases V with
      | nil=>simp at j
      | cons v V=>cases V with
        | nil=>exact⟨v,rfl⟩
        | cons s V=>simp at q
     exact Xt w a g n c X U Y D v (by rw[hD];rfl) h i b A M B hA d (by simpa using e) l ω f
   exact Xu K w a g n c p X U V Y D A M B hD h i b hA d e l k f ω ω o
theorem Oc (w:World) (A:ay) (n c a:Nat) (b:a<=1000) (F:Value):
  Calls Tryz.prog 162 #[.slice A n c, .int .i64 a, .int .i64 a,F] w λe w'=>e= .returned (.tuple #[])/\w=w':=by
 have f:¬(a:Int)+1<(a:Int):=ω;have d:(0:Int)<=a/\(a:Int)<=1000:=ω;go_enter Tryz.func162,Tryz.ntmps162
 go_wp2_with fail;go_loopg [8] 0 (λ(_:Nat) (v:Value) wr=>v= .int .i64 ((a:Int)+1)/\wr=w)
 case atStart=>exact⟨rfl,rfl⟩
 obtain⟨rfl,rfl⟩ :=hrel
 go_wp2_with fail;go_end0;exact⟨rfl,rfl⟩
def Tc (a:World) (g n:Nat) (b:List El) (e:Ending) (w':World):Prop:=∃D,e= .returned (.tuple #[])/\Dt a g n D w'/\iH D/\D.Perm b
def a5j (c:World) (g n:Nat) (f:List El) (k:Nat) (e d:Value) (wr:World):Prop:=
 ∃(P R:List El) (a b:Nat),e= .int .i64 a/\d= .int .i64 b/\Hid (P.length=a)/\b=a+20/\Hid (Pre 20 P)/\Dt c g n (P++R) wr/\Hid ((P++R).Perm f)/\Hid (k=R.length)/\a+R.length=n/\Hid (Sep P R/\OV R)
def a5k (a:World) (g n:Nat) (c:List El) (k:Nat) (b:Value) (wr:World):Prop:=
 ∃(D:List El) (s:Nat),b= .int .i64 s/\20<=s/\s<=2000/\Hid (Ko s D)/\Dt a g n D wr/\Hid (D.Perm c)/\Hid (k=n-s)
def a5l (c:World) (g n:Nat) (f:List El) (s:Nat) (k:Nat) (e d:Value) (wr:World):Prop:=
 ∃(P R:List El) (a b:Nat),e= .int .i64 a/\d= .int .i64 b/\Hid (P.length=a)/\b=a+2*s/\Hid (Pre (2*s) P)/\Hid (Ko s R)/\Dt c g n (P++R) wr/\Hid ((P++R).Perm f)/\Hid (k=R.length)/\a+R.length=n/\Hid (Sep P R)
def StZ (a:World) (g n:Nat) (b:List El) (wx:World):Prop:=∃D,Dt a g n D wx/\Ko 20 D/\D.Perm b
theorem MJ (w i:World) (g n c:Nat) (l:List El) (h:Dt i g n l w) (hn:n<=1000) (H:Sm l) (F6:OV l):
  Calls Tryz.prog 160 #[.slice (some ⟨g,0,none⟩) n c, .int .i64 n,tR] w (Tc i g n l):=by
 have ah:∀(w:World) (X G Y:List El) (a b:Nat),Dt i g n (X++(G++Y)) w->(X++(G++Y)).Perm l->X.length=a->X.length+G.length=b->0<G.length->OV G->
  Calls Tryz.prog 162 #[.slice (some ⟨g,0,none⟩) n c, .int .i64 a, .int .i64 b, .func (.func 154) #[] #[]] w (lL i g n X G Y):=λw X G Y a b h1 h2 h3 h4 h5 h6=>by
   have:=a0r w i g n c X G Y _ rfl h1 hn (H.perm h2) h5 h6;rw[h3]at this h4;rw[h4]at this;exact this
 have ac:∀(w:World) (X U V Y:List El) (A M B:Nat),Dt i g n (X++(U++(V++Y))) w->(X++(U++(V++Y))).Perm l->X.length=A->A+U.length=M->M+V.length=B->iH U->iH V->Sep U V->0<U.length->0<V.length->
  Calls Tryz.prog 163 #[.slice (some ⟨g,0,none⟩) n c, .int .i64 A, .int .i64 M, .int .i64 B, .func (.func 154) #[] #[]] w (lL i g n X (U++V) Y):=λw X U V Y A M B h1 h2 h3 h4 h5 h6 h7 h8 h9 aE=>a18 g n c hn _ w i X U V Y _ A M B rfl h1 (H.perm h2) h3 h4 h5 h6 h7 h8 h9 aE (ai _)
 have a4X:=η ah;have a54:=η ac;have C:=h.len;have HN:=η hn;have E:Hid (a5j i g n l n (.int .i64 0) (.int .i64 20) w):= ⟨[],l,0,20,rfl,rfl,rfl,rfl,Pre.dN _,h,cS _,C.symm,ω, ⟨Sep.nil' _,F6⟩⟩;have x6:(0:Int)<=n/\(n:Int)<=1000:=ω;clear ah ac C h hn H F6;unfold tR;go_enter Tryz.func160,Tryz.ntmps160
 go_wp2_with fail;go_loopg [7,8] n (a5j i g n l)
 case atStart=>exact E.out
 clear E;obtain⟨P,R,a,b,rfl,rfl,v,t,z,h,j,hk,f,r⟩ :=hrel;have Cl:(0:Int)<=a/\(0:Int)<=b/\(a:Int)<=1000/\(b:Int)<=2000/\(a:Int)+20=(b:Int):=ω;by_cases O:b<=n
 · have ZQ:(b:Int)<=(n:Int):=ω;obtain⟨U,Y,o,hU⟩ :∃U Y,R=U++Y/\U.length=20:= ⟨R.take 20,R.drop 20,(aU ..).symm,by rw[aD];omega⟩;have K:=η (a4X.out wr P U Y a b (by rw[<-o];exact h) (by rw[<-o];exact j.out) v.out (τ v.out) ω (Nj.1 (by rw[<-o];exact r.out.2)).1);have x:=η (⟨t,o,hU,f⟩ :b=a+20/\R=U++Y/\U.length=20/\a+R.length=n);clear o hU h t f O
   go_wp2_with fail;refine K.out.mono ?_;rintro e w5 ⟨Z,rfl,h5,k,d⟩;obtain⟨b2,m⟩ :=ν (b+20);have uh:(b:Int)+20=(b2:Int):=ω;have CT:=η m;clear m
   go_wp2_with fail;go_roundg Y.length
   case measure=>have:=hk.out;have:=x.out;have h9:=aN List.length x.out.2.1;rw[ag]at h9;omega
   obtain⟨t,o,hU,f⟩ :=x.out;have L:Z.length=20:=by rw[d.length_eq];exact hU
   refine⟨P++Z,Y,b,b2,rfl,rfl,by show _=_;rw[ag,v.out];omega,CT.out.symm,z.out.more L k (r.out.1.sub (λp hp=>hp) λp hp=>by rw[o];exact cI _ (d.mem_iff.1 hp)),by rw[av];exact h5, ?_,rfl, ?_, ?_⟩
   · show _;rw[av];refine(cM _ (eJ _ d)).trans ?_;rw[<-o];exact j.out
   · have h9:=aN List.length o;rw[ag]at h9;omega
   have ZJ:=Nj.1 (show OV (U++Y) by rw[<-o];exact r.out.2);exact⟨Sep.app (r.out.1.sub (λp hp=>hp) λp hp=>by rw[o];exact bD _ hp) (ZJ.2.2.perm d (cS _)),ZJ.2.1⟩
 have ZQ:¬(b:Int)<=(n:Int):=ω;have Q:R.length<20:=ω;have HR:=η (⟨Q,f⟩ :R.length<20/\a+R.length=n);clear t Q f O;go_upto_region 6 with fail
 go_cut [] (λwx=>StZ i g n l wx)
 case first=>
  obtain⟨Q,f⟩ :=HR.out;by_cases Ij:R.length=0
  · have o:R=[]:=aG Ij;subst o;have ao:a=n:=by simpa using f
    subst ao;have HI:=η (λw F=>Oc w (some ⟨g,0,none⟩) a c a HN.out F)
    have hz:StZ i g a l wr:=by
     refine⟨P,by rw[aA]at h;exact h, ?_,by have:=j.out;rwa [aA]at this⟩;have:=z.out [] (.last (aF _) iH.dN) (Sep.dN _)
     rwa [aA]at this
    have HZ:=η hz;clear Q f hz h Ij
    go_wp2_with fail;refine(HI.out _ _).mono ?_;rintro e w5 ⟨rfl,rfl⟩
    go_wp2_with fail;go_meet;exact HZ.out
  have K:=η (a4X.out wr P R [] a n (by rw[aA];exact h) (by rw[aA];exact j.out) v.out (τ v.out) ω r.out.2);have P3:=η Q;clear Q f h Ij
  go_wp2_with fail;refine K.out.mono ?_;rintro e w5 ⟨Z,rfl,h5,k,d⟩
  go_wp2_with fail;go_meet;rw[aA]at h5;refine⟨P++Z,h5,z.out _ (.last (by rw[d.length_eq];have:=P3.out;omega) k) (r.out.1.perm (cS _) d), ?_⟩;exact(cM _ d).trans j.out
 obtain⟨D,h,u,Vs⟩ :=hcut;have E:Hid (a5k i g n l (n-20) (.int .i64 20) wc):= ⟨D,20,rfl,ai _,ω,u,h,Vs,rfl⟩;clear h u Vs v z j hk HR ZQ Cl r
 go_wp2_with fail;go_loopg [6] (n-20) (a5k i g n l)
 case atStart=>exact E.out
 clear E;obtain⟨D,s,rfl,I,J,u,h,j,hk⟩ :=hrel;by_cases Dx:s<n
 rotate_left
 · have al:¬(s:Int)<(n:Int):=ω;have am:iH D:=u.out.uW (by rw[h.len];omega);clear Dx I J
   go_wp2_with fail;go_end0;exact⟨D,rfl,h,am,j.out⟩
 have al:(s:Int)<(n:Int):=ω;obtain⟨q,O9⟩ :=ν (2*s);have be:2*(s:Int)=(q:Int):=ω;have ab:(s:Int)*2=(q:Int):=ω;have bl:(20:Int)<=s/\(s:Int)<=1000/\(q:Int)<=2000/\(0:Int)<=q:=ω;have Sn:=h.len;have E:Hid (a5l i g n l s n (.int .i64 0) (.int .i64 q) wr):= ⟨[],D,0,q,rfl,rfl,rfl,ω,Pre.dN _,u.out,h,j.out,Sn.symm,ω,Sep.nil' _⟩;have N:=η (⟨I,J,Dx,O9⟩ :_/\_/\_/\_);clear I J Dx O9 u h j Sn
 go_wp2_with fail;go_loopg [7,8] n (a5l i g n l s)
 case atStart=>exact E.out
 clear E;obtain⟨P,R,a,b,rfl,rfl,v,t,z,u,h,j,an,f,r⟩ :=hrel;have y:=N.out;obtain⟨M,S⟩ :=ν (a+s);have bi:(a:Int)+(s:Int)=(M:Int):=ω;have Cl:(0:Int)<=a/\(a:Int)<=1000/\(0:Int)<=b/\(b:Int)<=3000/\(0:Int)<=M/\(M:Int)<=3000:=ω;by_cases O:b<=n
 · have ZQ:(b:Int)<=(n:Int):=ω;obtain⟨c1,R1,e1,T,s1,W,q1⟩ :=u.out.head ω;have ad:s<=R1.length:=by have:=aN List.length e1;rw[ag]at this;omega
   obtain⟨c2,R2,e2,l2,s2,k2,q2⟩ :=W.head ad;subst e1 e2;have K:=η (a54.out _ P c1 c2 R2 a M b h j.out v.out ω ω s1 s2 (q1.sub (λp hp=>hp) λp hp=>cI _ hp) ω ω);obtain⟨b2,m⟩ :=ν (b+q);have uh:(b:Int)+(q:Int)=(b2:Int):=ω;have x:=η (⟨t,S,m,T,l2,k2,f⟩ :_/\_/\_/\_/\_/\_/\_);clear t S m T l2 k2 f s1 s2 ad h O W y
   go_wp2_with fail;refine K.out.mono ?_;rintro e w5 ⟨Z,rfl,h5,k,d⟩
   go_wp2_with fail;go_roundg R2.length
   case measure=>have h1:=an.out;simp only [List.length_append]at h1;have:=x.out;have:=N.out;omega
   obtain⟨t,S,m,T,l2,k2,f⟩ :=x.out;have L:Z.length=2*s:=by rw[d.length_eq,ag];omega
   have y:=N.out;have Qs:∀p∈c1++c2,p∈c1++(c2++R2):=λp hp=>by rw[<-av];exact cI _ hp
   refine⟨P++Z,R2,b,b2,rfl,rfl,by show _=_;rw[ag,v.out];omega,ω,z.out.more L k (r.out.sub (λp hp=>hp) λp hp=>Qs p (d.mem_iff.1 hp)),k2,by rw[av];exact h5, ?_,rfl, ?_, ?_⟩
   · show _;rw[av];refine(cM _ (eJ _ d)).trans ?_;rw[av];exact j.out
   · simp only [List.length_append]at f;omega
   refine Sep.app (r.out.sub (λp hp=>hp) λp hp=>bD _ (bD _ hp)) (Sep.perm (U:=c1++c2) (V:=R2) (Sep.app ?_ q2) d (cS _));exact q1.sub (λp hp=>hp) λp hp=>bD _ hp
 have ZQ:¬(b:Int)<=(n:Int):=ω;have x:=η (⟨t,S,f,ω⟩ :b=a+2*s/\a+s=M/\a+R.length=n/\R.length<2*s);by_cases ae:M<n
 · have ap:(M:Int)<(n:Int):=ω;obtain⟨c1,R1,e1,T,s1,W,q1⟩ :=u.out.head ω;subst e1;rw[ag]at f;have s2:iH R1:=W.uW ω;have K:=η (a54.out _ P c1 R1 [] a M n (by rw[aA];exact h) (by rw[aA];exact j.out) v.out ω ω s1 s2 q1 ω ω);clear t S f O y ae T s1 W s2 h
   go_wp2_with fail;refine K.out.mono ?_;rintro e w5 ⟨Z,rfl,h5,k,d⟩
   go_wp2_with fail;go_roundg (n-q)
   case measure=>have:=hk.out;have:=N.out;omega
   have y:=N.out;rw[aA]at h5;refine⟨P++Z,q,by rw[<-ab],ω,ω, ?_,h5,(cM _ d).trans j.out,rfl⟩;show Ko _ _;rw[<-y.2.2.2];exact z.out _ (.last (by rw[d.length_eq];have:=x.out;omega) k) (r.out.perm (cS _) d)
 have ap:¬(M:Int)<(n:Int):=ω;have s2:iH R:=u.out.uW ω;have HX:=η (⟨s2,h⟩ :_/\_);clear t S f O y ae s2 h
 go_wp2_with fail;go_roundg (n-q)
 case measure=>have:=hk.out;have:=N.out;omega
 have y:=N.out;refine⟨P++R,q,by rw[<-ab],ω,ω, ?_,HX.out.2,j.out,rfl⟩;show Ko _ _;rw[<-y.2.2.2];exact z.out _ (.last (τ x.out) HX.out.1) r.out
theorem MK (w:World) (F:Value):
  Calls Tryz.prog 160 #[.slice none 0 0, .int .i64 0,F] w λe w'=>e= .returned (.tuple #[])/\w=w':=by
 have a:=η (λw F=>Oc w none 0 0 0 ω F);go_enter Tryz.func160,Tryz.ntmps160
 go_wp2_with fail;go_loopg [7,8] 0 (λ(_:Nat) (v7 v8:Value) wr=>v7= .int .i64 0/\v8= .int .i64 20/\wr=w)
 case atStart=>exact⟨rfl,rfl,rfl⟩
 obtain⟨rfl,rfl,rfl⟩ :=hrel
 go_wp2_with fail;refine(a.out _ _).mono ?_;rintro e b ⟨rfl,rfl⟩
 go_wp2_with fail;go_loopg [6] 0 (λ(_:Nat) (v6:Value) wx=>v6= .int .i64 20/\wx=wr)
 case atStart=>exact⟨rfl,rfl⟩
 obtain⟨rfl,rfl⟩ :=hrel
 go_wp2_with fail;go_end0;exact⟨rfl,rfl⟩
theorem a2F (D:List El) (i:Nat):(yJ D i).oneCell'=true:=by
 unfold yJ sv;split <;> rfl
theorem a2E (D E:List El) (i:Nat):cat (D.length*2) (yJ D) (yJ E) i=yJ (D++E) i:=by
 have e:yJ (D++E) i=if i<D.length*2 then yJ D i else yJ E (i-D.length*2):=by
  by_cases h:i<D.length*2
  · have b:i/2<D.length:=ω;have a:el (D++E) (i/2)=el D (i/2):=yj b;rw[af h];unfold yJ;rw[a]
  have b:D.length<=i/2:=ω;have a:el (D++E) (i/2)=el E (i/2-D.length):=qH b;have c:(i-D.length*2)/2=i/2-D.length:=ω;have h4:(i-D.length*2)%2=i%2:=ω;rw[aa h];unfold yJ;rw[a,c,h4]
 rw[e];rfl
def yO (w:World) (B:Nat) (A:ay) (n:Nat) (D:List El):Prop:=n=D.length/\Rd w B A (n*2) (yJ D)
def kI (w:World) (b0:Nat) (A:ay) (n c:Nat) (D:List El):Prop:=n=D.length/\Own w b0 180 2 A n c (yJ D)
section
variable {w w':World} {b0 B n c:Nat} {A:ay} {D:List El}
theorem kI.rd (h:kI w b0 A n c D):yO w w.heap.size A n D:= ⟨h.1,h.2.rd⟩
theorem kI.dN:kI w b0 none 0 0 []:= ⟨rfl,Own.dN⟩
theorem kI.alloc (h:kI w b0 A n c D) (o:Obj):kI (w.alloc o) b0 A n c D:= ⟨h.1,h.2.alloc o⟩
theorem kI.drew (h:kI w b0 A n c D):kI w.drew b0 A n c D:=h
theorem kI.drewN (h:kI w b0 A n c D) (q:Nat):kI (w.drewN q) b0 A n c D:=h
theorem kI.below {B:Nat} (h:kI w b0 A n c D) (a:Below B w w') (b:∀g,ak A=some g->g<B):kI w' b0 A n c D:= ⟨h.1,h.2.below a b⟩
theorem kI.keeps (h:kI w b0 A n c D) (b:Below w.heap.size w w'):kI w' b0 A n c D:=h.below b λ_ a=>(h.2.lt a).2
theorem yO.below (h:yO w B A n D) (a:Below B w w'):yO w' B A n D:= ⟨h.1,h.2.below a⟩
theorem yO.more {B':Nat} (h:yO w B A n D) (a:B<=B'):yO w B' A n D:= ⟨h.1,h.2.more a⟩
theorem yO.lit (w:World) (e:El) (t:TypeId):yO (w.alloc (.cells #[.int .i64 e.1, .slice e.2.1 e.2.2.1 e.2.2.2] t)) (w.heap.size+1) (some ⟨w.heap.size,0,none⟩) 1 [e]:= ⟨rfl,λ_=> ⟨_,rfl,σ,λi hi=>by
 rw[oh]
 have h:=Ar.new w #[.int .i64 e.1, .slice e.2.1 e.2.2.1 e.2.2.2] t (m:=2) (f:=yJ [e]) rfl (λi hi=>by
  obtain rfl | rfl:i=0\/i=1:=ω
  · rfl
  rfl)
 exact h.cell ω⟩⟩
theorem wG:(Tryz.prog.info? 180).map (λi=>(i.zero,i.size,i.bytes))=some (some (.agg #[.int .i64 0, .slice none 0 0]),2,32):=by kernel_rfl
theorem Jv (b0:Nat) (h:TypeId) (i:TypeInfo) (hi:Tryz.prog.info? 180 =some i) (hz:i.zero=some (.agg #[.int .i64 0, .slice none 0 0]))
  (b:i.size=2) (f:i.bytes=32) {A:ay} {n c:Nat} {l:List El} (a:kI w b0 A n c l) {B:Nat} {A':ay} {m c':Nat} {l':List El} (k:yO w B A' m l')
  (g:n+m<=1000000000000) (d:b0<=w.heap.size):
  ∃A2 c2 w2,(Builtin.append_ #[177, 177] h #[.slice A n c, .slice A' m c']).run Tryz.prog w= .ok (.slice A2 (n+m) c2) w2/\kI w2 b0 A2 (n+m) c2 (l++l')/\w.grownBy w2 (ak A)/\(ak A2=ak A\/ak A2=some w.heap.size):=by
 obtain⟨A2,c2,w2,e,p,o,h4⟩ :=ia (P:=Tryz.prog) w b0 177 h 180 i _ 2 32 Tryz.underlying177 hi hz b f rfl ω A n c _ a.2 B A' m c' _ k.2 (λj _=>a2F l' j) g ω d;exact⟨A2,c2,w2,e, ⟨by rw[ag,<-a.1,<-k.1],p.congr λj q=>by rw[a.1,a2E]⟩,o,h4⟩
theorem tA {b:Array Oper} {rest:List Oper} {o:Oper} {a:Act} {Q:Exit->Act->World->Prop} (b0:Nat) (i:TypeInfo) (j:Region.wanted o (yielded b a.tmps)=true) (s x:Operand)
  (u:o.op= .call { callee:= .builtin .append,args:= #[s,x],argTypes:= #[177, 177] }) (hi:Tryz.prog.info? 180 =some i) (hz:i.zero=some (.agg #[.int .i64 0, .slice none 0 0]))
  (d:i.size=2) (k:i.bytes=32) {A:ay} {n c:Nat} {l:List El} (r:a.eval s= .slice A n c) (g:kI w b0 A n c l)
  {B:Nat} {A':ay} {m c':Nat} {l':List El} (q:a.eval x= .slice A' m c') (t:yO w B A' m l')
  (p:n+m<=1000000000000) (e:b0<=w.heap.size)
  (h:∀A2 c2 w2,kI w2 b0 A2 (n+m) c2 (l++l')->w.grownBy w2 (ak A)->(ak A2=ak A\/ak A2=some w.heap.size)->wpList Tryz.prog b Q rest (a.put o.dst (.slice A2 (n+m) c2)) w2):wpList Tryz.prog b Q (o::rest) a w:=by
 refine ig λK v=> ?_;rw[af j];obtain⟨A2,c2,w2,f,z,y,h4⟩ :=Jv b0 o.type i hi hz d k g (c':=c') t p e;unfold Oper.wp execOp;simp only [u,resolve,invoke,builtin,Sem.run_bind,Sem.run_pure,Result.andThen_ok,List.map_toArray,List.map_cons,List.map_nil,r,q,f];exact v _ _ (h A2 c2 w2 z y h4)
theorem xY {e:Array Oper} {o:Oper} {a:Act} {K:Act->World->Prop} {Q:Exit->Act->World->Prop} {E:Prop} (b0:Nat) (i:TypeInfo) (j:Region.wanted o (yielded e a.tmps)=true) (s x:Operand)
  (u:o.op= .call { callee:= .builtin .append,args:= #[s,x],argTypes:= #[177, 177] }) (hi:Tryz.prog.info? 180 =some i) (hz:i.zero=some (.agg #[.int .i64 0, .slice none 0 0]))
  (b:i.size=2) (k:i.bytes=32) {A:ay} {n c:Nat} {l:List El} (r:a.eval s= .slice A n c) (g:kI w b0 A n c l)
  {B:Nat} {A':ay} {m c':Nat} {l':List El} (q:a.eval x= .slice A' m c') (t:yO w B A' m l')
  (p:n+m<=1000000000000) (d:b0<=w.heap.size)
  (h:∀A2 c2 w2,kI w2 b0 A2 (n+m) c2 (l++l')->w.grownBy w2 (ak A)->(ak A2=ak A\/ak A2=some w.heap.size)->K (a.put o.dst (.slice A2 (n+m) c2)) w2):
  if Region.wanted o (yielded e a.tmps)=true then Oper.wp Tryz.prog o a w K Q else E:=by
 rw[af j];obtain⟨A2,c2,w2,f,y,v,h4⟩ :=Jv b0 o.type i hi hz b k g (c':=c') t p d;unfold Oper.wp execOp;simp only [u,resolve,invoke,builtin,Sem.run_bind,Sem.run_pure,Result.andThen_ok,List.map_toArray,List.map_cons,List.map_nil,r,q,f];exact h A2 c2 w2 y v h4
end
end Go.Proofs.YtdhmnlpfhfmpfaaGreat
