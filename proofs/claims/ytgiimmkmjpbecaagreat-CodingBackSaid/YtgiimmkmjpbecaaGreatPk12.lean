/-
  part
-/
import Derived.Test.YtgiimmkmjpbecaaGreatPk11
import Derived.Test.YtgiimmkmjpbecaaGreatStep
set_option linter.unusedVariables false
set_option maxRecDepth 100000
set_option maxHeartbeats 8000000
namespace Go.Proofs.YtgiimmkmjpbecaaGreat
open Go.RowKit
theorem a0Y (g n c:Nat) (i:n<=1000):∀K,a4j g n c K:=by
 intro K;induction K with
 | zero=>intro w a X U V Y D A M B hD h b hA d e l k m j o;omega
 | succ K p=>
   intro w a X U V Y D A M B hD h b hA d e l k f m j o;by_cases r:U.length=1
   · obtain⟨u,rfl⟩ :∃u,U=[u]:=by
      cases U with
      | nil=>simp at m
      | cons u U=>cases U with
        | nil=>exact⟨u,rfl⟩
        | cons t U=>simp at r
     exact XA w a g n c X V Y D u (by rw[hD];rfl) h i b A M B hA (by simpa using d) e k j f
   by_cases q:V.length=1
   · obtain⟨v,rfl⟩ :∃v,V=[v]:=by
      cases V with
      | nil=>simp at j
      | cons v V=>cases V with
        | nil=>exact⟨v,rfl⟩
        | cons s V=>simp at q
     exact XC w a g n c X U Y D v (by rw[hD];rfl) h i b A M B hA d (by simpa using e) l ω f
   exact XD K w a g n c p X U V Y D A M B hD h i b hA d e l k f ω ω o
theorem P9 (w:World) (A:ax) (n c a:Nat) (b:a<=1000) (F:Value):
  Calls Tryz.prog 153 #[.slice A n c, .int .i64 a, .int .i64 a,F] w λe w'=>e= .returned (.tuple #[])/\w=w':=by
 have f:¬(a:Int)+1<(a:Int):=ω;have d:(0:Int)<=a/\(a:Int)<=1000:=ω
 go_in
 go_wp2_with fail;go_loopg [8] 0 (λ(_:Nat) (v:Value) wr=>v= .int .i64 ((a:Int)+1)/\wr=w)
 case atStart=>exact⟨rfl,rfl⟩
 obtain⟨rfl,rfl⟩ :=hrel
 go_wp2_with fail;go_end0;exact⟨rfl,rfl⟩
def Ty (a:World) (g n:Nat) (b:List El) (e:Ending) (w':World):Prop:=∃D,e= .returned (.tuple #[])/\Dt a g n D w'/\iF D/\D.Perm b
def a4f (c:World) (g n:Nat) (f:List El) (k:Nat) (e d:Value) (wr:World):Prop:=
 ∃(P R:List El) (a b:Nat),e= .int .i64 a/\d= .int .i64 b/\Hid (P.length=a)/\b=a+20/\Hid (Pre 20 P)/\Dt c g n (P++R) wr/\Hid ((P++R).Perm f)/\Hid (k=R.length)/\a+R.length=n/\Hid (Sep P R/\PF R)
def a4g (a:World) (g n:Nat) (c:List El) (k:Nat) (b:Value) (wr:World):Prop:=
 ∃(D:List El) (s:Nat),b= .int .i64 s/\20<=s/\s<=2000/\Hid (KX s D)/\Dt a g n D wr/\Hid (D.Perm c)/\Hid (k=n-s)
def a4h (c:World) (g n:Nat) (f:List El) (s:Nat) (k:Nat) (e d:Value) (wr:World):Prop:=
 ∃(P R:List El) (a b:Nat),e= .int .i64 a/\d= .int .i64 b/\Hid (P.length=a)/\b=a+2*s/\Hid (Pre (2*s) P)/\Hid (KX s R)/\Dt c g n (P++R) wr/\Hid ((P++R).Perm f)/\Hid (k=R.length)/\a+R.length=n/\Hid (Sep P R)
def StZ (a:World) (g n:Nat) (b:List El) (wx:World):Prop:=∃D,Dt a g n D wx/\KX 20 D/\D.Perm b
theorem NA (w i:World) (g n c:Nat) (l:List El) (h:Dt i g n l w) (hn:n<=1000) (I:Sm l) (Fz:PF l):
  Calls Tryz.prog 151 #[.slice (some ⟨g,0,none⟩) n c, .int .i64 n,tE] w (Ty i g n l):=by
 have al:∀(w:World) (X H Y:List El) (a b:Nat),Dt i g n (X++(H++Y)) w->(X++(H++Y)).Perm l->X.length=a->X.length+H.length=b->0<H.length->PF H->
  Calls Tryz.prog 153 #[.slice (some ⟨g,0,none⟩) n c, .int .i64 a, .int .i64 b, .func (.func 148) #[] #[]] w (lr i g n X H Y):=λw X H Y a b h1 h2 h3 h4 h5 h6=>by
   have:=a0o w i g n c X H Y _ rfl h1 hn (I.perm h2) h5 h6;rw[h3]at this h4;rw[h4]at this;exact this
 have ac:∀(w:World) (X U V Y:List El) (A M B:Nat),Dt i g n (X++(U++(V++Y))) w->(X++(U++(V++Y))).Perm l->X.length=A->A+U.length=M->M+V.length=B->iF U->iF V->Sep U V->0<U.length->0<V.length->
  Calls Tryz.prog 154 #[.slice (some ⟨g,0,none⟩) n c, .int .i64 A, .int .i64 M, .int .i64 B, .func (.func 148) #[] #[]] w (lr i g n X (U++V) Y):=λw X U V Y A M B h1 h2 h3 h4 h5 h6 h7 h8 h9 bd=>a0Y g n c hn _ w i X U V Y _ A M B rfl h1 (I.perm h2) h3 h4 h5 h6 h7 h8 h9 bd (af _)
 have a3V:=η al;have a42:=η ac;have E:=h.len;have HN:=η hn;have G:Hid (a4f i g n l n (.int .i64 0) (.int .i64 20) w):= ⟨[],l,0,20,rfl,rfl,rfl,rfl,Pre.di _,h,cO _,E.symm,ω, ⟨Sep.nil' _,Fz⟩⟩;have tJ:(0:Int)<=n/\(n:Int)<=1000:=ω;clear al ac E h hn I Fz;unfold tE
 go_in
 go_wp2_with fail;go_loopg [7,8] n (a4f i g n l)
 case atStart=>exact G
 clear G;obtain⟨P,R,a,b,rfl,rfl,v,t,C,h,j,hk,f,r⟩ :=hrel;have qY:(0:Int)<=a/\(0:Int)<=b/\(a:Int)<=1000/\(b:Int)<=2000/\(a:Int)+20=(b:Int):=ω;by_cases Q:b<=n
 · have ZP:(b:Int)<=(n:Int):=ω;obtain⟨U,Y,o,hU⟩ :∃U Y,R=U++Y/\U.length=20:= ⟨R.take 20,R.drop 20,(aO ..).symm,by rw[aD];omega⟩;have L:=η (a3V wr P U Y a b (by rw[<-o];exact h) (by rw[<-o];exact j.out) v.out (τ v.out) ω (Od.1 (by rw[<-o];exact r.out.2)).1);have x:=η (⟨t,o,hU,f⟩ :b=a+20/\R=U++Y/\U.length=20/\a+R.length=n);clear o hU h t f Q
   go_wp2_with fail;refine L.mono ?_;rintro e w5 ⟨Z,rfl,h5,k,d⟩;obtain⟨b2,m⟩ :=ν (b+20);have qD:(b:Int)+20=(b2:Int):=ω;have KD:=η m;clear m
   go_wp2_with fail;go_roundg Y.length
   case measure=>have:=hk.out;have:=x.out;have h9:=bf List.length x.2.1;rw[ae]at h9;omega
   obtain⟨t,o,hU,f⟩ :=x.out;have N:Z.length=20:=by rw[d.length_eq];exact hU
   refine⟨P++Z,Y,b,b2,rfl,rfl,by show _=_;rw[ae,v.out];omega,KD.symm,C.out.more N k (r.out.1.sub (λp hp=>hp) λp hp=>by rw[o];exact cP _ (d.mem_iff.1 hp)),by rw[av];exact h5, ?_,rfl, ?_, ?_⟩
   · show _;rw[av];refine(cI _ (eD _ d)).trans ?_;rw[<-o];exact j.out
   · have h9:=bf List.length o;rw[ae]at h9;omega
   have ZI:=Od.1 (show PF (U++Y) by rw[<-o];exact r.out.2);exact⟨Sep.app (r.out.1.sub (λp hp=>hp) λp hp=>by rw[o];exact bz _ hp) (ZI.2.2.perm d (cO _)),ZI.2.1⟩
 have ZP:¬(b:Int)<=(n:Int):=ω;have S:R.length<20:=ω;have HR:=η (⟨S,f⟩ :R.length<20/\a+R.length=n);clear t S f Q;go_upto_region 6 with fail
 go_cut [] (λwx=>StZ i g n l wx)
 case first=>
  obtain⟨S,f⟩ :=HR.out;by_cases IM:R.length=0
  · have o:R=[]:=aC IM;subst o;have ap:a=n:=by simpa using f
    subst ap;have HI:=η (λw F=>P9 w (some ⟨g,0,none⟩) a c a HN.out F)
    have hz:StZ i g a l wr:=by
     refine⟨P,by rw[ak]at h;exact h, ?_,by have:=j.out;rwa [ak]at this⟩;have:=C.out [] (.last (aG _) iF.di) (Sep.di _)
     rwa [ak]at this
    have HZ:=η hz;clear S f hz h IM
    go_wp2_with fail;refine(HI _ _).mono ?_;rintro e w5 ⟨rfl,rfl⟩
    go_wp2_with fail;go_meet;exact HZ
  have L:=η (a3V wr P R [] a n (by rw[ak];exact h) (by rw[ak];exact j.out) v.out (τ v.out) ω r.out.2);have PM:=η S;clear S f h IM
  go_wp2_with fail;refine L.mono ?_;rintro e w5 ⟨Z,rfl,h5,k,d⟩
  go_wp2_with fail;go_meet;rw[ak]at h5;refine⟨P++Z,h5,C.out _ (.last (by rw[d.length_eq];have:=PM.out;omega) k) (r.out.1.perm (cO _) d), ?_⟩;exact(cI _ d).trans j.out
 obtain⟨D,h,u,VB⟩ :=hcut;have G:Hid (a4g i g n l (n-20) (.int .i64 20) wc):= ⟨D,20,rfl,af _,ω,u,h,VB,rfl⟩;clear h u VB v C j hk HR ZP qY r
 go_wp2_with fail;go_loopg [6] (n-20) (a4g i g n l)
 case atStart=>exact G
 clear G;obtain⟨D,s,rfl,J,K,u,h,j,hk⟩ :=hrel;by_cases DV:s<n
 rotate_left
 · have am:¬(s:Int)<(n:Int):=ω;have an:iF D:=u.out.uI (by rw[h.len];omega);clear DV J K
   go_wp2_with fail;go_end0;exact⟨D,rfl,h,an,j.out⟩
 have am:(s:Int)<(n:Int):=ω;obtain⟨q,P7⟩ :=ν (2*s);have be:2*(s:Int)=(q:Int):=ω;have ab:(s:Int)*2=(q:Int):=ω;have bl:(20:Int)<=s/\(s:Int)<=1000/\(q:Int)<=2000/\(0:Int)<=q:=ω;have SY:=h.len;have G:Hid (a4h i g n l s n (.int .i64 0) (.int .i64 q) wr):= ⟨[],D,0,q,rfl,rfl,rfl,ω,Pre.di _,u.out,h,j.out,SY.symm,ω,Sep.nil' _⟩;have O:=η (⟨J,K,DV,P7⟩ :_/\_/\_/\_);clear J K DV P7 u h j SY
 go_wp2_with fail;go_loopg [7,8] n (a4h i g n l s)
 case atStart=>exact G
 clear G;obtain⟨P,R,a,b,rfl,rfl,v,t,C,u,h,j,ao,f,r⟩ :=hrel;have z:=O.out;obtain⟨M,T⟩ :=ν (a+s);have bi:(a:Int)+(s:Int)=(M:Int):=ω;have qY:(0:Int)<=a/\(a:Int)<=1000/\(0:Int)<=b/\(b:Int)<=3000/\(0:Int)<=M/\(M:Int)<=3000:=ω;by_cases Q:b<=n
 · have ZP:(b:Int)<=(n:Int):=ω;obtain⟨c1,R1,e1,l1,W,k1,q1⟩ :=u.out.head ω;have ad:s<=R1.length:=by have:=bf List.length e1;rw[ae]at this;omega
   obtain⟨c2,R2,e2,l2,y,k2,q2⟩ :=k1.head ad;subst e1 e2;have L:=η (a42 _ P c1 c2 R2 a M b h j.out v.out ω ω W y (q1.sub (λp hp=>hp) λp hp=>cP _ hp) ω ω);obtain⟨b2,m⟩ :=ν (b+q);have qD:(b:Int)+(q:Int)=(b2:Int):=ω;have x:=η (⟨t,T,m,l1,l2,k2,f⟩ :_/\_/\_/\_/\_/\_/\_);clear t T m l1 l2 k2 f W y ad h Q k1 z
   go_wp2_with fail;refine L.mono ?_;rintro e w5 ⟨Z,rfl,h5,k,d⟩
   go_wp2_with fail;go_roundg R2.length
   case measure=>have h1:=ao.out;simp only [List.length_append]at h1;have:=x.out;have:=O.out;omega
   obtain⟨t,T,m,l1,l2,k2,f⟩ :=x.out;have N:Z.length=2*s:=by rw[d.length_eq,ae];omega
   have z:=O.out;have QW:∀p∈c1++c2,p∈c1++(c2++R2):=λp hp=>by rw[<-av];exact cP _ hp
   refine⟨P++Z,R2,b,b2,rfl,rfl,by show _=_;rw[ae,v.out];omega,ω,C.out.more N k (r.out.sub (λp hp=>hp) λp hp=>QW p (d.mem_iff.1 hp)),k2,by rw[av];exact h5, ?_,rfl, ?_, ?_⟩
   · show _;rw[av];refine(cI _ (eD _ d)).trans ?_;rw[av];exact j.out
   · simp only [List.length_append]at f;omega
   refine Sep.app (r.out.sub (λp hp=>hp) λp hp=>bz _ (bz _ hp)) (Sep.perm (U:=c1++c2) (V:=R2) (Sep.app ?_ q2) d (cO _));exact q1.sub (λp hp=>hp) λp hp=>bz _ hp
 have ZP:¬(b:Int)<=(n:Int):=ω;have x:=η (⟨t,T,f,ω⟩ :b=a+2*s/\a+s=M/\a+R.length=n/\R.length<2*s);by_cases ah:M<n
 · have aE:(M:Int)<(n:Int):=ω;obtain⟨c1,R1,e1,l1,W,k1,q1⟩ :=u.out.head ω;subst e1;rw[ae]at f;have y:iF R1:=k1.uI ω;have L:=η (a42 _ P c1 R1 [] a M n (by rw[ak];exact h) (by rw[ak];exact j.out) v.out ω ω W y q1 ω ω);clear t T f Q z ah l1 W k1 y h
   go_wp2_with fail;refine L.mono ?_;rintro e w5 ⟨Z,rfl,h5,k,d⟩
   go_wp2_with fail;go_roundg (n-q)
   case measure=>have:=hk.out;have:=O.out;omega
   have z:=O.out;rw[ak]at h5;refine⟨P++Z,q,by rw[<-ab],ω,ω, ?_,h5,(cI _ d).trans j.out,rfl⟩;show KX _ _;rw[<-z.2.2.2];exact C.out _ (.last (by rw[d.length_eq];have:=x.out;omega) k) (r.out.perm (cO _) d)
 have aE:¬(M:Int)<(n:Int):=ω;have y:iF R:=u.out.uI ω;have HX:=η (⟨y,h⟩ :_/\_);clear t T f Q z ah y h
 go_wp2_with fail;go_roundg (n-q)
 case measure=>have:=hk.out;have:=O.out;omega
 have z:=O.out;refine⟨P++R,q,by rw[<-ab],ω,ω, ?_,HX.2,j.out,rfl⟩;show KX _ _;rw[<-z.2.2.2];exact C.out _ (.last (τ x.out) HX.1) r.out
theorem NB (w:World) (F:Value):
  Calls Tryz.prog 151 #[.slice none 0 0, .int .i64 0,F] w λe w'=>e= .returned (.tuple #[])/\w=w':=by
 have a:=η (λw F=>P9 w none 0 0 0 ω F)
 go_in
 go_wp2_with fail;go_loopg [7,8] 0 (λ(_:Nat) (v7 v8:Value) wr=>v7= .int .i64 0/\v8= .int .i64 20/\wr=w)
 case atStart=>exact⟨rfl,rfl,rfl⟩
 obtain⟨rfl,rfl,rfl⟩ :=hrel
 go_wp2_with fail;refine(a _ _).mono ?_;rintro e b ⟨rfl,rfl⟩
 go_wp2_with fail;go_loopg [6] 0 (λ(_:Nat) (v6:Value) wx=>v6= .int .i64 20/\wx=wr)
 case atStart=>exact⟨rfl,rfl⟩
 obtain⟨rfl,rfl⟩ :=hrel
 go_wp2_with fail;go_end0;exact⟨rfl,rfl⟩
theorem a2d (D:List El) (i:Nat):(ye D i).oneCell'=true:=by
 unfold ye sv;split <;> rfl
theorem a2c (D E:List El) (i:Nat):cat (D.length*2) (ye D) (ye E) i=ye (D++E) i:=by
 have e:ye (D++E) i=if i<D.length*2 then ye D i else ye E (i-D.length*2):=by
  by_cases h:i<D.length*2
  · have b:i/2<D.length:=ω;have a:el (D++E) (i/2)=el D (i/2):=xR b;rw[aa h];unfold ye;rw[a]
  have b:D.length<=i/2:=ω;have a:el (D++E) (i/2)=el E (i/2-D.length):=qs b;have c:(i-D.length*2)/2=i/2-D.length:=ω;have h4:(i-D.length*2)%2=i%2:=ω;rw[a8 h];unfold ye;rw[a,c,h4]
 rw[e];rfl
def yl (w:World) (B:Nat) (A:ax) (n:Nat) (D:List El):Prop:=n=D.length/\Rd w B A (n*2) (ye D)
def kz (w:World) (b0:Nat) (A:ax) (n c:Nat) (D:List El):Prop:=n=D.length/\Own w b0 201 2 A n c (ye D)
section
variable {w w':World} {b0 B n c:Nat} {A:ax} {D:List El}
theorem kz.rd (h:kz w b0 A n c D):yl w w.heap.size A n D:= ⟨h.1,h.2.rd⟩
theorem kz.di:kz w b0 none 0 0 []:= ⟨rfl,Own.di⟩
theorem kz.alloc (h:kz w b0 A n c D) (o:Obj):kz (w.alloc o) b0 A n c D:= ⟨h.1,h.2.alloc o⟩
theorem kz.drew (h:kz w b0 A n c D):kz w.drew b0 A n c D:=h
theorem kz.drewN (h:kz w b0 A n c D) (q:Nat):kz (w.drewN q) b0 A n c D:=h
theorem kz.below {B:Nat} (h:kz w b0 A n c D) (a:Below B w w') (b:∀g,ai A=some g->g<B):kz w' b0 A n c D:= ⟨h.1,h.2.below a b⟩
theorem kz.keeps (h:kz w b0 A n c D) (b:Below w.heap.size w w'):kz w' b0 A n c D:=h.below b λ_ a=>(h.2.lt a).2
theorem yl.below (h:yl w B A n D) (a:Below B w w'):yl w' B A n D:= ⟨h.1,h.2.below a⟩
theorem yl.more {B':Nat} (h:yl w B A n D) (a:B<=B'):yl w B' A n D:= ⟨h.1,h.2.more a⟩
theorem yl.lit (w:World) (e:El) (t:TypeId):yl (w.alloc (.cells #[.int .i64 e.1, .slice e.2.1 e.2.2.1 e.2.2.2] t)) (w.heap.size+1) (some ⟨w.heap.size,0,none⟩) 1 [e]:= ⟨rfl,λ_=> ⟨_,rfl,σ,λi hi=>by
 rw[nW]
 have h:=Ar.new w #[.int .i64 e.1, .slice e.2.1 e.2.2.1 e.2.2.2] t (m:=2) (f:=ye [e]) rfl (λi hi=>by
  obtain rfl | rfl:i=0\/i=1:=ω
  · rfl
  rfl)
 exact h.cell ω⟩⟩
theorem vQ:(Tryz.prog.info? 201).map (λi=>(i.zero,i.size,i.bytes))=some (some (.agg #[.int .i64 0, .slice none 0 0]),2,32):=by kernel_rfl
theorem JX (b0:Nat) (h:TypeId) (i:TypeInfo) (hi:Tryz.prog.info? 201 =some i) (hz:i.zero=some (.agg #[.int .i64 0, .slice none 0 0]))
  (b:i.size=2) (f:i.bytes=32) {A:ax} {n c:Nat} {l:List El} (a:kz w b0 A n c l) {B:Nat} {A':ax} {m c':Nat} {l':List El} (k:yl w B A' m l')
  (g:n+m<=1000000000000) (d:b0<=w.heap.size):
  ∃A2 c2 w2,(Builtin.append_ #[198, 198] h #[.slice A n c, .slice A' m c']).run Tryz.prog w= .ok (.slice A2 (n+m) c2) w2/\kz w2 b0 A2 (n+m) c2 (l++l')/\w.grownBy w2 (ai A)/\(ai A2=ai A\/ai A2=some w.heap.size):=by
 obtain⟨A2,c2,w2,e,p,o,h4⟩ :=iY (P:=Tryz.prog) w b0 198 h 201 i _ 2 32 Tryz.underlying198 hi hz b f rfl ω A n c _ a.2 B A' m c' _ k.2 (λj _=>a2d l' j) g ω d;exact⟨A2,c2,w2,e, ⟨by rw[ae,<-a.1,<-k.1],p.congr λj q=>by rw[a.1,a2c]⟩,o,h4⟩
theorem sO {b:Array Oper} {rest:List Oper} {o:Oper} {a:Act} {Q:Exit->Act->World->Prop} (b0:Nat) (i:TypeInfo) (j:Region.wanted o (yielded b a.tmps)=true) (s x:Operand)
  (u:o.op= .call { callee:= .builtin .append,args:= #[s,x],argTypes:= #[198, 198] }) (hi:Tryz.prog.info? 201 =some i) (hz:i.zero=some (.agg #[.int .i64 0, .slice none 0 0]))
  (d:i.size=2) (k:i.bytes=32) {A:ax} {n c:Nat} {l:List El} (r:a.eval s= .slice A n c) (g:kz w b0 A n c l)
  {B:Nat} {A':ax} {m c':Nat} {l':List El} (q:a.eval x= .slice A' m c') (t:yl w B A' m l')
  (p:n+m<=1000000000000) (e:b0<=w.heap.size)
  (h:∀A2 c2 w2,kz w2 b0 A2 (n+m) c2 (l++l')->w.grownBy w2 (ai A)->(ai A2=ai A\/ai A2=some w.heap.size)->wpList Tryz.prog b Q rest (a.put o.dst (.slice A2 (n+m) c2)) w2):wpList Tryz.prog b Q (o::rest) a w:=by
 refine wpList_step λK v=> ?_;rw[aa j];obtain⟨A2,c2,w2,f,z,y,h4⟩ :=JX b0 o.type i hi hz d k g (c':=c') t p e;unfold Oper.wp execOp;simp only [u,resolve,invoke,builtin,Sem.run_bind,Sem.run_pure,Result.andThen_ok,List.map_toArray,List.map_cons,List.map_nil,r,q,f];exact v _ _ (h A2 c2 w2 z y h4)
theorem xD {e:Array Oper} {o:Oper} {a:Act} {K:Act->World->Prop} {Q:Exit->Act->World->Prop} {E:Prop} (b0:Nat) (i:TypeInfo) (j:Region.wanted o (yielded e a.tmps)=true) (s x:Operand)
  (u:o.op= .call { callee:= .builtin .append,args:= #[s,x],argTypes:= #[198, 198] }) (hi:Tryz.prog.info? 201 =some i) (hz:i.zero=some (.agg #[.int .i64 0, .slice none 0 0]))
  (b:i.size=2) (k:i.bytes=32) {A:ax} {n c:Nat} {l:List El} (r:a.eval s= .slice A n c) (g:kz w b0 A n c l)
  {B:Nat} {A':ax} {m c':Nat} {l':List El} (q:a.eval x= .slice A' m c') (t:yl w B A' m l')
  (p:n+m<=1000000000000) (d:b0<=w.heap.size)
  (h:∀A2 c2 w2,kz w2 b0 A2 (n+m) c2 (l++l')->w.grownBy w2 (ai A)->(ai A2=ai A\/ai A2=some w.heap.size)->K (a.put o.dst (.slice A2 (n+m) c2)) w2):
  if Region.wanted o (yielded e a.tmps)=true then Oper.wp Tryz.prog o a w K Q else E:=by
 rw[aa j];obtain⟨A2,c2,w2,f,y,v,h4⟩ :=JX b0 o.type i hi hz b k g (c':=c') t p d;unfold Oper.wp execOp;simp only [u,resolve,invoke,builtin,Sem.run_bind,Sem.run_pure,Result.andThen_ok,List.map_toArray,List.map_cons,List.map_nil,r,q,f];exact h A2 c2 w2 y v h4
end
end Go.Proofs.YtgiimmkmjpbecaaGreat
