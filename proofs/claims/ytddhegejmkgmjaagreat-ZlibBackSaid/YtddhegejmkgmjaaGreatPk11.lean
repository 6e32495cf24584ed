/-
  part
-/
import Derived.Test.YtddhegejmkgmjaaGreatPk10
import Derived.Test.YtddhegejmkgmjaaGreatStep
set_option linter.unusedVariables false
set_option maxRecDepth 100000
set_option maxHeartbeats 8000000
namespace Go.Proofs.YtddhegejmkgmjaaGreat
open Go.RowKit
theorem Td (g n c:Nat) (i:n<=1000):∀K,ZY g n c K:=by
 intro K
 induction K with
 | zero=>intro w a X U V Y D A M B hD h b hA d e l k m j o;omega
 | succ K p=>
   intro w a X U V Y D A M B hD h b hA d e l k f m j o;by_cases r:U.length=1
   · obtain⟨u,rfl⟩ :∃u,U=[u]:=by
      cases U with
      | nil=>simp at m
      | cons u U=>cases U with
        | nil=>exact⟨u,rfl⟩
        | cons t U=>simp at r
     exact PG w a g n c X V Y D u (by rw[hD];rfl) h i b A M B hA (by simpa using d) e k j f
   · by_cases q:V.length=1
     · obtain⟨v,rfl⟩ :∃v,V=[v]:=by
        cases V with
        | nil=>simp at j
        | cons v V=>cases V with
          | nil=>exact⟨v,rfl⟩
          | cons s V=>simp at q
       exact PH w a g n c X U Y D v (by rw[hD];rfl) h i b A M B hA d (by simpa using e) l ω f
     · exact PI K w a g n c p X U V Y D A M B hD h i b hA d e l k f ω ω o
theorem Iy (w:World) (A:Option Addr) (n c a:Nat) (b:a<=1000) (F:Value):
  Calls Tryz.prog 139 #[.slice A n c, .int .i64 a, .int .i64 a,F] w λe w'=>e= .returned (.tuple #[])/\w=w':=by
 have f:¬(a:Int)+1<(a:Int):=ω;have d:(0:Int)<=a/\(a:Int)<=1000:=ω;go_enter Tryz.func139,Tryz.ntmps139
 go_wp2_with fail
 go_loopg [8] 0 (λ(_:Nat) (v:Value) wr=>v= .int .i64 ((a:Int)+1)/\wr=w)
 case atStart=>exact⟨rfl,rfl⟩
 case round=>
  obtain⟨rfl,rfl⟩ :=hrel
  go_wp2_with fail
  go_end0
  exact⟨rfl,rfl⟩
def LY (a:World) (g n:Nat) (b:List El) (e:Ending) (w':World):Prop:=∃D,e= .returned (.tuple #[])/\Dt a g n D w'/\dy D/\D.Perm b
def ZU (c:World) (g n:Nat) (f:List El) (k:Nat) (e d:Value) (wr:World):Prop:=
 ∃(P R:List El) (a b:Nat),e= .int .i64 a/\d= .int .i64 b/\Hid (P.length=a)/\b=a+20/\Hid (Pre 20 P)/\Dt c g n (P++R) wr/\Hid ((P++R).Perm f)/\Hid (k=R.length)/\a+R.length=n/\Hid (Sep P R/\J1 R)
def ZV (a:World) (g n:Nat) (c:List El) (k:Nat) (b:Value) (wr:World):Prop:=
 ∃(D:List El) (s:Nat),b= .int .i64 s/\20<=s/\s<=2000/\Hid (EB s D)/\Dt a g n D wr/\Hid (D.Perm c)/\Hid (k=n-s)
def ZW (c:World) (g n:Nat) (f:List El) (s:Nat) (k:Nat) (e d:Value) (wr:World):Prop:=
 ∃(P R:List El) (a b:Nat),e= .int .i64 a/\d= .int .i64 b/\Hid (P.length=a)/\b=a+2*s/\Hid (Pre (2*s) P)/\Hid (EB s R)/\Dt c g n (P++R) wr/\Hid ((P++R).Perm f)/\Hid (k=R.length)/\a+R.length=n/\Hid (Sep P R)
def StZ (a:World) (g n:Nat) (b:List El) (wx:World):Prop:=∃D,Dt a g n D wx/\EB 20 D/\D.Perm b
theorem GJ (w i:World) (g n c:Nat) (l:List El) (h:Dt i g n l w) (hn:n<=1000) (I:Sm l) (zD:J1 l):
  Calls Tryz.prog 137 #[.slice (some ⟨g,0,none⟩) n c, .int .i64 n,ov] w (LY i g n l):=by
 have al:∀(w:World) (X H Y:List El) (a b:Nat),Dt i g n (X++(H++Y)) w->(X++(H++Y)).Perm l->X.length=a->X.length+H.length=b->0<H.length->J1 H->
  Calls Tryz.prog 139 #[.slice (some ⟨g,0,none⟩) n c, .int .i64 a, .int .i64 b, .func (.func 131) #[] #[]] w (gM i g n X H Y):=λw X H Y a b h1 h2 h3 h4 h5 h6=>by
   have:=SC w i g n c X H Y _ rfl h1 hn (I.perm h2) h5 h6;rw[h3]at this h4;rw[h4]at this;exact this
 have ac:∀(w:World) (X U V Y:List El) (A M B:Nat),Dt i g n (X++(U++(V++Y))) w->(X++(U++(V++Y))).Perm l->X.length=A->A+U.length=M->M+V.length=B->dy U->dy V->Sep U V->0<U.length->0<V.length->
  Calls Tryz.prog 140 #[.slice (some ⟨g,0,none⟩) n c, .int .i64 A, .int .i64 M, .int .i64 B, .func (.func 131) #[] #[]] w (gM i g n X (U++V) Y):=λw X U V Y A M B h1 h2 h3 h4 h5 h6 h7 h8 h9 aA=>Td g n c hn _ w i X U V Y _ A M B rfl h1 (I.perm h2) h3 h4 h5 h6 h7 h8 h9 aA (Nat.le_refl _)
 have Zo:=η al;have ZE:=η ac;have E:=h.len;have HN:=η hn;have G:Hid (ZU i g n l n (.int .i64 0) (.int .i64 20) w):= ⟨[],l,0,20,rfl,rfl,rfl,rfl,Pre.br _,h,List.Perm.refl _,E.symm,ω, ⟨Sep.nil' _,zD⟩⟩;have rE:(0:Int)<=n/\(n:Int)<=1000:=ω;clear al ac E h hn I zD;unfold ov;go_enter Tryz.func137,Tryz.ntmps137
 go_wp2_with fail
 go_loopg [7,8] n (ZU i g n l)
 case atStart=>exact G.out
 case round=>
  clear G;obtain⟨P,R,a,b,rfl,rfl,v,t,C,h,j,hk,f,r⟩ :=hrel;have sq:(0:Int)<=a/\(0:Int)<=b/\(a:Int)<=1000/\(b:Int)<=2000/\(a:Int)+20=(b:Int):=ω;by_cases O:b<=n
  · have RO:(b:Int)<=(n:Int):=ω;obtain⟨U,Y,o,hU⟩ :∃U Y,R=U++Y/\U.length=20:= ⟨R.take 20,R.drop 20,(List.take_append_drop ..).symm,by rw[List.length_take];omega⟩;have K:=η (Zo.out wr P U Y a b (by rw[<-o];exact h) (by rw[<-o];exact j.out) v.out (by have:=v.out;omega) ω (Hs.1 (by rw[<-o];exact r.out.2)).1);have x:=η (⟨t,o,hU,f⟩ :b=a+20/\R=U++Y/\U.length=20/\a+R.length=n);clear o hU h t f O
    go_wp2_with fail
    refine K.out.mono ?_;rintro e w5 ⟨Z,rfl,h5,k,d⟩;obtain⟨b2,m⟩ :=ν (b+20);have nY:(b:Int)+20=(b2:Int):=ω;have J4:=η m;clear m
    go_wp2_with fail
    go_roundg Y.length
    case measure=>have:=hk.out;have:=x.out;have h9:=congrArg List.length x.out.2.1;rw[List.length_append]at h9;omega
    case rel=>
     obtain⟨t,o,hU,f⟩ :=x.out;have L:Z.length=20:=by rw[d.length_eq];exact hU
     refine⟨P++Z,Y,b,b2,rfl,rfl,by show _=_;rw[List.length_append,v.out];omega,J4.out.symm,C.out.more L k (r.out.1.sub (λp hp=>hp) λp hp=>by rw[o];exact List.mem_append_left _ (d.mem_iff.1 hp)),by rw[List.append_assoc];exact h5, ?_,rfl, ?_, ?_⟩
     · show _
       rw[List.append_assoc];refine(List.Perm.append_left _ (List.Perm.append_right _ d)).trans ?_;rw[<-o];exact j.out
     · have h9:=congrArg List.length o;rw[List.length_append]at h9;omega
     · have RH:=Hs.1 (show J1 (U++Y) by rw[<-o];exact r.out.2);exact⟨Sep.app (r.out.1.sub (λp hp=>hp) λp hp=>by rw[o];exact List.mem_append_right _ hp) (RH.2.2.perm d (List.Perm.refl _)),RH.2.1⟩
  · have RO:¬(b:Int)<=(n:Int):=ω;have Q:R.length<20:=ω;have HR:=η (⟨Q,f⟩ :R.length<20/\a+R.length=n);clear t Q f O
    go_upto_region 6 with fail
    go_cut [] (λwx=>StZ i g n l wx)
    case first=>
     obtain⟨Q,f⟩ :=HR.out;by_cases Nd:R.length=0
     · have o:R=[]:=List.eq_nil_of_length_eq_zero Nd;subst o;have ao:a=n:=by simpa using f
       subst ao;have HI:=η (λw F=>Iy w (some ⟨g,0,none⟩) a c a HN.out F)
       have hz:StZ i g a l wr:=by
        refine⟨P,by rw[List.append_nil]at h;exact h, ?_,by have:=j.out;rwa [List.append_nil]at this⟩;have:=C.out [] (.last (Nat.zero_le _) dy.br) (Sep.br _)
        rwa [List.append_nil]at this
       have HZ:=η hz;clear Q f hz h Nd
       go_wp2_with fail
       refine(HI.out _ _).mono ?_;rintro e w5 ⟨rfl,rfl⟩
       go_wp2_with fail
       go_meet
       exact HZ.out
     · have K:=η (Zo.out wr P R [] a n (by rw[List.append_nil];exact h) (by rw[List.append_nil];exact j.out) v.out (by have:=v.out;omega) ω r.out.2);have J9:=η Q;clear Q f h Nd
       go_wp2_with fail
       refine K.out.mono ?_;rintro e w5 ⟨Z,rfl,h5,k,d⟩
       go_wp2_with fail
       go_meet
       rw[List.append_nil]at h5;refine⟨P++Z,h5,C.out _ (.last (by rw[d.length_eq];have:=J9.out;omega) k) (r.out.1.perm (List.Perm.refl _) d), ?_⟩;exact(List.Perm.append_left _ d).trans j.out
    case rest=>
     obtain⟨D,h,u,NY⟩ :=hcut;have G:Hid (ZV i g n l (n-20) (.int .i64 20) wc):= ⟨D,20,rfl,Nat.le_refl _,ω,u,h,NY,rfl⟩;clear h u NY v C j hk HR RO sq r
     go_wp2_with fail
     go_loopg [6] (n-20) (ZV i g n l)
     case atStart=>exact G.out
     case round=>
      clear G;obtain⟨D,s,rfl,Xv,J,u,h,j,hk⟩ :=hrel;by_cases xK:s<n
      · have Xy:(s:Int)<(n:Int):=ω;obtain⟨q,Iw⟩ :=ν (2*s);have aC:2*(s:Int)=(q:Int):=ω;have ab:(s:Int)*2=(q:Int):=ω;have aI:(20:Int)<=s/\(s:Int)<=1000/\(q:Int)<=2000/\(0:Int)<=q:=ω;have Ls:=h.len;have G:Hid (ZW i g n l s n (.int .i64 0) (.int .i64 q) wr):= ⟨[],D,0,q,rfl,rfl,rfl,ω,Pre.br _,u.out,h,j.out,Ls.symm,ω,Sep.nil' _⟩;have N:=η (⟨Xv,J,xK,Iw⟩ :_/\_/\_/\_);clear Xv J xK Iw u h j Ls
        go_wp2_with fail
        go_loopg [7,8] n (ZW i g n l s)
        case atStart=>exact G.out
        case round=>
         clear G;obtain⟨P,R,a,b,rfl,rfl,v,t,C,u,h,j,an,f,r⟩ :=hrel;have z:=N.out;obtain⟨M,S⟩ :=ν (a+s);have aE:(a:Int)+(s:Int)=(M:Int):=ω;have sq:(0:Int)<=a/\(a:Int)<=1000/\(0:Int)<=b/\(b:Int)<=3000/\(0:Int)<=M/\(M:Int)<=3000:=ω;by_cases O:b<=n
         · have RO:(b:Int)<=(n:Int):=ω;obtain⟨c1,R1,e1,W,T,k1,q1⟩ :=u.out.head ω;have ad:s<=R1.length:=by have:=congrArg List.length e1;rw[List.length_append]at this;omega
           obtain⟨c2,R2,e2,l2,y,k2,q2⟩ :=k1.head ad;subst e1 e2;have K:=η (ZE.out _ P c1 c2 R2 a M b h j.out v.out ω ω T y (q1.sub (λp hp=>hp) λp hp=>List.mem_append_left _ hp) ω ω);obtain⟨b2,m⟩ :=ν (b+q);have nY:(b:Int)+(q:Int)=(b2:Int):=ω;have x:=η (⟨t,S,m,W,l2,k2,f⟩ :_/\_/\_/\_/\_/\_/\_);clear t S m W l2 k2 f T y ad h O k1 z
           go_wp2_with fail
           refine K.out.mono ?_;rintro e w5 ⟨Z,rfl,h5,k,d⟩
           go_wp2_with fail
           go_roundg R2.length
           case measure=>have h1:=an.out;simp only [List.length_append]at h1;have:=x.out;have:=N.out;omega
           case rel=>
            obtain⟨t,S,m,W,l2,k2,f⟩ :=x.out;have L:Z.length=2*s:=by rw[d.length_eq,List.length_append];omega
            have z:=N.out;have uN:∀p∈c1++c2,p∈c1++(c2++R2):=λp hp=>by rw[<-List.append_assoc];exact List.mem_append_left _ hp
            refine⟨P++Z,R2,b,b2,rfl,rfl,by show _=_;rw[List.length_append,v.out];omega,ω,C.out.more L k (r.out.sub (λp hp=>hp) λp hp=>uN p (d.mem_iff.1 hp)),k2,by rw[List.append_assoc];exact h5, ?_,rfl, ?_, ?_⟩
            · show _
              rw[List.append_assoc];refine(List.Perm.append_left _ (List.Perm.append_right _ d)).trans ?_;rw[List.append_assoc];exact j.out
            · simp only [List.length_append]at f;omega
            · refine Sep.app (r.out.sub (λp hp=>hp) λp hp=>List.mem_append_right _ (List.mem_append_right _ hp)) (Sep.perm (U:=c1++c2) (V:=R2) (Sep.app ?_ q2) d (List.Perm.refl _));exact q1.sub (λp hp=>hp) λp hp=>List.mem_append_right _ hp
         · have RO:¬(b:Int)<=(n:Int):=ω;have x:=η (⟨t,S,f,ω⟩ :b=a+2*s/\a+s=M/\a+R.length=n/\R.length<2*s);by_cases ah:M<n
           · have ap:(M:Int)<(n:Int):=ω;obtain⟨c1,R1,e1,W,T,k1,q1⟩ :=u.out.head ω;subst e1;rw[List.length_append]at f;have y:dy R1:=k1.pD ω;have K:=η (ZE.out _ P c1 R1 [] a M n (by rw[List.append_nil];exact h) (by rw[List.append_nil];exact j.out) v.out ω ω T y q1 ω ω);clear t S f O z ah W T k1 y h
             go_wp2_with fail
             refine K.out.mono ?_;rintro e w5 ⟨Z,rfl,h5,k,d⟩
             go_wp2_with fail
             go_roundg (n-q)
             case measure=>have:=hk.out;have:=N.out;omega
             case rel=>
              have z:=N.out;rw[List.append_nil]at h5;refine⟨P++Z,q,by rw[<-ab],ω,ω, ?_,h5,(List.Perm.append_left _ d).trans j.out,rfl⟩;show EB _ _
              rw[<-z.2.2.2];exact C.out _ (.last (by rw[d.length_eq];have:=x.out;omega) k) (r.out.perm (List.Perm.refl _) d)
           · have ap:¬(M:Int)<(n:Int):=ω;have y:dy R:=u.out.pD ω;have HX:=η (⟨y,h⟩ :_/\_);clear t S f O z ah y h
             go_wp2_with fail
             go_roundg (n-q)
             case measure=>have:=hk.out;have:=N.out;omega
             case rel=>
              have z:=N.out;refine⟨P++R,q,by rw[<-ab],ω,ω, ?_,HX.out.2,j.out,rfl⟩;show EB _ _
              rw[<-z.2.2.2];exact C.out _ (.last (by have:=x.out;omega) HX.out.1) r.out
      · have Xy:¬(s:Int)<(n:Int):=ω;have am:dy D:=u.out.pD (by rw[h.len];omega);clear xK Xv J
        go_wp2_with fail
        go_end0
        exact⟨D,rfl,h,am,j.out⟩
theorem GK (w:World) (F:Value):
  Calls Tryz.prog 137 #[.slice none 0 0, .int .i64 0,F] w λe w'=>e= .returned (.tuple #[])/\w=w':=by
 have a:=η (λw F=>Iy w none 0 0 0 ω F);go_enter Tryz.func137,Tryz.ntmps137
 go_wp2_with fail
 go_loopg [7,8] 0 (λ(_:Nat) (v7 v8:Value) wr=>v7= .int .i64 0/\v8= .int .i64 20/\wr=w)
 case atStart=>exact⟨rfl,rfl,rfl⟩
 case round=>
  obtain⟨rfl,rfl,rfl⟩ :=hrel
  go_wp2_with fail
  refine(a.out _ _).mono ?_;rintro e b ⟨rfl,rfl⟩
  go_wp2_with fail
  go_loopg [6] 0 (λ(_:Nat) (v6:Value) wx=>v6= .int .i64 20/\wx=wr)
  case atStart=>exact⟨rfl,rfl⟩
  case round=>
   obtain⟨rfl,rfl⟩ :=hrel
   go_wp2_with fail
   go_end0
   exact⟨rfl,rfl⟩
theorem VH (D:List El) (i:Nat):(sK D i).oneCell'=true:=by
 unfold sK sv
 split <;> rfl
theorem VG (D E:List El) (i:Nat):cat (D.length*2) (sK D) (sK E) i=sK (D++E) i:=by
 have e:sK (D++E) i=if i<D.length*2 then sK D i else sK E (i-D.length*2):=by
  by_cases h:i<D.length*2
  · have b:i/2<D.length:=ω;have a:el (D++E) (i/2)=el D (i/2):=si b;rw[if_pos h];unfold sK;rw[a]
  · have b:D.length<=i/2:=ω;have a:el (D++E) (i/2)=el E (i/2-D.length):=ln b;have c:(i-D.length*2)/2=i/2-D.length:=ω;have h4:(i-D.length*2)%2=i%2:=ω;rw[if_neg h];unfold sK;rw[a,c,h4]
 rw[e];rfl
def sQ (w:World) (B:Nat) (A:Option Addr) (n:Nat) (D:List El):Prop:=n=D.length/\Rd w B A (n*2) (sK D)
def eV (w:World) (b0:Nat) (A:Option Addr) (n c:Nat) (D:List El):Prop:=n=D.length/\Own w b0 155 2 A n c (sK D)
section
variable {w w':World} {b0 B n c:Nat} {A:Option Addr} {D:List El}
theorem eV.rd (h:eV w b0 A n c D):sQ w w.heap.size A n D:= ⟨h.1,h.2.rd⟩
theorem eV.br:eV w b0 none 0 0 []:= ⟨rfl,Own.br⟩
theorem eV.alloc (h:eV w b0 A n c D) (o:Obj):eV (w.alloc o) b0 A n c D:= ⟨h.1,h.2.alloc o⟩
theorem eV.drew (h:eV w b0 A n c D):eV w.drew b0 A n c D:=h
theorem eV.drewN (h:eV w b0 A n c D) (q:Nat):eV (w.drewN q) b0 A n c D:=h
theorem eV.below {B:Nat} (h:eV w b0 A n c D) (a:Below B w w') (b:∀g,aa A=some g->g<B):eV w' b0 A n c D:= ⟨h.1,h.2.below a b⟩
theorem eV.keeps (h:eV w b0 A n c D) (b:Below w.heap.size w w'):eV w' b0 A n c D:=h.below b λ_ a=>(h.2.lt a).2
theorem eV.more {b1:Nat} (h:eV w b0 A n c D) (a:b1<=b0):eV w b1 A n c D:= ⟨h.1,h.2.more a⟩
theorem sQ.below (h:sQ w B A n D) (a:Below B w w'):sQ w' B A n D:= ⟨h.1,h.2.below a⟩
theorem sQ.more {B':Nat} (h:sQ w B A n D) (a:B<=B'):sQ w B' A n D:= ⟨h.1,h.2.more a⟩
theorem sQ.lit (w:World) (e:El) (t:TypeId):sQ (w.alloc (.cells #[.int .i64 e.1, .slice e.2.1 e.2.2.1 e.2.2.2] t)) (w.heap.size+1) (some ⟨w.heap.size,0,none⟩) 1 [e]:= ⟨rfl,λ_=> ⟨_,rfl,σ,λi hi=>by
 rw[kA]
 have h:=Ar.new w #[.int .i64 e.1, .slice e.2.1 e.2.2.1 e.2.2.2] t (m:=2) (f:=sK [e]) rfl (λi hi=>by
  obtain rfl | rfl:i=0\/i=1:=ω
  · rfl
  · rfl)
 exact h.cell ω⟩⟩
theorem qA:(Tryz.prog.info? 155).map (λi=>(i.zero,i.size,i.bytes))=some (some (.agg #[.int .i64 0, .slice none 0 0]),2,32):=by kernel_rfl
theorem DA (b0:Nat) (k:TypeId) (i:TypeInfo) (hi:Tryz.prog.info? 155 =some i) (p:i.zero=some (.agg #[.int .i64 0, .slice none 0 0]))
  (b:i.size=2) (g:i.bytes=32) {A:Option Addr} {n c:Nat} {l:List El} (a:eV w b0 A n c l) {B:Nat} {A':Option Addr} {m c':Nat} {l':List El} (o:sQ w B A' m l')
  (h:n+m<=1000000000000) (d:b0<=w.heap.size):
  ∃e c2 w2,(Builtin.append_ #[152, 152] k #[.slice A n c, .slice A' m c']).run Tryz.prog w= .ok (.slice e (n+m) c2) w2/\eV w2 b0 e (n+m) c2 (l++l')/\w.grownBy w2 (aa A)/\(aa e=aa A\/aa e=some w.heap.size):=by
 obtain⟨e,c2,w2,f,r,q,h4⟩ :=fj (P:=Tryz.prog) w b0 152 k 155 i _ 2 32 Tryz.underlying152 hi p b g rfl ω A n c _ a.2 B A' m c' _ o.2 (λj _=>VH l' j) h ω d;exact⟨e,c2,w2,f, ⟨by rw[List.length_append,<-a.1,<-o.1],r.congr λj s=>by rw[a.1,VG]⟩,q,h4⟩
theorem nP {b:Array Oper} {rest:List Oper} {o:Oper} {a:Act} {Q:Exit->Act->World->Prop} (b0:Nat) (i:TypeInfo) (k:Region.wanted o (yielded b a.tmps)=true) (s x:Operand)
  (y:o.op= .call { callee:= .builtin .append,args:= #[s,x],argTypes:= #[152, 152] }) (hi:Tryz.prog.info? 155 =some i) (r:i.zero=some (.agg #[.int .i64 0, .slice none 0 0]))
  (d:i.size=2) (p:i.bytes=32) {A:Option Addr} {n c:Nat} {l:List El} (u:a.eval s= .slice A n c) (j:eV w b0 A n c l)
  {B:Nat} {A':Option Addr} {m c':Nat} {l':List El} (t:a.eval x= .slice A' m c') (v:sQ w B A' m l')
  (q:n+m<=1000000000000) (e:b0<=w.heap.size)
  (h:∀f c2 w2,eV w2 b0 f (n+m) c2 (l++l')->w.grownBy w2 (aa A)->(aa f=aa A\/aa f=some w.heap.size)->wpList Tryz.prog b Q rest (a.put o.dst (.slice f (n+m) c2)) w2):wpList Tryz.prog b Q (o::rest) a w:=by
 refine wpList_step λK z=> ?_
 rw[if_pos k];obtain⟨f,c2,w2,g,D,C,h4⟩ :=DA b0 o.type i hi r d p j (c':=c') v q e;unfold Oper.wp execOp;simp only [y,resolve,invoke,builtin,Sem.run_bind,Sem.run_pure,Result.andThen_ok,List.map_toArray,List.map_cons,List.map_nil,u,t,g];exact z _ _ (h f c2 w2 D C h4)
theorem rS {f:Array Oper} {o:Oper} {a:Act} {K:Act->World->Prop} {Q:Exit->Act->World->Prop} {E:Prop} (b0:Nat) (i:TypeInfo) (k:Region.wanted o (yielded f a.tmps)=true) (s x:Operand)
  (y:o.op= .call { callee:= .builtin .append,args:= #[s,x],argTypes:= #[152, 152] }) (hi:Tryz.prog.info? 155 =some i) (r:i.zero=some (.agg #[.int .i64 0, .slice none 0 0]))
  (b:i.size=2) (p:i.bytes=32) {A:Option Addr} {n c:Nat} {l:List El} (u:a.eval s= .slice A n c) (j:eV w b0 A n c l)
  {B:Nat} {A':Option Addr} {m c':Nat} {l':List El} (t:a.eval x= .slice A' m c') (v:sQ w B A' m l')
  (q:n+m<=1000000000000) (d:b0<=w.heap.size)
  (h:∀e c2 w2,eV w2 b0 e (n+m) c2 (l++l')->w.grownBy w2 (aa A)->(aa e=aa A\/aa e=some w.heap.size)->K (a.put o.dst (.slice e (n+m) c2)) w2):
  if Region.wanted o (yielded f a.tmps)=true then Oper.wp Tryz.prog o a w K Q else E:=by
 rw[if_pos k];obtain⟨e,c2,w2,g,C,z,h4⟩ :=DA b0 o.type i hi r b p j (c':=c') v q d;unfold Oper.wp execOp;simp only [y,resolve,invoke,builtin,Sem.run_bind,Sem.run_pure,Result.andThen_ok,List.map_toArray,List.map_cons,List.map_nil,u,t,g];exact h e c2 w2 C z h4
end
end Go.Proofs.YtddhegejmkgmjaaGreat
