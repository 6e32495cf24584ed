/-
  part
-/
import Derived.Test.YtddhegejmkgmjaaGreatPk6
import Derived.Test.YtddhegejmkgmjaaGreatPk7
import Derived.Deep.DeepCutAuto
import Derived.BigFrame
namespace Go.Proofs.YtddhegejmkgmjaaGreat
open Go.RowKit
set_option linter.unusedVariables false
set_option maxRecDepth 100000
set_option maxHeartbeats 4000000
theorem L0:(Tryz.prog.info? 3).map (λi=>(i.zero,i.size,i.bytes))=some (some (.int .i64 0),1,8):=by kernel_rfl
def BD (Al:Option Addr) (nl cl:Nat) (c:Option Addr) (a cc:Nat) (f:Nat->Int) (As:Option Addr) (ns cs:Nat) (b:Int) (i:Nat):Value:=
 if i=0 then .slice Al nl cl else if i=1 then .slice c a cc else if i=18 then .slice As ns cs else if i=19 then .int .i64 b else .int .i64 (f (i-2))
def cf (l:List Int) (n i m:Nat):Int:=if m=0 then 0 else if m<n then cnt l l.length m else if m=n then cnt l i n else 0
theorem Mn {l:List Int} {n i:Nat} (c:1<=n) (h:ix l i=(n:Int)) (m:Nat):(if m=n then cf l n i n+1 else cf l n i m)=cf l n (i+1) m:=by
 by_cases e:m=n
 · subst e;rw[if_pos rfl];unfold cf;rw[if_neg ω,if_neg ω,if_pos rfl,if_neg ω,if_neg ω,if_pos rfl];simp [cnt,h]
 · rw[if_neg e];unfold cf;by_cases b:m=0
   · rw[if_pos b,if_pos b]
   · rw[if_neg b,if_neg b];by_cases a:m<n
     · rw[if_pos a,if_pos a]
     · rw[if_neg a,if_neg a,if_neg e,if_neg e]
theorem R6 {l:List Int} {n i:Nat} (h:¬ix l i=(n:Int)) (m:Nat):cf l n i m=cf l n (i+1) m:=by
 unfold cf;have:cnt l (i+1) n=cnt l i n:=by simp [cnt,h]
 rw[this]
theorem R8 (l:List Int) (n m:Nat):cf l n l.length m=cf l (n+1) 0 m:=by
 unfold cf;by_cases a:m=0
 · rw[if_pos a,if_pos a]
 · rw[if_neg a,if_neg a];by_cases c:m<n
   · rw[if_pos c,if_pos ω]
   · rw[if_neg c];by_cases b:m=n
     · subst b;rw[if_pos rfl,if_pos ω]
     · rw[if_neg b,if_neg ω]
       split <;> simp [cnt]
def Qz (l:List Int) (n i:Nat):Nat:=if cnt l i n=0 then o0 l (n-1)else n
theorem SJ {l:List Int} {n i:Nat} (h:ix l i=(n:Int)):Qz l n (i+1)=n:=by unfold Qz;rw[if_neg (by simp [cnt,h])]
theorem OB {l:List Int} {n i:Nat} (h:¬ix l i=(n:Int)):Qz l n (i+1)=Qz l n i:=by
 unfold Qz;have:cnt l (i+1) n=cnt l i n:=by simp [cnt,h]
 rw[this]
theorem OC (l:List Int) {n:Nat} (a:1<=n):Qz l n l.length=Qz l (n+1) 0:=by
 unfold Qz;rw[if_pos (show cnt l 0 (n+1)=0 from rfl)];obtain⟨m,rfl⟩ :∃m,n=m+1:= ⟨n-1,ω⟩;simp only [Nat.add_sub_cancel];rfl
theorem PA (l:List Int) {n:Nat} (a:1<=n):pD l (n-1)++idxs l n l.length=pD l n:=by
 obtain⟨m,rfl⟩ :∃m,n=m+1:= ⟨n-1,ω⟩;rfl
def QU (a:World) (g b c:Nat) (Al:Option Addr) (cl cc:Nat) (l:List Int) (n i:Nat) (w:World):Prop:=
 ∃(As:Option Addr) (ns cs:Nat),Ar w g 20 (BD Al l.length cl (some ⟨c,0,none⟩) l.length cc (cf l n i) As ns cs (Qz l n i))/\aT .i64 w b Al l.length l/\aT .u32 w b (some ⟨c,0,none⟩) l.length (eh l)/\
  ag .i64 w b 3 As ns cs (pD l (n-1)++idxs l n i)/\g=b/\a.heap.size<=c/\(∀q,aa Al=some q->a.heap.size<=q)/\aa As≠some g/\a.heap.size<=g/\Below a.heap.size a w
def Vw (a:World) (g b c:Nat) (Al:Option Addr) (cl cc:Nat) (l:List Int) (s8 _a _b:Value) (w:World):Prop:=
 ∃n:Nat,1<=n/\n<=16/\s8= .int .i64 n/\QU a g b c Al cl cc l n 0 w
def TE (a:World) (g b c:Nat) (Al:Option Addr) (cl cc:Nat) (l:List Int) (n:Nat) (_a _b s30:Value) (w:World):Prop:=
 ∃i:Nat,i<=l.length/\s30= .int .i64 i/\QU a g b c Al cl cc l n i w
def sT (w:World) (b0 B g:Nat) (l:List Int):Prop:=
 ∃(Al a As:Option Addr) (cl cc cs:Nat),Ar w g 20 (BD Al l.length cl a l.length cc (cf l 16 0) As (pD l 15).length cs (o0 l 15))/\aT .i64 w B Al l.length l/\aT .u32 w B a l.length (eh l)/\aT .i64 w B As (pD l 15).length (pD l 15)/\
  b0<=g/\g<B/\(∀q,aa Al=some q->b0<=q)/\(∀q,aa a=some q->b0<=q)/\(∀q,aa As=some q->b0<=q)
theorem sT.cv {w w':World} {b0 B g:Nat} {l:List Int} {S:Nat->Prop} (h:sT w b0 B g l) (d:aq w w' S) (z:B<=w.heap.size) (j:∀k,b0<=k->k<B->¬S k):sT w' b0 B g l:=by
 obtain⟨Al,y,As,cl,cc,cs,u,t,s,h4,h5,h6,h7,o,m⟩ :=h
 have a:∀{k:IntKind} {n:Nat} {A:Option Addr} {x:List Int},aT k w B A n x->(∀q,aa A=some q->b0<=q)->aT k w' B A n x:=λc r=>
  ⟨c.1,λp=>by
    obtain⟨v,e,f,b⟩ :=c.2 p;exact⟨v,e,f,λi hi=>(d.cell (by rw[aw];omega) (by rw[aw];exact j _ (r _ (by rw[e];rfl)) f)).trans (b i hi)⟩⟩
 exact⟨Al,y,As,cl,cc,cs,d.ar u (j g h5 h6),a t h7,a s o,a h4 m,h5,h6,h7,o,m⟩
theorem sT.keeps {w w':World} {b0 B g:Nat} {l:List Int} (h:sT w b0 B g l) (b:B<=w.heap.size) (a:Below w.heap.size w w'):sT w' b0 B g l:=
 h.cv (S:=λ_=>False) (aq.aB a) b λ_ _ _=>id
def J2 (w:World) (l:List Int) (e:Ending) (w':World):Prop:=
 ∃g,e= .returned (.tuple #[.pointer (some ⟨g,0,none⟩), .int .i64 0])/\sT w' w.heap.size w'.heap.size g l/\Below w.heap.size w w'
theorem C9 (w:World) (A:Option Addr) (n c B:Nat) (l:List Int) (most:Int) (b:aT .i64 w B A n l) (d:n<=1000) (h:ai l most≠0):
  Calls Tryz.prog 87 #[.slice A n c, .int .i64 most] w λe w'=>e= .returned (.tuple #[.pointer none, .int .i64 (ai l most)])/\w=w':=by
 obtain⟨E,a⟩ :=ν (ai l most);rw[a]at h⊢;have g:(E==0)=false:=by simpa using h
 have f:=η a;clear a;go_enter Tryz.func87,Tryz.ntmps87
 go_wp2_with fail
 refine(xq _ _ _ _ _ most _ b d).mono ?_;rintro e w1 ⟨rfl,rfl⟩;rw[f.out];go_wp2
 go_ret2
 exact⟨rfl,rfl⟩
theorem jt (w:World) (A:Option Addr) (n c B:Nat) (l:List Int) (most:Int) (Q:aT .i64 w B A n l) (hB:B<=w.heap.size) (hn:n<=288) (h:ai l most=0):
  Calls Tryz.prog 87 #[.slice A n c, .int .i64 most] w (J2 w l):=by
 obtain⟨i0,hi,W,V,U⟩ :=info_parts L0;have Hi:=η hi;have dM:=η W;have cV:=η V;have dN:=η U;clear hi W V U;have H0:=η h;have UC:=Q.alloc hB (.cells #[] 3);have HN:=η Q.1;clear h;go_enter Tryz.func87,Tryz.ntmps87
 go_wp2_with fail
 refine(xq _ _ _ _ _ most _ Q ω).mono ?_;rintro e w1 ⟨rfl,rfl⟩;rw[H0.out]
 go_wp2_with (at_builtin;(refine au .i64 w.heap.size 3 i0 8 rfl (.tmp 17) (.tmp 18) _ rfl Tryz.underlying51 Hi.out dM.out cV.out dN.out rfl (ag.lit rfl [] _ (Nat.le_refl _) σ) rfl UC ω ω σ ?_)
              intro o d2 w2 a R aA)
 rw[List.nil_append,Nat.zero_add]at a;have s:Below w.heap.size w w2:=((Below.refl _ w).alloc (Nat.le_refl _) _).grown R σ (by simp [aa]);have ao:aT .i64 w2 B A n l:=Q.below (s.mono hB)
 go_wp2_with fail
 refine(Mt _ _ _ _ _ (ao.more (Nat.le_trans hB s.size)) hn).mono ?_;rintro e E ⟨rfl,u,M⟩;have aC:Hid (l.length=n):=HN.out.symm;have RJ:=s.trans (M.mono s.size);have ac:=(a.keeps M).rd;have J:∀q,aa o=some q->w.heap.size<=q:=λq r=>(a.2.lt r).1
 have an:aT .i64 E B A n l:=Q.below (RJ.mono hB);have tI:=HN.out;subst tI
 have b:Ar (E.alloc (.cells #[.slice o l.length d2, .slice (some ⟨w2.heap.size+2,0,none⟩) l.length l.length, .int .i64 0, .int .i64 0, .int .i64 0, .int .i64 0, .int .i64 0, .int .i64 0, .int .i64 0, .int .i64 0, .int .i64 0, .int .i64 0, .int .i64 0, .int .i64 0, .int .i64 0, .int .i64 0, .int .i64 0, .int .i64 0, .slice none 0 0, .int .i64 0] 150)) E.heap.size 20
   (BD o l.length d2 (some ⟨w2.heap.size+2,0,none⟩) l.length l.length (cf l 1 0) none 0 0 (Qz l 1 0)):=
  Ar.new E _ _ rfl λi hi=>by
   have hz:∀m,cf l 1 0 m=0:=λm=>by unfold cf;split;rfl;split;omega;split <;> simp [cnt]
   obtain rfl | rfl | rfl | rfl | hm:i=0\/i=1\/i=18\/i=19\/(2<=i/\i<18):=ω
   · rfl
   · rfl
   · rfl
   · rfl
   · unfold BD;rw[if_neg ω,if_neg ω,if_neg ω,if_neg ω,hz];obtain rfl | rfl | rfl | rfl | rfl | rfl | rfl | rfl | rfl | rfl | rfl | rfl | rfl | rfl | rfl | rfl:i=2\/i=3\/i=4\/i=5\/i=6\/i=7\/i=8\/i=9\/i=10\/i=11\/i=12\/i=13\/i=14\/i=15\/i=16\/i=17:=ω
     all_goals rfl
 have O:QU w E.heap.size E.heap.size (w2.heap.size+2) o d2 l.length l 1 0 (E.alloc (.cells #[.slice o l.length d2, .slice (some ⟨w2.heap.size+2,0,none⟩) l.length l.length, .int .i64 0, .int .i64 0, .int .i64 0, .int .i64 0, .int .i64 0, .int .i64 0, .int .i64 0, .int .i64 0, .int .i64 0, .int .i64 0, .int .i64 0, .int .i64 0, .int .i64 0, .int .i64 0, .int .i64 0, .int .i64 0, .slice none 0 0, .int .i64 0] 150)):=
  ⟨none,0,0,b,ac.alloc (Nat.le_refl _) _,u.alloc (Nat.le_refl _) _,ag.br,rfl,by have:=s.size;omega,J,by simp [aa],RJ.size,RJ.alloc RJ.size _⟩
 clear b
 go_wp2_with fail
 obtain⟨g,R⟩ :=ν (E.heap.size);obtain⟨S,D⟩ :=ν (w2.heap.size+2);rw[R,D]at O;rw[R,D];have bk:=η D;have HG:=η R;clear R D u M ac an UC aA
 go_loopw [8,9,10] (Vw w g g S o d2 l.length l) (λs8 _ _ _=>17-(intOf s8).toNat)
 case atStart=>exact⟨1,Nat.le_refl _,ω,rfl,O⟩
 case round=>
  clear O;obtain⟨n,kW,Xb,rfl,O⟩ :=hrel;by_cases bd:n<16
  · have rE:(1:Int)<=n/\(n:Int)<=15:=ω
    go_wp2_with fail
    go_loopw [9,10,30] (TE w g g S o d2 l.length l n) (λ_ _ ah _=>l.length-(intOf ah).toNat)
    case atStart=>exact⟨0,Nat.zero_le _,rfl,O⟩
    case round=>
     clear O;obtain⟨i,hi,rfl,As,ns,cs,b,N,u,a,_,D,J,d,t,G⟩ :=hrel;by_cases K:i<l.length
     · have S3:(0:Int)<=i/\(i:Int)<(l.length:Int):=ω;obtain⟨ad,rfl,be,c1⟩ :=(Q.below (G.mono hB)).at_ K;obtain⟨x,P⟩ :=ν (ix l i);rw[P]at c1;by_cases wE:x=(n:Int)
       · subst wE;have F:ix l i=(n:Int):=P;have e1:Hid (idxs l n (i+1)=idxs l n i++[(i:Int)]):=by show _=_;rw[xN,if_pos F]
         obtain⟨C,hC⟩ :=ν (cf l n i n:Int);have bi:0<=C/\C<=288:=by rw[<-hC];unfold cf;have:=gS l i n;split;omega;split;omega;split <;> omega
         have k2:=b.cell (i:=2+n) ω;have al:=b.cell (i:=18) ω;have z2:=b.frozen' (i:=2+n) ω;have aI:=b.frozen' (i:=18) ω;have aE:=b.frozen' (i:=19) ω
         have t2:∀f As ns cs T,BD o l.length d2 (some ⟨S,0,none⟩) l.length l.length f As ns cs T (2+n)= .int .i64 (f n):=λf As ns cs T=>by
          unfold BD;rw[if_neg ω,if_neg ω,if_neg ω,if_neg ω,Nat.add_sub_cancel_left]
         have H:∀f As ns cs T,BD o l.length d2 (some ⟨S,0,none⟩) l.length l.length f As ns cs T 18= .slice As ns cs:=λf As ns cs T=>rfl
         rw[t2,hC]at k2;rw[H]at al;have ew:IntKind.i64.wrap (C+1)=C+1:=by rw[IntWalk.i64_in _ ω]
         have zC:=b.drew.aQ (i:=2+n) ω (.int .i64 (C+1));have a7p:(wr.drew.setCell ⟨g,2+n,none⟩ (.int .i64 (C+1))).cell? ⟨g,18,none⟩ =some (.slice As ns cs):=by rw[zC.cell (i:=18) ω,bm _ _ ω,H]
         have a7w:=zC.frozen' (i:=18) ω;have a7y:=zC.frozen' (i:=19) ω;have iX:=zC.alloc (.cells #[.int .i64 i] 3);have a7q:((wr.drew.setCell ⟨g,2+n,none⟩ (.int .i64 (C+1))).alloc (.cells #[.int .i64 i] 3)).cell? ⟨g,18,none⟩ =some (.slice As ns cs):=by rw[iX.cell (i:=18) ω,bm _ _ ω,H]
         have I:=(a.drew.far (p:= ⟨g,2+n,none⟩) d (.int .i64 (C+1))).alloc (.cells #[.int .i64 i] 3)
         have Xd:ns+1<=1000000000000:=by
          have:=a.1;rw[List.length_append,lX,jW]at this;have h1:=BZ l (n-1);have h2:=gS l i n;have h3:(n-1)*l.length<=15*288:=Nat.mul_le_mul ω ω;omega
         have HX:=η P;have HC:=η hC;have Qp:g+1<=wr.heap.size:=b.lt;clear P hC
         go_wp2_with fail
         go_cut [] (λwx=>wx=wr.drew.setCell ⟨g,2+n,none⟩ (.int .i64 (C+1)))
         case first=>
          go_region
          all_goals
           go_wp2_with fail
           go_meet
           rfl
         case rest=>
          subst hcut;have aS:=aT.SK .i64 (w:=wr.drew.setCell ⟨g,2+n,none⟩ (.int .i64 (C+1))) (g:=wr.heap.size) (by simp [World.setCell]) [(i:Int)] 3;have L:g<=((wr.drew.setCell ⟨g,2+n,none⟩ (.int .i64 (C+1))).alloc (.cells #[.int .i64 i] 3)).heap.size:=by simp [World.setCell];omega
          go_wp2_with (at_builtin;go_must (refine au .i64 g 3 i0 8 rfl (.tmp 52) (.tmp 54) _ rfl Tryz.underlying51 Hi.out dM.out cV.out dN.out rfl I rfl aS Xd ω L ?_)
                       intro A5 c5 w5 dh jC eJ;have dH:=iX.grown jC (λe=>d e.symm);have a7x:=dH.frozen' (i:=18) ω;have a5q:=dH.cell (i:=18) ω;have a5r:=dH.cell (i:=19) ω;rw[bm _ _ ω]at a5q a5r;have a7z:=dH.frozen' (i:=19) ω)
          go_roundw
          case rel=>
           have Cv:aa A5≠some g:=by
            rcases eJ with e | e
            · rw[e];exact d
            · rw[e];intro h;injection h with h;simp [World.setCell]at h;omega
           have Y:∀q,aa As=some q->w.heap.size<=q:=λq r=>Nat.le_trans t (a.2.lt r).1
           have ab:=((G.drew.setCell (p:= ⟨g,2+n,none⟩) t (.int .i64 (C+1))).alloc (by simp [World.setCell];exact G.size) (.cells #[.int .i64 i] 3))
           have Z:∀{k:IntKind} {m:Nat} {X:Option Addr} {y:List Int},aT k wr g X m y->aT k w5 g X m y:=λr=>
            r.keep λp hp=>World.cell?_of_block ((jC.block p.block (by simp [World.setCell];omega) (λe=>by have:=(a.2.lt e.symm).1;omega)).trans ((Below.heap_alloc _ _ _ (by simp [World.setCell];omega)).trans (Below.heap_setCell _ _ _ _ ξ)))
           have WQ:∀{k:IntKind} {m:Nat} {X:Option Addr} {y:List Int},aT k wr g X m y->aT k ((w5.setCell ⟨g,18,none⟩ (.slice A5 (ns+1) c5)).setCell ⟨g,19,none⟩ (.int .i64 n)) g X m y:=λr=>
            (Z r).keep λp hp=>World.cell?_of_block ((Below.heap_setCell _ _ _ _ ξ).trans (Below.heap_setCell _ _ _ _ ξ))
           refine⟨i+1,K,by go_num,A5,ns+1,c5,((dH.aQ (i:=18) ω _).aQ (i:=19) ω _).congr λj hj=> ?_,WQ N,WQ u, ?_,rfl,D,J,Cv,t, ?_⟩
           · rw[SJ F];by_cases v:j=19
             · subst v;rw[upd_same];rfl
             · rw[bm _ _ v];by_cases z:j=18
               · subst z;rw[upd_same];rfl
               · rw[bm _ _ z];by_cases j2:j=2+n
                 · subst j2;rw[upd_same,t2,<-Mn kW F,if_pos rfl,HC.out]
                 · rw[bm _ _ j2];unfold BD;by_cases j0:j=0
                   · rw[if_pos j0,if_pos j0]
                   · rw[if_neg j0,if_neg j0];by_cases j1:j=1
                     · rw[if_pos j1,if_pos j1]
                     · rw[if_neg j1,if_neg j1,if_neg z,if_neg z,if_neg v,if_neg v,<-Mn kW F,if_neg ω]
           · rw[e1.out,<-List.append_assoc];exact(dh.far (p:= ⟨g,18,none⟩) Cv _).far (p:= ⟨g,19,none⟩) Cv _
           · exact((ab.grown jC ab.size Y).setCell (p:= ⟨g,18,none⟩) t _).setCell (p:= ⟨g,19,none⟩) t _
          case measure=>simp [intOf];omega
       · have bb:(x==(n:Int))=false:=by simpa using wE
         have uR:TE w g g S o d2 l.length l n (.int .i64 i) (.int .i64 x) (.int .i64 ((i:Int)+1)) wr:=by
          have F:¬ix l i=(n:Int):=by rw[P];exact wE
          have e1:idxs l n (i+1)=idxs l n i:=by rw[xN,if_neg F,List.append_nil]
          refine⟨i+1,K,by go_num,As,ns,cs, ?_,N,u,by rw[e1];exact a,rfl,D,J,d,t,G⟩;rw[OB F];refine b.congr λj hj=> ?_
          unfold BD;rw[<-R6 F]
         clear P
         go_wp2_with fail
         go_roundw
         case rel=>exact uR
         case measure=>simp [intOf];omega
     · obtain rfl:i=l.length:=ω
       have wM:QU w g g S o d2 l.length l (n+1) 0 wr:=by
        refine⟨As,ns,cs, ?_,N,u, ?_,rfl,D,J,d,t,G⟩
        · rw[OC l kW]at b;refine b.congr λj hj=> ?_
          unfold BD;rw[R8]
        · rw[PA l kW]at a;rw[Nat.add_sub_cancel,show idxs l (n+1) 0=[] from rfl,List.append_nil];exact a
       clear b N u a G
       go_wp2_with fail
       go_roundw
       case rel=>exact⟨n+1,ω,ω,by go_num,wM⟩
       case measure=>simp [intOf];omega
  · obtain rfl:n=16:=ω;obtain⟨As,ns,cs,b,N,u,a,_,D,J,d,t,G⟩ :=O;have Z:=b.lt;have am:pD l (16-1)++idxs l 16 0=pD l 15:=by rw[show idxs l 16 0=[] from rfl,List.append_nil]
    rw[am]at a;have ap:=a.1;subst ap;have hT:sT wr w.heap.size wr.heap.size g l:= ⟨o,_,As,d2,_,cs,b,N.more (Nat.le_of_lt Z),u.more (Nat.le_of_lt Z),a.rd,t,Z,J,λq r=>by simp [aa]at r;omega,λq r=>Nat.le_trans t (a.2.lt r).1⟩;clear b N u a;go_wp2
    go_ret2
    exact⟨g,rfl,hT,G⟩
end Go.Proofs.YtddhegejmkgmjaaGreat
