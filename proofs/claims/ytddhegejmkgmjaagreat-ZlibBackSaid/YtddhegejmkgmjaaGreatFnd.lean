/-
  part
-/
import Derived.Test.YtddhegejmkgmjaaGreatProg
import Derived.Test.YtddhegejmkgmjaaGreatPk3
import Derived.Maps.OwnSet
import Derived.Maps.Views
import Derived.Deep.DeepCutAuto
import Derived.BigFrame
import Derived.Laws.BitsAllLaws
namespace Go.Proofs.YtddhegejmkgmjaaGreat
open Go.RowKit Go.Maps
set_option linter.unusedVariables false
set_option maxRecDepth 100000
set_option maxHeartbeats 4000000
theorem Cp:(Tryz.prog.info? 5).map (λi=>(i.zero,i.size,i.bytes))=some (some (.int .u8 0),1,1):=by kernel_rfl
theorem JI:(Tryz.prog.info? 3).map (λi=>(i.zero,i.size,i.bytes))=some (some (.int .i64 0),1,8):=by kernel_rfl
def ff (e:jY) (A:Option Addr) (n c base at_ gm:Nat) (Ap:Option Addr) (np cp:Nat):Nat->Value
 | 0=> .int .i64 e.chain
 | 1=> .int .i64 e.nice
 | 2=> .bool e.lazy
 | 3=> .slice A n c
 | 4=> .int .i64 base
 | 5=> .int .i64 at_
 | 6=> .map (some gm)
 | _=> .slice Ap np cp
def kY (D:DataW Unit) (head:Int->Option Int):Prop:=
 IsMap D/\∀x:Int,Maps.has D (.int .u32 x)=(head x).isSome/\D.atKey (.int .u32 x) (.lit (.int .i64 0))= .lit (.int .i64 ((head x).getD 0))
theorem kY.new:kY (.map []) (λ_=>none):= ⟨isMap_empty,λx=> ⟨rfl,rfl⟩⟩
theorem kY.put {D:DataW Unit} {head:Int->Option Int} (h:kY D head) (y v:Int) (b:WideAt.IsKeyLit (.int .u32 y)):kY (D.put (.int .u32 y) (.lit (.int .i64 v))) (λx=>if x=y then some v else head x):=by
 refine⟨h.1.put _ _,λx=> ?_⟩;by_cases e:x=y
 · subst e;rw[has_put_same h.1 b,atKey_put_same h.1 b];simp
 · have a:(Lit.int .u32 x)≠Lit.int .u32 y:=λc=>e (by injection c)
   rw[has_put_other a,atKey_put_other a];simp only [if_neg e];exact h.2 x
structure bF (w:World) (b0 g:Nat) (e:jY) (st:ed) (b:Nat) (A:Option Addr) (n c gm nm:Nat) (Dm:DataW Unit) (Ap:Option Addr) (np cp:Nat):Prop where
 cell:Ar w g 8 (ff e A n c st.base st.at_ gm Ap np cp)
 lo:b0<=g
 own:ag .u8 w b0 5 A n c (st.D.drop st.base)
 rO:ag .i64 w b0 3 Ap np cp (st.P.drop st.base)
 map:w.ownsMap Tryz.prog 44 (plainElem Tryz.prog 3) gm nm Dm
 rep:kY Dm st.head
 MV:b0<=gm
 Za:nm<=b
 d1:aa A≠some g
 d2:aa Ap≠some g
 d3:gm≠g
 d4:∀q,aa A=some q->aa Ap≠some q
 d5:aa A≠some gm
 d6:aa Ap≠some gm
 ok:st.Ok b
 fC:∀x∈st.D,0<=x/\x<256
 eb:e.chain<=256/\e.nice<=258
 big:st.D.length<=100000000000
def FF (A:Option Addr) (gm:Nat) (Ap:Option Addr) (g k:Nat):Prop:=k=g\/k=gm\/aa A=some k\/aa Ap=some k
theorem kM {w w':World} {k:TypeId} {R:Value->Option (DataW Unit×List MemPlace)} {gm nm:Nat} {D:DataW Unit} (h:w.ownsMap Tryz.prog k R gm nm D) (a:w'.heap[gm]?=w.heap[gm]?):w'.ownsMap Tryz.prog k R gm nm D:=by
 obtain⟨c,clock,b,r⟩ :=h;exact⟨c,clock,a.trans b,r⟩
section
variable {w w':World} {b0 g b n c gm nm np cp:Nat} {e:jY} {st:ed} {A Ap:Option Addr} {Dm:DataW Unit}
theorem bF.bH (h:bF w b0 g e st b A n c gm nm Dm Ap np cp) {k:Nat} (a:FF A gm Ap g k):b0<=k/\k<w.heap.size:=by
 rcases a with rfl | rfl | a | a
 · exact⟨h.lo,h.cell.lt⟩
 · exact⟨h.MV,h.map.lt⟩
 · exact h.own.2.lt a
 · exact h.rO.2.lt a
theorem bF.cv {S:Nat->Prop} (h:bF w b0 g e st b A n c gm nm Dm Ap np cp) (a:aq w w' S) (d:∀k,FF A gm Ap g k->¬S k):bF w' b0 g e st b A n c gm nm Dm Ap np cp:=
 ⟨a.ar h.cell (d g (.inl rfl)),h.lo,a.bf h.own λq f=>d q (.inr (.inr (.inl f))),a.bf h.rO λq f=>d q (.inr (.inr (.inr f))),kM h.map (a.block gm h.map.lt (d gm (.inr (.inl rfl)))),h.rep,h.MV,h.Za,h.d1,h.d2,h.d3,h.d4,h.d5,h.d6,h.ok,h.fC,h.eb,h.big⟩
theorem bF.keeps (h:bF w b0 g e st b A n c gm nm Dm Ap np cp) (a:Below w.heap.size w w'):bF w' b0 g e st b A n c gm nm Dm Ap np cp:=
 h.cv (S:=λ_=>False) (aq.aB a) λ_ _=>id
theorem bF.drewN (h:bF w b0 g e st b A n c gm nm Dm Ap np cp) (q:Nat):bF (w.drewN q) b0 g e st b A n c gm nm Dm Ap np cp:=h.keeps (below_drewN (Below.refl _ w) q)
theorem bF.iQ (h:bF w b0 g e st b A n c gm nm Dm Ap np cp):n+st.base=st.D.length:=by
 have a:=h.own.1;have:=h.ok.lo;have:=h.ok.hi;rw[List.length_drop]at a;omega
theorem bF.ID (h:bF w b0 g e st b A n c gm nm Dm Ap np cp):np=n:=by
 rw[h.rO.1,h.own.1,List.length_drop,List.length_drop,h.ok.len]
theorem bF.Hu (h:bF w b0 g e st b A n c gm nm Dm Ap np cp):st.base<=st.D.length:=Nat.le_trans h.ok.lo h.ok.hi
theorem bF.byte (h:bF w b0 g e st b A n c gm nm Dm Ap np cp) {i:Nat} (hi:i<n):∃gd,A=some ⟨gd,0,none⟩/\w.cell? ⟨gd,i,none⟩ =some (.int .u8 (ix st.D (st.base+i))):=by
 obtain⟨gd,rfl⟩ :=h.own.2.addr ω;refine⟨gd,rfl, ?_⟩;have:=h.own.2.cell (i:=i) ω;rw[ia]at this;exact this
theorem bF.place (h:bF w b0 g e st b A n c gm nm Dm Ap np cp) {i:Nat} (hi:i<n):∃gd,Ap=some ⟨gd,0,none⟩/\w.cell? ⟨gd,i,none⟩ =some (.int .i64 (ix st.P (st.base+i))):=by
 have a:=h.ID;obtain⟨gd,rfl⟩ :=h.rO.2.addr ω;refine⟨gd,rfl, ?_⟩;have:=h.rO.2.cell (i:=i) ω;rw[ia]at this;exact this
theorem mV (h:bF w b0 g e st b A n c gm nm Dm Ap np cp):w.cell? ⟨g,0,none⟩ =some (.int .i64 e.chain)/\w.cell? ⟨g,1,none⟩ =some (.int .i64 e.nice)/\w.cell? ⟨g,2,none⟩ =some (.bool e.lazy)/\w.cell? ⟨g,3,none⟩ =some (.slice A n c)/\w.cell? ⟨g,4,none⟩ =some (.int .i64 st.base)/\
  w.cell? ⟨g,5,none⟩ =some (.int .i64 st.at_)/\w.cell? ⟨g,6,none⟩ =some (.map (some gm))/\w.cell? ⟨g,7,none⟩ =some (.slice Ap np cp):=
 ⟨h.cell.cell (i:=0) ω,h.cell.cell (i:=1) ω,h.cell.cell (i:=2) ω,h.cell.cell (i:=3) ω,h.cell.cell (i:=4) ω,h.cell.cell (i:=5) ω,h.cell.cell (i:=6) ω,h.cell.cell (i:=7) ω⟩
theorem zr (h:bF w b0 g e st b A n c gm nm Dm Ap np cp) (p:Nat) (hp:st.base<=p) (o:p<st.D.length):
  Calls Tryz.prog 65 #[.pointer (some ⟨g,0,none⟩), .int .i64 p] w λr w'=>r= .returned (.int .u8 (ix st.D p))/\∃q,w'=w.drewN q:=by
 obtain⟨-, -, -,t,l, -, -, -⟩ :=mV h;obtain⟨i,rfl⟩ :∃i,p=st.base+i:= ⟨p-st.base,ω⟩;have k:i<n:=by have:=h.iQ;omega
 obtain⟨gd,rfl,cb⟩ :=h.byte k;have s:=h.big;obtain⟨B,j⟩ :=ν (st.base);obtain⟨v,hv⟩ :=ν (ix st.D (st.base+i));rw[hv]at cb⊢;rw[j]at l⊢;have f:((B+i:Nat):Int)-(B:Int)=(i:Int):=ω;have a:(0:Int)<=i/\(i:Int)<n/\((B+i:Nat):Int)<=100000000000/\(0:Int)<=B:=ω;obtain⟨P,d⟩ :=ν (B+i);rw[d]at f a⊢;have m:IntKind.i64.wrap ((P:Int)-(B:Int))=(i:Int):=by rw[IntWalk.i64_in _ ω,f]
 clear d hv j;go_enter Tryz.func65,Tryz.ntmps65
 go_wp2
 go_quiet (fail)
 go_wp2
 go_ret
 exact⟨rfl,_,rfl⟩
theorem tE (h:bF w b0 g e st b A n c gm nm Dm Ap np cp):
  Calls Tryz.prog 67 #[.pointer (some ⟨g,0,none⟩)] w λr w'=>r= .returned (.int .i64 st.D.length)/\∃q,w'=w.drewN q:=by
 obtain⟨-, -, -,m,k, -, -, -⟩ :=mV h;have d:=h.big;have a:=h.iQ;obtain⟨B,i⟩ :=ν (st.base);obtain⟨L,f⟩ :=ν (st.D.length);rw[i]at k a;rw[f]at d a⊢;have j:(B:Int)+(n:Int)=(L:Int)/\(0:Int)<=B/\(0:Int)<=n/\(L:Int)<=100000000000:=ω;have l:IntKind.i64.wrap ((B:Int)+(n:Int))=(L:Int):=by rw[IntWalk.i64_in _ ω,j.1]
 clear i f a d;go_enter Tryz.func67,Tryz.ntmps67
 go_wp2
 go_quiet (fail)
 go_wp2
 go_ret
 exact⟨rfl,_,rfl⟩
theorem sM (h:bF w b0 g e st b A n c gm nm Dm Ap np cp):
  Calls Tryz.prog 48 #[.pointer (some ⟨g,0,none⟩)] w λr w'=>r= .returned (.int .i64 ((st.D.length-st.at_:Nat):Int))/\∃q,w'=w.drewN q:=by
 obtain⟨-, -, -,u,s,p, -, -⟩ :=mV h;have i:=h.big;have a:=h.iQ;have d:=h.ok.hi;obtain⟨B,m⟩ :=ν (st.base);obtain⟨L,k⟩ :=ν (st.D.length);obtain⟨T,j⟩ :=ν (st.at_);rw[m]at s a;rw[j]at p d⊢;rw[k]at i a d⊢;have l:(B:Int)+(n:Int)=(L:Int)/\(0:Int)<=B/\(0:Int)<=n/\(L:Int)<=100000000000/\(0:Int)<=T/\(T:Int)<=L:=ω;have f:Hid ((L:Int)-(T:Int)=((L-T:Nat):Int)):=by show _=_;omega
 have t:IntKind.i64.wrap ((B:Int)+(n:Int))=(L:Int):=by rw[IntWalk.i64_in _ ω,l.1]
 have o:IntKind.i64.wrap ((L:Int)-(T:Int))=(L:Int)-(T:Int):=by rw[IntWalk.i64_in _ ω]
 clear m k a i j d;go_enter Tryz.func48,Tryz.ntmps48
 go_wp2
 go_quiet (fail)
 go_wp2
 go_ret
 exact⟨aK (by rw[<-f.out,<-l.1]),_,rfl⟩
theorem a2J (a b k:Nat) (c:b<2 ^ k) (h:a*2 ^ k+b<4294967296):bits .or .u32 ((a*2 ^ k:Nat):Int) (b:Int)=((a*2 ^ k+b:Nat):Int):=by
 rw[u32_or_nat _ _ ω ω,Nat.mul_comm,<-Nat.two_pow_add_eq_or_of_lt c]
theorem OS {u v x:Int} (b:0<=u/\u<256) (hv:0<=v/\v<256) (a:0<=x/\x<256):bits .or .u32 (bits .or .u32 (u*65536) (v*256)) x=u*65536+v*256+x:=by
 obtain⟨U,rfl⟩ :=Int.eq_ofNat_of_zero_le b.1;obtain⟨V,rfl⟩ :=Int.eq_ofNat_of_zero_le hv.1;obtain⟨X,rfl⟩ :=Int.eq_ofNat_of_zero_le a.1;have e:(U:Int)*65536=((U*2 ^ 16:Nat):Int):=σ;have d:(V:Int)*256=((V*256:Nat):Int):=σ;have c:U*2 ^ 16+V*256=(U*256+V)*2 ^ 8:=ω;rw[e,d,a2J _ _ _ ω ω,c,a2J _ _ _ ω ω];omega
theorem Cw (h:bF w b0 g e st b A n c gm nm Dm Ap np cp) (p:Nat) (hp:st.base<=p) (y:p+3<=st.D.length):
  Calls Tryz.prog 83 #[.pointer (some ⟨g,0,none⟩), .int .i64 p] w λr w'=>r= .returned (.int .u32 (iz st.D p))/\∃q,w'=w.drewN q:=by
 obtain⟨-, -, -,L,I, -, -, -⟩ :=mV h;obtain⟨i,rfl⟩ :∃i,p=st.base+i:= ⟨p-st.base,ω⟩;have z:=h.iQ;obtain⟨gd,rfl,o⟩ :=h.byte (i:=i) ω;obtain⟨f,k,m⟩ :=h.byte (i:=i+1) ω;cases k;obtain⟨f,k,l⟩ :=h.byte (i:=i+2) ω;cases k;have K:=h.big;have F:iz st.D (st.base+i)=hs3 (ix st.D (st.base+i)) (ix st.D (st.base+(i+1))) (ix st.D (st.base+(i+2))):=rfl
 have a:∀j,0<=ix st.D j/\ix st.D j<256:=λj=>by
  unfold ix;rw[List.getD_eq_getElem?_getD];cases e:st.D[j]? with
  | none=>simp
  | some v=>exact h.fC v (List.mem_of_getElem? e)
 have b0:=a (st.base+i);have b1:=a (st.base+(i+1));have H:=a (st.base+(i+2));rw[F];obtain⟨B,G⟩ :=ν (st.base);obtain⟨u,t⟩ :=ν (ix st.D (st.base+i));obtain⟨v,hv⟩ :=ν (ix st.D (st.base+(i+1)));obtain⟨x,s⟩ :=ν (ix st.D (st.base+(i+2)));rw[t]at o b0⊢;rw[hv]at m b1⊢;rw[s]at l H⊢;rw[G]at I z y⊢;have E:((B+i:Nat):Int)-(B:Int)=(i:Int):=ω;have d:(0:Int)<=i/\(i:Int)+2<n/\((B+i:Nat):Int)<=100000000000/\(0:Int)<=B/\(n:Int)<=100000000000:=ω;obtain⟨P,C⟩ :=ν (B+i);rw[C]at E d⊢;have J:IntKind.i64.wrap ((P:Int)-(B:Int))=(i:Int):=by rw[IntWalk.i64_in _ ω,E]
 clear C hv G t s F y a z;go_enter Tryz.func83,Tryz.ntmps83
 go_wp2
 go_quiet (fail)
 go_wp2
 go_ret
 exact⟨aK (by rw[OS b0 b1 H];rfl),_,rfl⟩
def QT (w:World) (D:List Int) (a p M:Nat) (i:Value) (wr:World):Prop:=
 ∃k q:Nat,k<=M/\i= .int .i64 k/\Hid (IX D a p (M-k) k=IX D a p M 0)/\wr=w.drewN q
theorem KR (h:bF w b0 g e st b A n c gm nm Dm Ap np cp) (a p:Nat) (ha:st.base<=a) (V:a<=p) (S:p<=st.D.length):
  Calls Tryz.prog 84 #[.pointer (some ⟨g,0,none⟩), .int .i64 a, .int .i64 p] w λr w'=>r= .returned (.int .i64 (fL st.D a p))/\∃q,w'=w.drewN q:=by
 have U:=h.big;obtain⟨L,u⟩ :=ν (st.D.length);obtain⟨M,H⟩ :=ν (min 258 (L-p));have l:Hid (fL st.D a p=IX st.D a p M 0):=by show _=_;unfold fL;rw[u,H]
 have t:((258:Int)<(L:Int)-(p:Int)/\M=258)\/((L:Int)-(p:Int)<258/\(L:Int)-(p:Int)=(M:Int))\/((L:Int)-(p:Int)=258/\M=258):=ω;have f:=λW (s:bF W b0 g e st b A n c gm nm Dm Ap np cp)=>tE s
 rw[u]at U S;have hI:(0:Int)<=a/\(a:Int)<=p/\(p:Int)<=L/\(L:Int)<=100000000000:=ω;have Z:=η u;have HM:=η H;have wM:M<=258/\p+M<=L:=ω;go_enter Tryz.func84,Tryz.ntmps84
 rw[u]at f;clear u H
 go_upto_region 2 with fail
 go_cut [8] (λQ wx=>Q= .int .i64 M/\∃q,wx=w.drewN q)
 case first=>
  rcases t with ⟨N,rfl⟩ | ⟨N,h2⟩ | ⟨N,rfl⟩
  all_goals
   go_wp2_with fail
   refine(f w h).mono ?_;rintro e w1 ⟨rfl,j,rfl⟩;go_wp2
   go_meet
   exact⟨by first | rfl | (congr 1),j,rfl⟩
 case rest=>
  obtain⟨rfl,R,rfl⟩ :=hcut;clear t;go_wp2
  go_loopw [7] (QT w st.D a p M) (λi _=>M-(intOf i).toNat)
  case atStart=>exact⟨0,R,Nat.zero_le _,rfl,rfl,rfl⟩
  case round=>
   obtain⟨k,q,hk,rfl,d,rfl⟩ :=hrel;have o:=h.drewN q;by_cases T:k<M
   · have mA:(0:Int)<=k/\(k:Int)<(M:Int):=ω;have X:=Z.out;have C:=λW (s:bF W b0 g e st b A n c gm nm Dm Ap np cp)=>zr s (a+k) ω ω
     have B:=λW (s:bF W b0 g e st b A n c gm nm Dm Ap np cp)=>zr s (p+k) ω ω
     have P:((a+k:Nat):Int)=(a:Int)+(k:Int):=ω;have O:((p+k:Nat):Int)=(p:Int)+(k:Int):=ω;obtain⟨m,K⟩ :∃m,M-k=m+1:= ⟨M-k-1,ω⟩;replace d:=d.out;rw[K]at d;have I:IX st.D a p (m+1) k=if ix st.D (a+k)=ix st.D (p+k)then IX st.D a p m (k+1)else k:=rfl
     rw[I]at d;obtain⟨x,G⟩ :=ν (ix st.D (a+k));obtain⟨y,F⟩ :=ν (ix st.D (p+k));rw[G,F]at d;rw[G]at C;rw[F]at B;rw[P]at C;rw[O]at B;have J:M-(k+1)=m:=ω;have Y:=η J;clear G F I X P O K J;by_cases z:x=y
     · subst z;rw[if_pos rfl]at d;have v:=η d;clear d
       go_wp2_with fail
       refine(C _ o).mono ?_;rintro e w1 ⟨rfl,j,rfl⟩
       go_wp2_with fail
       refine(B _ (h.drewN (q+j))).mono ?_;rintro e w1 ⟨rfl,E,rfl⟩;go_wp2
       go_roundw
       case rel=>exact⟨k+1,q+j+E,ω,by go_num,by show _=_;rw[Y.out];exact v.out,rfl⟩
       case measure=>simp [intOf];omega
     · rw[if_neg z]at d;have v:=η d;clear d;have NA:(x==y)=false:=by simpa using z
       clear z
       go_wp2_with fail
       refine(C _ o).mono ?_;rintro e w1 ⟨rfl,j,rfl⟩
       go_wp2_with fail
       refine(B _ (h.drewN (q+j))).mono ?_;rintro e w1 ⟨rfl,E,rfl⟩;go_wp2
       go_ret
       exact⟨by rw[l.out,<-v.out];rfl,q+j+E,rfl⟩
   · obtain rfl:k=M:=ω;replace d:=d.out;rw[Nat.sub_self]at d;have v:Hid (k=IX st.D a p k 0):=d;clear d;go_wp2
     go_ret
     exact⟨by rw[l.out,<-v.out];rfl,q,rfl⟩
end
end Go.Proofs.YtddhegejmkgmjaaGreat
