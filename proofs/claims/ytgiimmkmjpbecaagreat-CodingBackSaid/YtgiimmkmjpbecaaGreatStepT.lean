/-
  part
-/
import Derived.Test.YtgiimmkmjpbecaaGreatRev
import Derived.Test.YtgiimmkmjpbecaaGreatStep
namespace Go.Proofs.YtgiimmkmjpbecaaGreat
open Go.RowKit
set_option linter.unusedVariables false
set_option maxRecDepth 100000
set_option maxHeartbeats 4000000
theorem a6K (a b k:Nat) (c:b<2 ^ k) (h:a*2 ^ k+b<4294967296):bits .or .u32 (b:Int) ((a*2 ^ k:Nat):Int)=((a*2 ^ k+b:Nat):Int):=by
 rw[u32_or_nat _ _ ω ω,Nat.or_comm,ez,<-eC c]
theorem Pn {v c:Int} (k:Nat) (hv:0<=v/\v<2 ^ k) (a:0<=c) (h:c*2 ^ k+v<4294967296):bits .or .u32 v (c*2 ^ k)=v+c*2 ^ k:=by
 obtain⟨v,rfl⟩ :=aF hv.1;obtain⟨c,rfl⟩ :=aF a;have e:((2 ^ k:Nat):Int)=2 ^ k:=σ;have d:v<2 ^ k:=by have:=hv.2;rw[<-e]at this;exact Int.ofNat_lt.1 this
 have b:c*2 ^ k+v<4294967296:=by rw[<-e,<-ek,<-i6]at h;omega
 have:=a6K c v k d b;rw[ek,i6,ek,e]at this;rw[this,Int.add_comm]
theorem a0D {v b:Int} {k:Nat} (d:k<4) (hv:0<=v/\v<256 ^ k) (a:0<=b/\b<256):
  bits .or .u32 v (b*2 ^ (8*k)%4294967296)=v+256 ^ k*b/\0<=v+256 ^ k*b/\v+256 ^ k*b<256 ^ (k+1):=by
 obtain rfl | rfl | rfl | rfl:k=0\/k=1\/k=2\/k=3:=ω
 · have:=Pn (v:=v) (c:=b) 0 (by simpa using hv) a.1 (by simp at hv⊢;omega);simp at hv this⊢;rw[bu ω ω];exact⟨this,ω,ω⟩
 · have:=Pn (v:=v) (c:=b) 8 (by simpa using hv) a.1 (by simp at hv⊢;omega);simp at hv this⊢;rw[bu ω ω];exact⟨this.trans ω,ω,ω⟩
 · have:=Pn (v:=v) (c:=b) 16 (by simpa using hv) a.1 (by simp at hv⊢;omega);simp at hv this⊢;rw[bu ω ω];exact⟨this.trans ω,ω,ω⟩
 have:=Pn (v:=v) (c:=b) 24 (by simpa using hv) a.1 (by simp at hv⊢;omega);simp at hv this⊢;rw[bu ω ω];exact⟨this.trans ω,ω,ω⟩
theorem se (w:World) (B n c:Nat) (A:ax) (l:ag) (j:bT .u8 w B A n l) (u:n<=4) (t:∀x∈l,0<=x/\x<256):
  Calls Tryz.prog 181 #[.slice A n c] w λe w'=>e= .returned (.int .u32 (rK l))/\∃q,w'=w.drewN q:=by
 have g:=η j.1
 go_in
 go_wp2
 go_loopw [3,8] (λx i wr=>∃(k q:Nat) (v:Int),k<=n/\i= .int .i64 k/\x= .int .u32 v/\0<=v/\v<256 ^ k/\Hid (v=rK (l.take k))/\wr=w.drewN q) (λ_ i _=>n-(intOf i).toNat)
 case atStart=>exact⟨0,0,0,aG _,rfl,rfl,ω,σ,rfl,rfl⟩
 obtain⟨k,q,v,z,rfl,rfl,f,p,HV,rfl⟩ :=hrel;by_cases a:k<n
 rotate_left
 · obtain rfl:n=k:=ω;go_wp2
   try go_ret
   exact⟨bJ (by rw[HV.out,aA (by rw[<-g.out];exact af _)]),_,rfl⟩
 obtain⟨C,rfl,_,s⟩ :=j.at_ a;have m:=tq t k
 have o:Hid (rK (l.take (k+1))=rK (l.take k)+256 ^ k*ix l k):=by
  show _=_;rw[GD (by rw[<-g.out];exact a),a0s];congr 2;rw[aD,bF (by rw[<-g.out];omega)]
 obtain⟨b,d⟩ :=ν (ix l k:Int);rw[d]at s m o;clear d;have y:(0:Int)<=k/\(k:Int)<n:=ω;have r:(k:Int)<4:=ω;have h:=a0D ω ⟨f,p⟩ m;go_wp2;go_roundw
 case rel=>exact⟨k+1,q,_,ω,by go_num,rfl,h.2.1,h.2.2,by show _=_;rw[o.out,HV.out],rfl⟩
 case measure=>simp [intOf];omega
def pf (A:ax) (n c:Nat) (a:Nat) (e:Int):Nat->Value
 | 0=> .slice A n c
 | 1=> .int .i64 a
 | _=> .int .i64 e
def yF (g:Nat):Value:= .pointer (some ⟨g,0,none⟩)
structure tP (w:World) (B g:Nat) (A:ax) (n c:Nat) (l:ag) (a:Nat) (e:Int):Prop where
 cell:Ar w g 3 (pf A n c a e)
 rd:bT .u8 w B A n l
 lo:B<=g
 le:a<=n
 cap:n<=c
 small:n<=1000000
section
variable {w w':World} {B g n c a:Nat} {A:ax} {l:ag} {e:Int}
theorem tP.drewN (h:tP w B g A n c l a e) (q:Nat):tP (w.drewN q) B g A n c l a e:= ⟨h.cell.drewN q,h.rd.drewN q,h.lo,h.le,h.cap,h.small⟩
theorem tP.fault (h:tP w B g A n c l a e) (b:Int):tP (w.setCell ⟨g,2,none⟩ (.int .i64 b)) B g A n c l a b:=
 ⟨(h.cell.cE 2 _).congr λi hi=>by
   obtain rfl | rfl | rfl:i=0\/i=1\/i=2:=ω;all_goals rfl,h.rd.keep λp hp=>eO _ _ _ _ (λe=>by have d:=bf Addr.block e;have:=h.lo;simp at d;omega),h.lo,h.le,h.cap,h.small⟩
theorem tP.move (h:tP w B g A n c l a e) {a':Nat} (b:a'<=n):tP (w.setCell ⟨g,1,none⟩ (.int .i64 (a':Int))) B g A n c l a' e:=
 ⟨(h.cell.cE 1 _).congr λi hi=>by
   obtain rfl | rfl | rfl:i=0\/i=1\/i=2:=ω;all_goals rfl,h.rd.keep λp hp=>eO _ _ _ _ (λe=>by have d:=bf Addr.block e;have:=h.lo;simp at d;omega),h.lo,b,h.cap,h.small⟩
theorem X0 {k:IntKind} (h:bT k w B A n l) {i m:Nat} (hi:i+m<=n) (a:n<=c):bT k w B (dw A c i) m ((l.drop i).take m):=
 bT.pre (bT.dw h (j:=i) ω a) ω
end
def PO (w:World) (B g:Nat) (A:ax) (n c:Nat) (l:ag) (a:Nat) (e:Int) (m:Nat) (E:Ending) (w':World):Prop:=
 ∃A' b c',E= .returned (.slice A' b c')/\bT .u8 w' B A' b (yf l a e m)/\b<=c'/\tP w' B g A n c l (wI l a e m) (qa l a e m)/\bb w w' (λk=>k=g)
theorem BU (w:World) (B g n c a m:Nat) (A:ax) (l:ag) (e:Int) (h:tP w B g A n c l a e) (M:m<=100000):
  Calls Tryz.prog 186 #[yF g, .int .i64 m] w (PO w B g A n c l a e m):=by
 have c0:=h.cell.az 0;have c1:=h.cell.az 1;have c2:=h.cell.az 2;have I:=h.cell.aH 1;have H:=h.cell.aH 2;unfold pf at c0 c1 c2;have N:=h.cell.lt;have E:=h.le;have F:=h.cap;have z:=h.small;have O:(0:Int)<=a/\(a:Int)<=n/\(n:Int)<=1000000/\(0:Int)<=m/\(m:Int)<=100000:=ω;have x:=η h.rd.1;unfold yF
 go_in
 by_cases r:e=0
 rotate_left
 · have hF:qa l a e m=e:=by unfold qa;rw[a8 (λh=>r h.1)]
   have d:yf l a e m=[]:=by unfold yf;rw[hF,a8 r]
   have hA:wI l a e m=a:=by unfold wI;rw[hF,a8 r]
   have HP:Hid (qa l a e m=e/\yf l a e m=[]/\wI l a e m=a):= ⟨hF,d,hA⟩;clear hF d hA;go_wp2;go_quiet (fail);go_wp2;go_ret;refine⟨none,0,0,rfl, ?_,af _, ?_,(bb.refl w _).drewN _⟩
   · rw[HP.2.1];exact⟨rfl,Rd.di⟩
   rw[HP.1,HP.2.2];exact h.drewN _
 subst r;by_cases hf:(n:Int)-(a:Int)<(m:Int)
 · have hF:qa l a 0 m=5:=by unfold qa;rw[aa ⟨rfl,by rw[<-x.out];omega⟩]
   have d:yf l a 0 m=[]:=by unfold yf;rw[hF,a8 ω]
   have hA:wI l a 0 m=a:=by unfold wI;rw[hF,a8 ω]
   have HP:Hid (qa l a 0 m=5/\yf l a 0 m=[]/\wI l a 0 m=a):= ⟨hF,d,hA⟩;clear hF d hA;go_wp2;go_quiet (fail);go_wp2;go_ret;refine⟨none,0,0,rfl, ?_,af _, ?_,((bb.refl w (λk=>k=g)).drewN _).setCell (p:= ⟨g,2,none⟩) (.inl rfl) _⟩
   · rw[HP.2.1];exact⟨rfl,Rd.di⟩
   rw[HP.1,HP.2.2];exact(h.drewN _).fault 5
 have hF:qa l a 0 m=0:=by unfold qa;rw[a8 (λh=>by rw[<-x.out]at h;omega)]
 have d:yf l a 0 m=(l.drop a).take m:=by unfold yf;rw[hF,aa rfl]
 have hA:wI l a 0 m=a+m:=by unfold wI;rw[hF,aa rfl]
 have HP:Hid (qa l a 0 m=0/\yf l a 0 m=(l.drop a).take m/\wI l a 0 m=a+m):= ⟨hF,d,hA⟩;clear hF d hA;have u:a+m<=n:=ω;obtain⟨K,v⟩ :=ν (a+m:Nat);have D:=λW (G:bT .u8 W B A n l)=>X0 G (i:=a) (m:=m) u F;have f:=λq=>(h.drewN q).move (a':=a+m) u;have o:K-a=m:=ω;rw[v]at HP f u;have L:IntKind.i64.wrap ((a:Int)+(m:Int))=(K:Int):=by rw[aM _ ω];omega
 have y:IntKind.i64.wrap ((K:Int)-(m:Int))=(a:Int):=by rw[aM _ ω];omega
 obtain⟨J,hi,t,j,s⟩ :=aL qy;have C:=jE (P:=Tryz.prog) 22 5 Tryz.underlying22 hi j A n c (a:=a) (b:=K) ω ω;rw[o]at C;have Q:=η v;clear hi t j s v o;go_wp2;go_quiet (fail);go_wp2;go_quiet (fail);go_wp2;go_ret;refine⟨_,m,_,rfl, ?_,ω, ?_,(((bb.refl w (λk=>k=g)).drewN _).setCell (p:= ⟨g,1,none⟩) (.inl rfl) _).drewN _⟩
 · rw[HP.2.1];exact D _ ((f _).drewN _).rd
 rw[HP.1,HP.2.2];exact(f _).drewN _
def Ht (w:World) (B g:Nat) (A:ax) (n c:Nat) (l:ag) (a':Nat) (a:Int) (v:Ending) (E:Ending) (w':World):Prop:=
 E=v/\tP w' B g A n c l a' a/\bb w w' (λk=>k=g)
theorem XH (l:ag) (a:Nat) (e:Int) (h:qa l a e 1=0):(yf l a e 1).length=1/\ix (yf l a e 1) 0=ix l a:=by
 unfold yf;rw[aa h];have:a<l.length:=by unfold qa at h;split at h <;> omega
 constructor
 · simp;omega
 simp [ix]
theorem G8 (w:World) (B g n c a:Nat) (A:ax) (l:ag) (e:Int) (h:tP w B g A n c l a e):
  Calls Tryz.prog 185 #[yF g] w (Ht w B g A n c l (wI l a e 1) (qa l a e 1) (.returned (.int .u8 (WC l a e)))):=by
 have ht:=λW (s:tP W B g A n c l a e)=>BU W B g n c a 1 A l e s ω;unfold yF at ht⊢
 go_in
 go_wp2_with fail;refine(ht w h).mono ?_;rintro E w1 ⟨A1,m1,c1,rfl,b,u,j,d⟩;have c2:=j.cell.az 2;unfold pf at c2;have p:=XH l a e;have m:=b.1;obtain⟨F,hF⟩ :=ν (qa l a e 1);rw[hF]at c2 j p;have k:=η hF;clear hF;by_cases f:F=0
 · subst f;obtain⟨t,o⟩ :=p rfl;rw[t]at m;subst m;obtain⟨q,rfl,_,r⟩ :=b.at_ (i:=0) ω;rw[o,show q.add 0=q by simp [Addr.add]]at r;go_wp2;go_ret;exact⟨bJ (by unfold WC;rw[k.out,aa rfl]),by rw[k.out];exact j,d⟩
 clear m;go_wp2;go_ret;exact⟨bJ (by unfold WC;rw[k.out,a8 f]),by rw[k.out];exact j,d⟩
theorem C3 (w:World) (B g n c a:Nat) (A:ax) (l:ag) (e:Int) (h:tP w B g A n c l a e) (x:Int):
  Calls Tryz.prog 184 #[yF g, .int .u8 x] w (Ht w B g A n c l (wI l a e 1) (Hj l a e x) (.returned (.tuple #[]))):=by
 have ht:=λW (v:tP W B g A n c l a e)=>BU W B g n c a 1 A l e v ω;unfold yF at ht⊢
 go_in
 go_wp2_with fail;refine(ht w h).mono ?_;rintro E w1 ⟨A1,m1,c1,rfl,f,C,d,b⟩;have c2:=d.cell.az 2;have z:=d.cell.aH 2;unfold pf at c2;have t:=XH l a e;have o:=f.1;obtain⟨F,hF⟩ :=ν (qa l a e 1);rw[hF]at c2 d t;have r:=η hF;clear hF;by_cases j:F=0
 rotate_left
 · clear o;have k:Hid (Hj l a e x=F):=by show _=_;unfold Hj;rw[r.out,a8 (λh=>j h.1)]
   go_wp2;refine bS (results_none rfl _ _ _) rfl ?_;exact⟨rfl,by rw[k.out];exact d,b⟩
 subst j;obtain⟨y,q⟩ :=t rfl;rw[y]at o;subst o;obtain⟨u,rfl,_,s⟩ :=f.at_ (i:=0) ω;rw[q,show u.add 0=u by simp [Addr.add]]at s;by_cases m:ix l a=x
 · rw[m]at s;have k:Hid (Hj l a e x=0):=by show _=_;unfold Hj;rw[r.out,a8 (λh=>h.2 m)]
   go_wp2;refine bS (results_none rfl _ _ _) rfl ?_;exact⟨rfl,by rw[k.out];exact d,b⟩
 have k:Hid (Hj l a e x=2):=by show _=_;unfold Hj;rw[r.out,aa ⟨rfl,m⟩]
 go_wp2;refine bS (results_none rfl _ _ _) rfl ?_;exact⟨rfl,by rw[k.out];exact d.fault 2,b.setCell (p:= ⟨g,2,none⟩) (.inl rfl) _⟩
section
variable {w:World}
theorem Eo {f:Array Oper} {o:Oper} {a:Act} {K:Act->World->Prop} {Q:Exit->Act->World->Prop} {E:Prop} (b0:Nat) (i:TypeInfo) (k:Region.wanted o (yielded f a.tmps)=true) (s x:Operand)
  (v:o.op= .call { callee:= .builtin .append,args:= #[s,x],argTypes:= #[82, 82] }) (hi:Tryz.prog.info? 132 =some i) (hz:i.zero=some (.agg #[.int .u8 0, .int .i64 0, .int .i64 0]))
  (d:i.size=3) (p:i.bytes=24) {A:ax} {n c:Nat} {l:List bY} (u:a.eval s= .slice A n c) (b:jZ w b0 A n c l)
  {B:Nat} {A':ax} {m c':Nat} {l':List bY} (t:a.eval x= .slice A' m c') (r:lW w B A' m l')
  (q:n+m<=1000000000000) (e:b0<=w.heap.size)
  (h:∀A2 c2 w2,jZ w2 b0 A2 (n+m) c2 (l++l')->w.grownBy w2 (ai A)->(ai A2=ai A\/ai A2=some w.heap.size)->K (a.put o.dst (.slice A2 (n+m) c2)) w2):
  if Region.wanted o (yielded f a.tmps)=true then Oper.wp Tryz.prog o a w K Q else E:=by
 rw[aa k];obtain⟨A2,c2,w2,g,z,y,h4⟩ :=iY (P:=Tryz.prog) w b0 82 o.type 132 i _ 3 24 Tryz.underlying82 hi hz d p rfl ω A n c _ b.2 B A' m c' _ r.rd (λj _=>Ko l' j) q ω e;unfold Oper.wp execOp;simp only [v,resolve,invoke,builtin,Sem.run_bind,Sem.run_pure,Result.andThen_ok,List.map_toArray,List.map_cons,List.map_nil,u,t,g];exact h A2 c2 w2 ⟨by rw[ae,<-b.1,<-r.1],z.congr λj C=>by rw[b.1,Kn]⟩ y h4
end
end Go.Proofs.YtgiimmkmjpbecaaGreat
