/-
  part
-/
import Derived.Test.YtdhmnlpfhfmpfaaGreatRev
import Derived.Test.YtdhmnlpfhfmpfaaGreatStep
namespace Go.Proofs.YtdhmnlpfhfmpfaaGreat
open Go.RowKit
set_option linter.unusedVariables false
set_option maxRecDepth 100000
set_option maxHeartbeats 4000000
theorem a8d (a b k:Nat) (c:b<2 ^ k) (h:a*2 ^ k+b<4294967296):bits .or .u32 (b:Int) ((a*2 ^ k:Nat):Int)=((a*2 ^ k+b:Nat):Int):=by
 rw[u32_or_nat _ _ ω ω,Nat.or_comm,eE,<-eI c]
theorem Ov {v c:Int} (k:Nat) (hv:0<=v/\v<2 ^ k) (a:0<=c) (h:c*2 ^ k+v<4294967296):bits .or .u32 v (c*2 ^ k)=v+c*2 ^ k:=by
 obtain⟨v,rfl⟩ :=aJ hv.1;obtain⟨c,rfl⟩ :=aJ a;have e:((2 ^ k:Nat):Int)=2 ^ k:=σ;have d:v<2 ^ k:=by have:=hv.2;rw[<-e]at this;exact Int.ofNat_lt.1 this
 have b:c*2 ^ k+v<4294967296:=by rw[<-e,<-eV,<-jt]at h;omega
 have:=a8d c v k d b;rw[eV,jt,eV,e]at this;rw[this,Int.add_comm]
theorem a0H {v b:Int} {k:Nat} (d:k<4) (hv:0<=v/\v<256 ^ k) (a:0<=b/\b<256):
  bits .or .u32 v (b*2 ^ (8*k)%4294967296)=v+256 ^ k*b/\0<=v+256 ^ k*b/\v+256 ^ k*b<256 ^ (k+1):=by
 obtain rfl | rfl | rfl | rfl:k=0\/k=1\/k=2\/k=3:=ω
 · have:=Ov (v:=v) (c:=b) 0 (by simpa using hv) a.1 (by simp at hv⊢;omega);simp at hv this⊢;rw[bz ω ω];exact⟨this,ω,ω⟩
 · have:=Ov (v:=v) (c:=b) 8 (by simpa using hv) a.1 (by simp at hv⊢;omega);simp at hv this⊢;rw[bz ω ω];exact⟨this.trans ω,ω,ω⟩
 · have:=Ov (v:=v) (c:=b) 16 (by simpa using hv) a.1 (by simp at hv⊢;omega);simp at hv this⊢;rw[bz ω ω];exact⟨this.trans ω,ω,ω⟩
 have:=Ov (v:=v) (c:=b) 24 (by simpa using hv) a.1 (by simp at hv⊢;omega);simp at hv this⊢;rw[bz ω ω];exact⟨this.trans ω,ω,ω⟩
theorem mZ (w:World) (B n c:Nat) (A:ay) (l:aj) (j:bT .u8 w B A n l) (u:n<=4) (t:∀x∈l,0<=x/\x<256):
  Calls Tryz.prog 78 #[.slice A n c] w λe w'=>e= .returned (.int .u32 (oK l))/\∃q,w'=w.drewN q:=by
 have g:=η j.1;go_enter Tryz.func78,Tryz.ntmps78;go_wp2
 go_loopw [3,8] (λx i wr=>∃(k q:Nat) (v:Int),k<=n/\i= .int .i64 k/\x= .int .u32 v/\0<=v/\v<256 ^ k/\Hid (v=oK (l.take k))/\wr=w.drewN q) (λ_ i _=>n-(intOf i).toNat)
 case atStart=>exact⟨0,0,0,aF _,rfl,rfl,ω,σ,rfl,rfl⟩
 obtain⟨k,q,v,z,rfl,rfl,f,p,HV,rfl⟩ :=hrel;by_cases a:k<n
 rotate_left
 · obtain rfl:n=k:=ω;go_wp2
   try go_ret
   exact⟨bZ (by rw[HV.out,aC (by rw[<-g.out];exact ai _)]),_,rfl⟩
 obtain⟨C,rfl,_,s⟩ :=j.at_ a;have m:=gv t k
 have o:Hid (oK (l.take (k+1))=oK (l.take k)+256 ^ k*ix l k):=by
  show _=_;rw[Gc (by rw[<-g.out];exact a),a0u];congr 2;rw[aD,bH (by rw[<-g.out];omega)]
 obtain⟨b,d⟩ :=ν (ix l k:Int);rw[d]at s m o;clear d;have y:(0:Int)<=k/\(k:Int)<n:=ω;have r:(k:Int)<4:=ω;have h:=a0H ω ⟨f,p⟩ m;go_wp2;go_roundw
 case rel=>exact⟨k+1,q,_,ω,by go_num,rfl,h.2.1,h.2.2,by show _=_;rw[o.out,HV.out],rfl⟩
 case measure=>simp [intOf];omega
def pf (A:ay) (n c:Nat) (a:Nat) (e:Int):Nat->Value
 | 0=> .slice A n c
 | 1=> .int .i64 a
 | _=> .int .i64 e
def xK (g:Nat):Value:= .pointer (some ⟨g,0,none⟩)
structure si (w:World) (B g:Nat) (A:ay) (n c:Nat) (l:aj) (a:Nat) (e:Int):Prop where
 cell:Ar w g 3 (pf A n c a e)
 rd:bT .u8 w B A n l
 lo:B<=g
 le:a<=n
 cap:n<=c
 small:n<=1000000
section
variable {w w':World} {B g n c a:Nat} {A:ay} {l:aj} {e:Int}
theorem si.drewN (h:si w B g A n c l a e) (q:Nat):si (w.drewN q) B g A n c l a e:= ⟨h.cell.drewN q,h.rd.drewN q,h.lo,h.le,h.cap,h.small⟩
theorem si.fault (h:si w B g A n c l a e) (b:Int):si (w.setCell ⟨g,2,none⟩ (.int .i64 b)) B g A n c l a b:=
 ⟨(h.cell.bK (i:=2) ω _).congr λi hi=>by
   obtain rfl | rfl | rfl:i=0\/i=1\/i=2:=ω;all_goals rfl,h.rd.keep λp hp=>dU _ _ _ _ (λe=>by have d:=aN Addr.block e;have:=h.lo;simp at d;omega),h.lo,h.le,h.cap,h.small⟩
theorem si.move (h:si w B g A n c l a e) {a':Nat} (b:a'<=n):si (w.setCell ⟨g,1,none⟩ (.int .i64 (a':Int))) B g A n c l a' e:=
 ⟨(h.cell.bK (i:=1) ω _).congr λi hi=>by
   obtain rfl | rfl | rfl:i=0\/i=1\/i=2:=ω;all_goals rfl,h.rd.keep λp hp=>dU _ _ _ _ (λe=>by have d:=aN Addr.block e;have:=h.lo;simp at d;omega),h.lo,b,h.cap,h.small⟩
theorem BA {k:IntKind} (h:bT k w B A n l) {i m:Nat} (hi:i+m<=n) (a:n<=c):bT k w B (dr A c i) m ((l.drop i).take m):=
 bT.pre (bT.dr h (j:=i) ω a) ω
end
def P7 (w:World) (B g:Nat) (A:ay) (n c:Nat) (l:aj) (a:Nat) (e:Int) (m:Nat) (E:Ending) (w':World):Prop:=
 ∃A' b c',E= .returned (.slice A' b c')/\bT .u8 w' B A' b (uX l a e m)/\b<=c'/\si w' B g A n c l (xe l a e m) (o0 l a e m)/\bk w w' (λk=>k=g)
theorem ql (w:World) (B g n c a m:Nat) (A:ay) (l:aj) (e:Int) (h:si w B g A n c l a e) (M:m<=100000):
  Calls Tryz.prog 98 #[xK g, .int .i64 m] w (P7 w B g A n c l a e m):=by
 have c0:=h.cell.cell (i:=0) ω;have c1:=h.cell.cell (i:=1) ω;have c2:=h.cell.cell (i:=2) ω;have I:=h.cell.frozen' (i:=1) ω;have H:=h.cell.frozen' (i:=2) ω;unfold pf at c0 c1 c2;have N:=h.cell.lt;have E:=h.le;have F:=h.cap;have z:=h.small;have O:(0:Int)<=a/\(a:Int)<=n/\(n:Int)<=1000000/\(0:Int)<=m/\(m:Int)<=100000:=ω;have x:=η h.rd.1;unfold xK;go_enter Tryz.func98,Tryz.ntmps98;by_cases r:e=0
 rotate_left
 · have hF:o0 l a e m=e:=by unfold o0;rw[aa (λh=>r h.1)]
   have d:uX l a e m=[]:=by unfold uX;rw[hF,aa r]
   have hA:xe l a e m=a:=by unfold xe;rw[hF,aa r]
   have HP:Hid (o0 l a e m=e/\uX l a e m=[]/\xe l a e m=a):= ⟨hF,d,hA⟩;clear hF d hA;go_wp2;go_quiet (fail);go_wp2;go_ret;refine⟨none,0,0,rfl, ?_,ai _, ?_,(bk.refl w _).drewN _⟩
   · rw[HP.out.2.1];exact⟨rfl,Rd.dN⟩
   rw[HP.out.1,HP.out.2.2];exact h.drewN _
 subst r;by_cases hf:(n:Int)-(a:Int)<(m:Int)
 · have hF:o0 l a 0 m=5:=by unfold o0;rw[af ⟨rfl,by rw[<-x.out];omega⟩]
   have d:uX l a 0 m=[]:=by unfold uX;rw[hF,aa ω]
   have hA:xe l a 0 m=a:=by unfold xe;rw[hF,aa ω]
   have HP:Hid (o0 l a 0 m=5/\uX l a 0 m=[]/\xe l a 0 m=a):= ⟨hF,d,hA⟩;clear hF d hA;go_wp2;go_quiet (fail);go_wp2;go_ret;refine⟨none,0,0,rfl, ?_,ai _, ?_,((bk.refl w (λk=>k=g)).drewN _).setCell (p:= ⟨g,2,none⟩) (.inl rfl) _⟩
   · rw[HP.out.2.1];exact⟨rfl,Rd.dN⟩
   rw[HP.out.1,HP.out.2.2];exact(h.drewN _).fault 5
 have hF:o0 l a 0 m=0:=by unfold o0;rw[aa (λh=>by rw[<-x.out]at h;omega)]
 have d:uX l a 0 m=(l.drop a).take m:=by unfold uX;rw[hF,af rfl]
 have hA:xe l a 0 m=a+m:=by unfold xe;rw[hF,af rfl]
 have HP:Hid (o0 l a 0 m=0/\uX l a 0 m=(l.drop a).take m/\xe l a 0 m=a+m):= ⟨hF,d,hA⟩;clear hF d hA;have u:a+m<=n:=ω;obtain⟨K,v⟩ :=ν (a+m:Nat);have D:=λW (G:bT .u8 W B A n l)=>BA G (i:=a) (m:=m) u F;have f:=λq=>(h.drewN q).move (a':=a+m) u;have o:K-a=m:=ω;rw[v]at HP f u;have L:IntKind.i64.wrap ((a:Int)+(m:Int))=(K:Int):=by rw[aM _ ω];omega
 have y:IntKind.i64.wrap ((K:Int)-(m:Int))=(a:Int):=by rw[aM _ ω];omega
 obtain⟨J,hi,t,j,s⟩ :=aL gH;have C:=fW (P:=Tryz.prog) 22 5 Tryz.underlying22 hi j A n c (a:=a) (b:=K) ω ω;rw[o]at C;have Q:=η v;clear hi t j s v o;go_wp2;go_quiet (fail);go_wp2;go_quiet (fail);go_wp2;go_ret;refine⟨_,m,_,rfl, ?_,ω, ?_,(((bk.refl w (λk=>k=g)).drewN _).setCell (p:= ⟨g,1,none⟩) (.inl rfl) _).drewN _⟩
 · rw[HP.out.2.1];exact D _ ((f _).drewN _).rd
 rw[HP.out.1,HP.out.2.2];exact(f _).drewN _
def zS (w:World) (B g:Nat) (A:ay) (n c:Nat) (l:aj) (a':Nat) (a:Int) (v:Ending) (E:Ending) (w':World):Prop:=
 E=v/\si w' B g A n c l a' a/\bk w w' (λk=>k=g)
theorem Xy (l:aj) (a:Nat) (e:Int) (h:o0 l a e 1=0):(uX l a e 1).length=1/\ix (uX l a e 1) 0=ix l a:=by
 unfold uX;rw[af h];have:a<l.length:=by unfold o0 at h;split at h <;> omega
 constructor
 · simp;omega
 simp [ix]
theorem FM (w:World) (B g n c a:Nat) (A:ay) (l:aj) (e:Int) (h:si w B g A n c l a e):
  Calls Tryz.prog 97 #[xK g] w (zS w B g A n c l (xe l a e 1) (o0 l a e 1) (.returned (.int .u8 (Oo l a e)))):=by
 have ht:=λW (s:si W B g A n c l a e)=>ql W B g n c a 1 A l e s ω;unfold xK at ht⊢;go_enter Tryz.func97,Tryz.ntmps97
 go_wp2_with fail;refine(ht w h).mono ?_;rintro E w1 ⟨A1,m1,c1,rfl,b,u,f,d⟩;have c2:=f.cell.cell (i:=2) ω;unfold pf at c2;have o:=Xy l a e;have k:=b.1;obtain⟨F,hF⟩ :=ν (o0 l a e 1);rw[hF]at c2 f o;have j:=η hF;clear hF;by_cases p:F=0
 · subst p;obtain⟨t,m⟩ :=o rfl;rw[t]at k;subst k;obtain⟨q,rfl,_,r⟩ :=b.at_ (i:=0) ω;rw[m,show q.add 0=q by simp [Addr.add]]at r;go_wp2;go_ret;exact⟨bZ (by unfold Oo;rw[j.out,af rfl]),by rw[j.out];exact f,d⟩
 clear k;go_wp2;go_ret;exact⟨bZ (by unfold Oo;rw[j.out,aa p]),by rw[j.out];exact f,d⟩
theorem C7 (w:World) (B g n c a:Nat) (A:ay) (l:aj) (e:Int) (h:si w B g A n c l a e) (x:Int):
  Calls Tryz.prog 96 #[xK g, .int .u8 x] w (zS w B g A n c l (xe l a e 1) (GG l a e x) (.returned (.tuple #[]))):=by
 have ht:=λW (v:si W B g A n c l a e)=>ql W B g n c a 1 A l e v ω;unfold xK at ht⊢;go_enter Tryz.func96,Tryz.ntmps96
 go_wp2_with fail;refine(ht w h).mono ?_;rintro E w1 ⟨A1,m1,c1,rfl,f,C,d,b⟩;have c2:=d.cell.cell (i:=2) ω;have z:=d.cell.frozen' (i:=2) ω;unfold pf at c2;have s:=Xy l a e;have m:=f.1;obtain⟨F,hF⟩ :=ν (o0 l a e 1);rw[hF]at c2 d s;have q:=η hF;clear hF;by_cases t:F=0
 rotate_left
 · clear m;have j:Hid (GG l a e x=F):=by show _=_;unfold GG;rw[q.out,aa (λh=>t h.1)]
   go_wp2;refine bj (results_none rfl _ _ _) rfl ?_;exact⟨rfl,by rw[j.out];exact d,b⟩
 subst t;obtain⟨y,o⟩ :=s rfl;rw[y]at m;subst m;obtain⟨u,rfl,_,r⟩ :=f.at_ (i:=0) ω;rw[o,show u.add 0=u by simp [Addr.add]]at r;by_cases k:ix l a=x
 · rw[k]at r;have j:Hid (GG l a e x=0):=by show _=_;unfold GG;rw[q.out,aa (λh=>h.2 k)]
   go_wp2;refine bj (results_none rfl _ _ _) rfl ?_;exact⟨rfl,by rw[j.out];exact d,b⟩
 have j:Hid (GG l a e x=2):=by show _=_;unfold GG;rw[q.out,af ⟨rfl,k⟩]
 go_wp2;refine bj (results_none rfl _ _ _) rfl ?_;exact⟨rfl,by rw[j.out];exact d.fault 2,b.setCell (p:= ⟨g,2,none⟩) (.inl rfl) _⟩
section
variable {w:World}
theorem Eb {f:Array Oper} {o:Oper} {a:Act} {K:Act->World->Prop} {Q:Exit->Act->World->Prop} {E:Prop} (b0:Nat) (i:TypeInfo) (k:Region.wanted o (yielded f a.tmps)=true) (s x:Operand)
  (v:o.op= .call { callee:= .builtin .append,args:= #[s,x],argTypes:= #[65, 65] }) (hi:Tryz.prog.info? 109 =some i) (hz:i.zero=some (.agg #[.int .u8 0, .int .i64 0, .int .i64 0]))
  (d:i.size=3) (p:i.bytes=24) {A:ay} {n c:Nat} {l:List cy} (u:a.eval s= .slice A n c) (b:kh w b0 A n c l)
  {B:Nat} {A':ay} {m c':Nat} {l':List cy} (t:a.eval x= .slice A' m c') (r:mn w B A' m l')
  (q:n+m<=1000000000000) (e:b0<=w.heap.size)
  (h:∀A2 c2 w2,kh w2 b0 A2 (n+m) c2 (l++l')->w.grownBy w2 (ak A)->(ak A2=ak A\/ak A2=some w.heap.size)->K (a.put o.dst (.slice A2 (n+m) c2)) w2):
  if Region.wanted o (yielded f a.tmps)=true then Oper.wp Tryz.prog o a w K Q else E:=by
 rw[af k];obtain⟨A2,c2,w2,g,z,y,h4⟩ :=ia (P:=Tryz.prog) w b0 65 o.type 109 i _ 3 24 Tryz.underlying65 hi hz d p rfl ω A n c _ b.2 B A' m c' _ r.rd (λj _=>JR l' j) q ω e;unfold Oper.wp execOp;simp only [v,resolve,invoke,builtin,Sem.run_bind,Sem.run_pure,Result.andThen_ok,List.map_toArray,List.map_cons,List.map_nil,u,t,g];exact h A2 c2 w2 ⟨by rw[ag,<-b.1,<-r.1],z.congr λj C=>by rw[b.1,JQ]⟩ y h4
end
end Go.Proofs.YtdhmnlpfhfmpfaaGreat
