/-
  part
-/
import Derived.Test.YtgiimmkmjpbecaaGreatPk10
import Derived.BigRegion
import Derived.Deep.RegionLaw
namespace Go.Proofs.YtgiimmkmjpbecaaGreat
open Go.RowKit
set_option linter.unusedVariables false
set_option maxRecDepth 100000
set_option maxHeartbeats 4000000
section
variable {w w' w0:World} {b0 g:Nat} {c c0:Nat->Nat} {R R':RM}
theorem bU.nb (h:bU w0 c0 w b0 g R):R.nb=R.X.length:=h.bits.1
theorem nS (h:bU w0 c0 w b0 g R) (n:Nat) (o:n<=32) (r:R.X.length<=1000000000000) (q:R.at_<=R.X.length) (b:R.X.length<R.at_+n):
  Calls Tryz.prog 49 #[.pointer (some ⟨g,0,none⟩), .int .i64 n] w λe w'=>e= .returned (.tuple #[.int .i64 0, .bool false])/\bU w0 c0 w' b0 g { R with E:=5 }:=by
 obtain⟨-,l, -, -, -,k,j, -⟩ :=h.cells;have f:=h.cell.aH 1;have a:=h.nb;obtain⟨e,c⟩ :=ν (R.at_+n);have m:IntKind.i64.wrap ((R.at_:Int)+(n:Int))=(e:Int):=by rw[aM _ ω];omega
 have p:(R.nb:Int)<(e:Int):=ω;have d:=h.drew.put (i:=1) ω (.int .i64 5) { R with E:=5 } (fS rfl rfl rfl rfl rfl rfl rfl rfl rfl rfl rfl rfl rfl) rfl;clear a c b
 go_in
 go_wp2_with fail;go_region
 all_goals
  go_wp2_with fail
  go_ret2
  exact⟨rfl,d⟩
theorem jX (h:bU w0 c0 w b0 g R) (n:Nat) (D:n<=32) (F:R.X.length<=1000000000000) (o:dH R.X) (r:R.at_+n<=R.X.length) (V:Int) (p:V=((num (R.X.drop R.at_) n:Nat):Int)):
  Calls Tryz.prog 49 #[.pointer (some ⟨g,0,none⟩), .int .i64 n] w λe w'=>e= .returned (.tuple #[.int .i64 V, .bool true])/\bU w0 c0 w' b0 g { R with at_:=R.at_+n }:=by
 obtain⟨A,hi,j,c,f⟩ :=aL uh;obtain⟨-,z, -, -, -,y,x, -⟩ :=h.cells;have u:=h.cell.aH 6;have q:=h.nb;have m:=h.bits.2.iT;obtain⟨e,k⟩ :=ν (R.at_+n);have B:IntKind.i64.wrap ((R.at_:Int)+(n:Int))=(e:Int):=by rw[aM _ ω];omega
 have t:(0:Int)<=(R.at_:Int)/\(R.at_:Int)<=1000000000000/\(n:Int)<=32:=ω;have E:¬(R.nb:Int)<(e:Int):=ω;have C:=jE (P:=Tryz.prog) 22 5 Tryz.underlying22 hi c R.Ab R.nb R.cb (a:=R.at_) (b:=e) ω ω
 have l:∀W,bU w0 c0 W b0 g R->Calls Tryz.prog 58 #[.slice (dw R.Ab R.cb R.at_) (e-R.at_) (R.cb-R.at_)] W λe w'=>e= .returned (.int .i64 V)/\W=w':=λW s=>by
  have:=N8 W W.heap.size (e-R.at_) (R.cb-R.at_) (dw R.Ab R.cb R.at_) ((R.X.drop R.at_).take (e-R.at_)) ((s.bits.rd.dw ω m).pre ω) ((o.dU _).ua _) ω;rw[p,qI (o.dU _),show n=e-R.at_ by omega];exact this
 have YI:=η l;have G:=η k
 have d:Hid (bU w0 c0 (w.setCell ⟨g,6,none⟩ (.int .i64 (e:Int))) b0 g { R with at_:=R.at_+n }):=by
  show bU _ _ _ _ _ _;rw[k];exact h.put (i:=6) ω (.int .i64 e) { R with at_:=e } (fS rfl rfl rfl rfl rfl rfl rfl rfl rfl rfl rfl rfl rfl) rfl
 clear q k r p l hi j c f m
 go_in
 go_wp2_with fail;go_region
 all_goals
  go_wp2_with fail
  go_region_law
   ((go_simp;go_at_call 58;(refine(YI _ (by first | exact h.drew | exact h.drew.drew | exact h.drewN _)).mono ?_))
    rintro e v ⟨rfl,rfl⟩)
  all_goals
   go_wp2_with fail
   go_ret2
   exact⟨rfl,d.drew.drew⟩
def EH (w0:World) (c0:Nat->Nat) (b0 g:Nat) (R:RM) (v:Int) (e:Ending) (w':World):Prop:=
 ∃A' n' c',e= .returned (.bool true)/\bU w0 c0 w' b0 g { R with Ao:=A',no:=n',co:=c',out:=R.out++[v] }
theorem xC (h:bU w0 c0 w b0 g R) (v:Int) (b:R.most<=(R.out.length:Int)):
  Calls Tryz.prog 59 #[.pointer (some ⟨g,0,none⟩), .int .u8 v] w λe w'=>e= .returned (.bool false)/\bU w0 c0 w' b0 g { R with E:=6 }:=by
 obtain⟨l,k, -, -, -, -, -,j, -⟩ :=h.cells;have f:=h.cell.aH 1;have a:=h.out.1;have m:R.most<=(R.no:Int):=ω;have c:¬(R.no:Int)<R.most:=ω;have d:=h.drew.put (i:=1) ω (.int .i64 6) { R with E:=6 } (fS rfl rfl rfl rfl rfl rfl rfl rfl rfl rfl rfl rfl rfl) rfl;clear a b
 go_in
 go_wp2_with fail;go_region
 all_goals
  go_wp2_with fail;go_ret;exact⟨rfl,d⟩
theorem Bu (h:bU w0 c0 w b0 g R) (v:Int) (B:(R.out.length:Int)<R.most) (E:R.out.length<=100000000000):
  Calls Tryz.prog 59 #[.pointer (some ⟨g,0,none⟩), .int .u8 v] w (EH w0 c0 b0 g R v):=by
 obtain⟨u,hi,c,b,a⟩ :=aL uh;have Hi:=η hi;have H:=η c;have G:=η b;have F:=η a;obtain⟨N,M, -, -, -, -, -,L, -⟩ :=h.cells;have n:=h.out.1;have P:(R.no:Int)<R.most:=ω;have C:¬R.most<=(R.no:Int):=ω;have m:R.no+1<=1000000000000:=ω;have j:=h;have z:=(j.out.alloc (.cells #[.int .u8 v] 5)).drew;have A:=(bT.lit .u8 w [v] 5).drewN 1;have D:=j.lo;have O:=h.cell.lt;have i:=h.apart.1;clear n B E hi c b a
 go_in
 go_wp2_with fail;go_region
 all_goals
  go_wp2_with (at_builtin;(refine bm .u8 b0 5 u 1 rfl (.tmp 22) (.tmp 24) _ rfl Tryz.underlying22 Hi.out H.out G.out F.out rfl z rfl A m ω ξ ?_)
               intro l d4 K y f t;have r:=(j.cell.alloc (.cells #[.int .u8 v] 5)).drew.grown f (λe=>i e.symm);have J:=r.az 0;have I:=r.aH 0)
  have o:ai l≠some g:=by
   rcases t with e | e
   · rw[e];exact i
   rw[e];intro s;injection s with s;simp at s;omega
  have h5:=j.a3z (A':=l) (n':=R.no+1) (c':=d4) (l':=R.out++[v]) (((((bb.refl w _).alloc _).drew).grown f (λq x=> .inl (.inr x))).setCell (p:= ⟨g,0,none⟩) (.inl (.inl rfl)) (.slice l (R.no+1) d4)) ((r.cE 0 _).congr (fS rfl rfl rfl rfl rfl rfl rfl rfl rfl rfl rfl rfl rfl)) (y.far (p:= ⟨g,0,none⟩) o _) (λk d=>by
   rcases t with e | e
   · exact .inl (e▸d)
   rw[e]at d;injection d with d;simp at d;exact .inr (by show w.heap.size<=k;omega))
  go_ret;exact⟨l,_,d4,rfl,h5⟩
def EX (w0:World) (c0:Nat->Nat) (b0 g:Nat) (R:RM) (K:Int) (n:Nat) (E:Int) (e:Ending) (w':World):Prop:=
 (E=0/\e= .returned (.tuple #[.int .i64 K, .bool true])/\bU w0 c0 w' b0 g { R with at_:=R.at_+n })\/(E≠0/\e= .returned (.tuple #[.int .i64 0, .bool false])/\bU w0 c0 w' b0 g { R with E:=E })
theorem BA (h:bU w0 c0 w b0 g R) (Al c:ax) (n cl cc:Nat) (l:ag) (j:bT .i64 w w.heap.size Al n l) (k:bT .u32 w w.heap.size c n (jo l)) (q:n<=288) (r:∀i,i<n->0<=ix l i/\ix l i<=15)
  (t:R.X.length<=1000000000000) (m:dH R.X) (G:R.at_<=R.X.length) (K:Int) (N:Nat) (E:Int) (a:aK l (R.X.drop R.at_)=(K,N,E)):
  Calls Tryz.prog 61 #[.pointer (some ⟨g,0,none⟩), .slice Al n cl, .slice c n cc] w (EX w0 c0 b0 g R K N E):=by
 obtain⟨-,C, -, -, -,B,A, -⟩ :=h.cells;have p:=h.nb
 have f:Calls Tryz.prog 67 #[.slice Al n cl, .slice c n cc, .slice R.Ab R.nb R.cb, .int .i64 (R.at_:Nat)] w.drew λe w'=>e= .returned (.tuple #[.int .i64 K, .int .i64 N, .int .i64 E])/\Below w.heap.size w.drew w':=by
  have:=S6 w.drew Al c R.Ab n cl cc R.nb R.cb R.at_ l R.X j k (h.drew.bits.rd) m q r ω ω;unfold jQ at this;rw[a]at this;exact this
 have b:E=0->R.at_+N<=R.X.length:=λe=>by
  have:=js (l:=l) (x:=R.X.drop R.at_) (by rw[a];exact e);rw[a,ay]at this;simp only at this;omega
 have s:Hid (R.X.length<=1000000000000):=t;have Hp:=η f;clear f a p m j k;by_cases hE:E=0
 · subst hE;have b:=b rfl;have v:(0:Int)<=(R.at_:Int)/\(R.at_:Int)<=1000000000000/\(0:Int)<=N/\(N:Int)<=1000000000000:=ω
   go_in
   go_wp2_with fail
   go_region_law
    ((go_simp;go_at_call 67;(refine Hp.mono ?_))
     rintro e o ⟨rfl,d⟩;have h5:=h.drew.keeps d;obtain⟨-, -, -, -, -, -,D, -⟩ :=h5.cells;have y:=h5.cell.aH 6)
   all_goals
    have h6:=h5.put (i:=6) ω (.int .i64 ((R.at_:Int)+(N:Int))) { R with at_:=R.at_+N } (fS rfl rfl rfl rfl rfl rfl rfl rfl rfl rfl rfl rfl rfl) rfl
    go_wp2_with fail
    go_ret2
    exact .inl ⟨rfl,rfl,h6⟩
 have u:(E==0)=false:=by simpa using hE
 go_in
 go_wp2_with fail
 go_region_law
  ((go_simp;go_at_call 67;(refine Hp.mono ?_))
   rintro e o ⟨rfl,d⟩;have h5:=h.drew.keeps d;obtain⟨-,F, -⟩ :=h5.cells;have z:=h5.cell.aH 1)
 all_goals
  have h6:=h5.put (i:=1) ω (.int .i64 E) { R with E:=E } (fS rfl rfl rfl rfl rfl rfl rfl rfl rfl rfl rfl rfl rfl) rfl
  go_wp2_with fail
  go_ret2
  exact .inr ⟨hE,rfl,h6⟩
end
end Go.Proofs.YtgiimmkmjpbecaaGreat
