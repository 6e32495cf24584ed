/-
  part
-/
import Derived.Test.YtdhmnlpfhfmpfaaGreatPk10
import Derived.BigRegion
import Derived.Deep.RegionLaw
namespace Go.Proofs.YtdhmnlpfhfmpfaaGreat
open Go.RowKit
set_option linter.unusedVariables false
set_option maxRecDepth 100000
set_option maxHeartbeats 4000000
section
variable {w w' w0:World} {b0 g:Nat} {c c0:Nat->Nat} {R R':RM}
theorem bV.nb (h:bV w0 c0 w b0 g R):R.nb=R.X.length:=h.bits.1
theorem oa (h:bV w0 c0 w b0 g R) (n:Nat) (o:n<=32) (r:R.X.length<=1000000000000) (q:R.at_<=R.X.length) (b:R.X.length<R.at_+n):
  Calls Tryz.prog 50 #[.pointer (some ⟨g,0,none⟩), .int .i64 n] w λe w'=>e= .returned (.tuple #[.int .i64 0, .bool false])/\bV w0 c0 w' b0 g { R with E:=5 }:=by
 obtain⟨-,l, -, -, -,k,j, -⟩ :=h.cells;have f:=h.cell.frozen' (i:=1) ω;have a:=h.nb;obtain⟨e,c⟩ :=ν (R.at_+n);have m:IntKind.i64.wrap ((R.at_:Int)+(n:Int))=(e:Int):=by rw[aM _ ω];omega
 have p:(R.nb:Int)<(e:Int):=ω;have d:=h.drew.put (i:=1) ω (.int .i64 5) { R with E:=5 } (fR rfl rfl rfl rfl rfl rfl rfl rfl rfl rfl rfl rfl rfl) rfl;clear a c b;go_enter Tryz.func50,Tryz.ntmps50
 go_wp2_with fail;go_region
 all_goals
  go_wp2_with fail
  go_ret2
  exact⟨rfl,d⟩
theorem jZ (h:bV w0 c0 w b0 g R) (n:Nat) (D:n<=32) (F:R.X.length<=1000000000000) (o:dO R.X) (r:R.at_+n<=R.X.length) (V:Int) (p:V=((num (R.X.drop R.at_) n:Nat):Int)):
  Calls Tryz.prog 50 #[.pointer (some ⟨g,0,none⟩), .int .i64 n] w λe w'=>e= .returned (.tuple #[.int .i64 V, .bool true])/\bV w0 c0 w' b0 g { R with at_:=R.at_+n }:=by
 obtain⟨A,hi,j,c,f⟩ :=aL ux;obtain⟨-,z, -, -, -,y,x, -⟩ :=h.cells;have u:=h.cell.frozen' (i:=6) ω;have q:=h.nb;have m:=h.bits.2.jT;obtain⟨e,k⟩ :=ν (R.at_+n);have B:IntKind.i64.wrap ((R.at_:Int)+(n:Int))=(e:Int):=by rw[aM _ ω];omega
 have t:(0:Int)<=(R.at_:Int)/\(R.at_:Int)<=1000000000000/\(n:Int)<=32:=ω;have E:¬(R.nb:Int)<(e:Int):=ω;have C:=fW (P:=Tryz.prog) 22 5 Tryz.underlying22 hi c R.Ab R.nb R.cb (a:=R.at_) (b:=e) ω ω
 have l:∀W,bV w0 c0 W b0 g R->Calls Tryz.prog 69 #[.slice (dr R.Ab R.cb R.at_) (e-R.at_) (R.cb-R.at_)] W λe w'=>e= .returned (.int .i64 V)/\W=w':=λW s=>by
  have:=Mn W W.heap.size (e-R.at_) (R.cb-R.at_) (dr R.Ab R.cb R.at_) ((R.X.drop R.at_).take (e-R.at_)) ((s.bits.rd.dr ω m).pre ω) ((o.ed _).um _) ω;rw[p,qW (o.ed _),show n=e-R.at_ by omega];exact this
 have GL:=η l;have G:=η k
 have d:Hid (bV w0 c0 (w.setCell ⟨g,6,none⟩ (.int .i64 (e:Int))) b0 g { R with at_:=R.at_+n }):=by
  show bV _ _ _ _ _ _;rw[k];exact h.put (i:=6) ω (.int .i64 e) { R with at_:=e } (fR rfl rfl rfl rfl rfl rfl rfl rfl rfl rfl rfl rfl rfl) rfl
 clear q k r p l hi j c f m;go_enter Tryz.func50,Tryz.ntmps50
 go_wp2_with fail;go_region
 all_goals
  go_wp2_with fail
  go_region_law
   ((go_simp;go_at_call 69;(refine(GL.out _ (by first | exact h.drew | exact h.drew.drew | exact h.drewN _)).mono ?_))
    rintro e v ⟨rfl,rfl⟩)
  all_goals
   go_wp2_with fail
   go_ret2
   exact⟨rfl,d.out.drew.drew⟩
def Es (w0:World) (c0:Nat->Nat) (b0 g:Nat) (R:RM) (v:Int) (e:Ending) (w':World):Prop:=
 ∃A' n' c',e= .returned (.bool true)/\bV w0 c0 w' b0 g { R with Ao:=A',no:=n',co:=c',out:=R.out++[v] }
theorem xX (h:bV w0 c0 w b0 g R) (v:Int) (b:R.most<=(R.out.length:Int)):
  Calls Tryz.prog 70 #[.pointer (some ⟨g,0,none⟩), .int .u8 v] w λe w'=>e= .returned (.bool false)/\bV w0 c0 w' b0 g { R with E:=6 }:=by
 obtain⟨l,k, -, -, -, -, -,j, -⟩ :=h.cells;have f:=h.cell.frozen' (i:=1) ω;have a:=h.out.1;have m:R.most<=(R.no:Int):=ω;have c:¬(R.no:Int)<R.most:=ω;have d:=h.drew.put (i:=1) ω (.int .i64 6) { R with E:=6 } (fR rfl rfl rfl rfl rfl rfl rfl rfl rfl rfl rfl rfl rfl) rfl;clear a b;go_enter Tryz.func70,Tryz.ntmps70
 go_wp2_with fail;go_region
 all_goals
  go_wp2_with fail;go_ret;exact⟨rfl,d⟩
theorem BB (h:bV w0 c0 w b0 g R) (v:Int) (C:(R.out.length:Int)<R.most) (F:R.out.length<=100000000000):
  Calls Tryz.prog 70 #[.pointer (some ⟨g,0,none⟩), .int .u8 v] w (Es w0 c0 b0 g R v):=by
 obtain⟨x,hi,c,b,a⟩ :=aL ux;have Hi:=η hi;have I:=η c;have H:=η b;have G:=η a;obtain⟨O,N, -, -, -, -, -,M, -⟩ :=h.cells;have o:=h.out.1;have Q:(R.no:Int)<R.most:=ω;have D:¬R.most<=(R.no:Int):=ω;have n:R.no+1<=1000000000000:=ω;have l:=h;have A:=(l.out.alloc (.cells #[.int .u8 v] 5)).drew;have B:=(bT.lit .u8 w [v] 5).drewN 1;have E:=l.lo;have P:=h.cell.lt;have j:=h.apart.1;clear o C F hi c b a;go_enter Tryz.func70,Tryz.ntmps70
 go_wp2_with fail;go_region
 all_goals
  go_wp2_with (at_builtin;(refine bq .u8 b0 5 x 1 rfl (.tmp 22) (.tmp 24) _ rfl Tryz.underlying22 Hi.out I.out H.out G.out rfl A rfl B n ω ξ ?_)
               intro m d4 L z f u;have s:=(l.cell.alloc (.cells #[.int .u8 v] 5)).drew.grown f (λe=>j e.symm);have K:=s.cell (i:=0) ω;have J:=s.frozen' (i:=0) ω)
  have r:ak m≠some g:=by
   rcases u with e | e
   · rw[e];exact j
   rw[e];intro t;injection t with t;simp at t;omega
  have h5:=l.a4u (A':=m) (n':=R.no+1) (c':=d4) (l':=R.out++[v]) (((((bk.refl w _).alloc _).drew).grown f (λq y=> .inl (.inr y))).setCell (p:= ⟨g,0,none⟩) (.inl (.inl rfl)) (.slice m (R.no+1) d4)) ((s.bK (i:=0) ω _).congr (fR rfl rfl rfl rfl rfl rfl rfl rfl rfl rfl rfl rfl rfl)) (z.far (p:= ⟨g,0,none⟩) r _) (λk d=>by
   rcases u with e | e
   · exact .inl (e▸d)
   rw[e]at d;injection d with d;simp at d;exact .inr (by show w.heap.size<=k;omega))
  go_ret;exact⟨m,_,d4,rfl,h5⟩
def ED (w0:World) (c0:Nat->Nat) (b0 g:Nat) (R:RM) (K:Int) (n:Nat) (E:Int) (e:Ending) (w':World):Prop:=
 (E=0/\e= .returned (.tuple #[.int .i64 K, .bool true])/\bV w0 c0 w' b0 g { R with at_:=R.at_+n })\/(E≠0/\e= .returned (.tuple #[.int .i64 0, .bool false])/\bV w0 c0 w' b0 g { R with E:=E })
theorem BG (h:bV w0 c0 w b0 g R) (Al c:ay) (n cl cc:Nat) (l:aj) (j:bT .i64 w w.heap.size Al n l) (k:bT .u32 w w.heap.size c n (jk l)) (q:n<=288) (r:∀i,i<n->0<=ix l i/\ix l i<=15)
  (t:R.X.length<=1000000000000) (m:dO R.X) (G:R.at_<=R.X.length) (K:Int) (N:Nat) (E:Int) (a:aK l (R.X.drop R.at_)=(K,N,E)):
  Calls Tryz.prog 72 #[.pointer (some ⟨g,0,none⟩), .slice Al n cl, .slice c n cc] w (ED w0 c0 b0 g R K N E):=by
 obtain⟨-,C, -, -, -,B,A, -⟩ :=h.cells;have p:=h.nb
 have f:Calls Tryz.prog 94 #[.slice Al n cl, .slice c n cc, .slice R.Ab R.nb R.cb, .int .i64 (R.at_:Nat)] w.drew λe w'=>e= .returned (.tuple #[.int .i64 K, .int .i64 N, .int .i64 E])/\Below w.heap.size w.drew w':=by
  have:=Rj w.drew Al c R.Ab n cl cc R.nb R.cb R.at_ l R.X j k (h.drew.bits.rd) m q r ω ω;unfold jQ at this;rw[a]at this;exact this
 have b:E=0->R.at_+N<=R.X.length:=λe=>by
  have:=jn (l:=l) (x:=R.X.drop R.at_) (by rw[a];exact e);rw[a,az]at this;simp only at this;omega
 have s:Hid (R.X.length<=1000000000000):=t;have GP:=η f;clear f a p m j k;by_cases hE:E=0
 · subst hE;have b:=b rfl;have v:(0:Int)<=(R.at_:Int)/\(R.at_:Int)<=1000000000000/\(0:Int)<=N/\(N:Int)<=1000000000000:=ω;go_enter Tryz.func72,Tryz.ntmps72
   go_wp2_with fail
   go_region_law
    ((go_simp;go_at_call 94;(refine GP.out.mono ?_))
     rintro e o ⟨rfl,d⟩;have h5:=h.drew.keeps d;obtain⟨-, -, -, -, -, -,D, -⟩ :=h5.cells;have y:=h5.cell.frozen' (i:=6) ω)
   all_goals
    have h6:=h5.put (i:=6) ω (.int .i64 ((R.at_:Int)+(N:Int))) { R with at_:=R.at_+N } (fR rfl rfl rfl rfl rfl rfl rfl rfl rfl rfl rfl rfl rfl) rfl
    go_wp2_with fail
    go_ret2
    exact .inl ⟨rfl,rfl,h6⟩
 have u:(E==0)=false:=by simpa using hE
 go_enter Tryz.func72,Tryz.ntmps72
 go_wp2_with fail
 go_region_law
  ((go_simp;go_at_call 94;(refine GP.out.mono ?_))
   rintro e o ⟨rfl,d⟩;have h5:=h.drew.keeps d;obtain⟨-,F, -⟩ :=h5.cells;have z:=h5.cell.frozen' (i:=1) ω)
 all_goals
  have h6:=h5.put (i:=1) ω (.int .i64 E) { R with E:=E } (fR rfl rfl rfl rfl rfl rfl rfl rfl rfl rfl rfl rfl rfl) rfl
  go_wp2_with fail
  go_ret2
  exact .inr ⟨hE,rfl,h6⟩
end
end Go.Proofs.YtdhmnlpfhfmpfaaGreat
