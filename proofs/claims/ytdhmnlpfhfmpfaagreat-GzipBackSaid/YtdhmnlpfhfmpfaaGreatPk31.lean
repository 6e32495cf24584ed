/-
  part
-/
import Derived.Test.YtdhmnlpfhfmpfaaGreatPk23
import Derived.Test.YtdhmnlpfhfmpfaaGreatRgz
set_option linter.unusedVariables false
set_option maxRecDepth 100000
set_option maxHeartbeats 4000000
namespace Go.Proofs.YtdhmnlpfhfmpfaaGreat
open Go.RowKit
def geF (ge:Nat) (H:GH) (s z:Int) (T:GH):Nat->Value
 | 0=> .pointer (some ⟨ge,0,none⟩)
 | 1=> .slice H.A H.n H.c
 | 2=> .int .u32 s
 | 3=> .int .u32 z
 | _=> .slice T.A T.n T.c
def PX (g:Nat) (c:Nat->Nat) (H T:GH):Nat->Prop:=λk=>k=g\/ak H.A=some k\/ak T.A=some k\/c k≠0
structure Eu (w:World) (b0 b1 g ge:Nat) (c:Nat->Nat) (M:EM) (d:kM) (done:Bool) (H:GH) (s z:Int) (T:GH):Prop where
 cell:Ar w g 5 (geF ge H s z T)
 lo:b0<=g
 lo1:b0<=b1
 enc:ik w b1 ge c M d done
 hd:ba .u8 w b0 5 H.A H.n H.c H.l
 tl:ba .u8 w b0 5 T.A T.n T.c T.l
 cg:c g=0
 ch:∀k,ak H.A=some k->c k=0/\k≠g
 ct:∀k,ak T.A=some k->c k=0/\k≠g
 ht:∀k,ak H.A=some k->ak T.A≠some k
 sm:(0<=s/\s<4294967296)/\0<=z/\z<4294967296
def Cf (w:World) (b0 g:Nat) (E:Nat->Prop) (d:kM) (done:Bool) (hd:aj) (s z:Int) (tl:aj):Prop:=
 ∃b1 ge c M H T,Eu w b0 b1 g ge c M d done H s z T/\E=PX g c H T/\H.l=hd/\T.l=tl
section
variable {w w' w0:World} {b0 b1 g ge:Nat} {c c':Nat->Nat} {M M':EM} {d d':kM} {done done':Bool} {H T:GH} {s s' z z':Int} {E E':Nat->Prop} {hd tl:aj}
theorem Eu.low (h:Eu w b0 b1 g ge c M d done H s z T):b0<=w.heap.size:=aw h.lo (dh h.cell.lt)
theorem Eu.Cr (h:Eu w b0 b1 g ge c M d done H s z T):∀k,PX g c H T k->b0<=k/\k<w.heap.size:=λk a=>by
 rcases a with rfl | a | a | a
 · exact⟨h.lo,h.cell.lt⟩
 · exact h.hd.2.lt a
 · exact h.tl.2.lt a
 exact⟨aw h.lo1 (h.enc.cb k a).1,(h.enc.cb k a).2⟩
theorem Eu.cells (h:Eu w b0 b1 g ge c M d done H s z T):w.cell? ⟨g,0,none⟩ =some (.pointer (some ⟨ge,0,none⟩))/\w.cell? ⟨g,1,none⟩ =some (.slice H.A H.n H.c)/\w.cell? ⟨g,2,none⟩ =some (.int .u32 s)/\w.cell? ⟨g,3,none⟩ =some (.int .u32 z)/\w.cell? ⟨g,4,none⟩ =some (.slice T.A T.n T.c):=
 ⟨h.cell.cell (i:=0) ω,h.cell.cell (i:=1) ω,h.cell.cell (i:=2) ω,h.cell.cell (i:=3) ω,h.cell.cell (i:=4) ω⟩
theorem Eu.keeps (h:Eu w b0 b1 g ge c M d done H s z T) (a:Below w.heap.size w w'):Eu w' b0 b1 g ge c M d done H s z T:=
 ⟨h.cell.keeps a,h.lo,h.lo1,h.enc.keeps a,h.hd.keeps a,h.tl.keeps a,h.cg,h.ch,h.ct,h.ht,h.sm⟩
theorem Cf.keeps (h:Cf w b0 g E d done hd s z tl) (a:Below w.heap.size w w'):Cf w' b0 g E d done hd s z tl:=by
 obtain⟨b1,ge,c,M,H,T,e,b⟩ :=h;exact⟨b1,ge,c,M,H,T,e.keeps a,b⟩
theorem Cf.low (h:Cf w b0 g E d done hd s z tl):b0<=w.heap.size:=by
 obtain⟨b1,ge,c,M,H,T,a,b⟩ :=h;exact a.low
theorem Cf.Cr (h:Cf w b0 g E d done hd s z tl):∀k,E k->b0<=k/\k<w.heap.size:=by
 obtain⟨b1,ge,c,M,H,T,a,rfl,_⟩ :=h;exact a.Cr
theorem Eu.turn (h:Eu w b0 b1 g ge c M d done H s z T) (b:ik w' b1 ge c' M' d' done') (hd:DE b1 w c w' c'):Eu w' b0 b1 g ge c' M' d' done' H s z T:=
 ⟨hd.2.1.ar h.cell (λe=>e h.cg),h.lo,h.lo1,b,hd.2.1.dX h.hd (λk a e=>e (h.ch k a).1),hd.2.1.dX h.tl (λk a e=>e (h.ct k a).1),by rw[hd.2.2 g h.cell.lt];exact h.cg,
   λk a=> ⟨by rw[hd.2.2 k (h.hd.2.lt a).2];exact(h.ch k a).1,(h.ch k a).2⟩,λk a=> ⟨by rw[hd.2.2 k (h.tl.2.lt a).2];exact(h.ct k a).1,(h.ct k a).2⟩,h.ht,h.sm⟩
theorem Eu.ext (h:Eu w b0 b1 g ge c M d done H s z T) (e:ik w' b1 ge c' M' d' done') (hd:DE b1 w c w' c'):Ext b0 w w' (PX g c H T) (PX g c' H T):=
 ⟨hd.1.mono h.lo1,hd.2.1.more λk a=> .inr (.inr (.inr a)),λk a=>by
   rcases a with a | a | a | a
   · exact .inl (.inl a)
   · exact .inl (.inr (.inl a))
   · exact .inl (.inr (.inr (.inl a)))
   rcases aV k w.heap.size with b | b
   · exact .inl (.inr (.inr (.inr (by rw[<-hd.2.2 k b];exact a))))
   exact .inr b⟩
theorem Eu.own (h:Eu w b0 b1 g ge c M d done H s z T) {H' T':GH} (b:bk w w' (λk=>k=g)) (e:Ar w' g 5 (geF ge H' s' z' T')) (i:ba .u8 w' b0 5 H'.A H'.n H'.c H'.l) (f:ba .u8 w' b0 5 T'.A T'.n T'.c T'.l)
  (ch:∀k,ak H'.A=some k->c k=0/\k≠g) (ct:∀k,ak T'.A=some k->c k=0/\k≠g) (ht:∀k,ak H'.A=some k->ak T'.A≠some k) (sm:(0<=s'/\s'<4294967296)/\0<=z'/\z'<4294967296):Eu w' b0 b1 g ge c M d done H' s' z' T':=
 ⟨e,h.lo,h.lo1,h.enc.aside b (λk a=>by rw[a];exact h.cg),i,f,h.cg,ch,ct,ht,sm⟩
theorem Cf.fC {F:Nat->Prop} (h:Cf w b0 g E d done hd s z tl) (f:bk w w' F) (hF:∀k,F k->¬E k):Cf w' b0 g E d done hd s z tl:=by
 obtain⟨b1,ge,c,M,H,T,a,rfl,i⟩ :=h;refine⟨b1,ge,c,M,H,T, ⟨f.ar a.cell (λe=>hF g e (.inl rfl)),a.lo,a.lo1,a.enc.aside f (λk b=> ?_),f.dX a.hd (λk b e=>hF k e (.inr (.inl b))),f.dX a.tl (λk b e=>hF k e (.inr (.inr (.inl b)))),a.cg,a.ch,a.ct,a.ht,a.sm⟩,rfl,i⟩;rcases bY (c k)with h4 | h4
 · exact h4
 exact absurd (.inr (.inr (.inr ω))) (hF k b)
end
theorem ik.new {w2:World} {b0 gf gm gw:Nat} (lev:Int) (hf:eG w2 b0 gf (gS lev) J9 0 none 0 0 gm 0 (.map []) none 0 0) (c:qw w2 b0 gw none 0 0 []) (p:gf≠gw) (o:gm≠gw) (t:TypeId):
  ik (w2.alloc (.cells #[.pointer (some ⟨gf,0,none⟩), .pointer (some ⟨gw,0,none⟩), .int .i64 lev, .slice none 0 0, .slice none 0 0, .bool false] t)) b0 w2.heap.size
   (λk=>if k=w2.heap.size then 1 else if k=gf\/k=gm then 2 else if k=gw then 3 else 0)
   ⟨gf,none,0,0,gm,none,0,0,gw,none,0,0,none,0,0,none,0,0⟩ (oO lev) false:=by
 have n:b0<=gf/\gf<w2.heap.size:=hf.eK (.inl rfl);have m:b0<=gm/\gm<w2.heap.size:=hf.eK (.inr (.inl rfl));have l:b0<=gw/\gw<w2.heap.size:=c.eK (.inl rfl);have d:Below w2.heap.size w2 (w2.alloc (.cells #[.pointer (some ⟨gf,0,none⟩), .pointer (some ⟨gw,0,none⟩), .int .i64 lev, .slice none 0 0, .slice none 0 0, .bool false] t)):=(ax _ _).alloc (ai _) _;refine⟨Ar.new _ _ _ rfl λi hi=> ?_,af rfl, ⟨0, .map [],hf.keeps d⟩,λk a=> ?_,c.keeps d,λk a=> ?_,ba.dN,λk a=>by simp [ak]at a, ⟨rfl,Own.dN⟩,λk a=>by simp [ak]at a,λk a=> ?_⟩
 · obtain rfl | rfl | rfl | rfl | rfl | rfl:i=0\/i=1\/i=2\/i=3\/i=4\/i=5:=ω;all_goals rfl
 · have b:k=gf\/k=gm:=by
    rcases a with h | h | h | h
    · exact .inl h
    · exact .inr h
    · simp [ak]at h
    simp [ak]at h
   show(if k=w2.heap.size then 1 else if k=gf\/k=gm then 2 else if k=gw then 3 else 0)=2;rw[aa ω,af b]
 · have b:k=gw:=by
    rcases a with h | h
    · exact h
    simp [ak]at h
   show(if k=w2.heap.size then 1 else if k=gf\/k=gm then 2 else if k=gw then 3 else 0)=3;rw[aa ω,aa ω,af b]
 have e:(w2.alloc (.cells #[.pointer (some ⟨gf,0,none⟩), .pointer (some ⟨gw,0,none⟩), .int .i64 lev, .slice none 0 0, .slice none 0 0, .bool false] t)).heap.size=w2.heap.size+1:=σ;rw[e];by_cases j:k=w2.heap.size
 · omega
 by_cases g:k=gf\/k=gm
 · omega
 by_cases f:k=gw
 · omega
 exact absurd (by show(if k=w2.heap.size then 1 else if k=gf\/k=gm then 2 else if k=gw then 3 else 0)=0;rw[aa j,aa g,aa f]) a
theorem TM (lev:Int) (w:World) (k: -9223372036854775808<=lev/\lev<=9223372036854775807):
  Calls Tryz.prog 24 #[.int .i64 lev] w λe w'=>∃g c M,e= .returned (.pointer (some ⟨g,0,none⟩))/\ik w' w.heap.size g c M (oO lev) false/\Below w.heap.size w w':=by
 have p:=η (U3 lev w k);clear k;go_enter Tryz.func24,Tryz.ntmps24
 go_wp2_with fail;refine p.out.mono ?_;rintro e w1 ⟨gf,gm,rfl,hf,i⟩;have f:=η (⟨hf,i⟩ :_/\_);clear hf i
 go_wp2_with fail;refine(N4 w1).mono ?_;rintro e w2 ⟨gw,rfl,b,a⟩;have h:=f.out.1.keeps a;have j:=ik.new (b0:=w.heap.size) lev h ⟨b.cell,aw f.out.2.size b.lo,b.own.more f.out.2.size,b.apart,b.bit⟩ (λe=>by have n:=(f.out.1.eK (.inl rfl)).2;have m:=b.lo;omega) (λe=>by have n:=(f.out.1.eK (.inr (.inl rfl))).2;have m:=b.lo;omega) 79;have d:=λo:Obj=>(f.out.2.trans (a.mono f.out.2.size)).alloc (aw f.out.2.size a.size) o;have l:=η (⟨j,d⟩ :_/\_);clear h j b a d
 go_wp2_with fail;go_ret;exact⟨_,_,_,rfl,l.out.1,l.out.2 _⟩
theorem PM (w:World) (b0 g:Nat) (c:Nat->Nat) (M:EM) (d:kM) (done:Bool) (h:ik w b0 g c M d done):
  Calls Tryz.prog 29 #[.pointer (some ⟨g,0,none⟩)] w λe w'=>e= .returned (.slice M.Aw M.nw M.cw)/\ba .u8 w' b0 5 M.Aw M.nw M.cw (ke d.L)/\qw w' b0 M.gw none 0 0 (rest d.L)/\bk w w' (λk=>k=M.gw):=by
 obtain⟨c0,c1,c2,l,j,i⟩ :=h.cells;have n:=η (K1 w b0 M.gw M.nw M.cw M.Aw _ h.RI);clear h c0 c2 l j i;go_enter Tryz.func29,Tryz.ntmps29
 go_wp2_with fail;refine n.out.mono ?_;rintro e w1 ⟨rfl,f,b,a⟩;have m:=η (⟨f,b,a⟩ :_/\_/\_);clear f b a
 go_wp2_with fail;go_ret;exact⟨rfl,m.out⟩
theorem five {P:Nat->Prop} (d:P 0) (c:P 1) (b:P 2) (a:P 3) (h4:P 4):∀i,i<5->P i:=λi hi=>by
 obtain rfl | rfl | rfl | rfl | rfl:i=0\/i=1\/i=2\/i=3\/i=4:=ω;all_goals assumption
theorem PY (lev:Int) (w:World) (D: -9223372036854775808<=lev/\lev<=9223372036854775807) (B:Nat) (h:HP) (X:ay) (m cc:Nat) (x:bT .u8 w B X m h.xl) (I:B<=w.heap.size) (H:h.bd) (a:h.ok=true) (u:m<=100000) (z:h.nl.length<=100000) (G:h.cl.length<=100000):
  Calls Tryz.prog 7 #[.int .i64 lev,hagg (h.v (.slice X m cc))] w λe w'=>∃g E,e= .returned (.tuple #[.pointer (some ⟨g,0,none⟩), .int .i64 0])/\Cf w' w.heap.size g E (oO lev) false h.p4 0 0 []/\Below w.heap.size w w':=by
 obtain⟨P4,d⟩ :=ν (h.p4);obtain⟨O,i⟩ :=ν (h.ok);rw[i]at a;subst a;have HP_:=η (λ(o:Obj)=>DV (w.alloc o) B h X m cc (x.alloc I _) ξ H u z G);have N:=η (λW=>TM lev W D);unfold CW at HP_;rw[d,i]at HP_;rw[d];clear D x I H u z G d i;obtain⟨tx,sm,tm,fl,sy,xl,hE,nl,cl,hN,hC⟩ :=h;unfold hagg HP.v at HP_⊢;dsimp only at HP_⊢;go_enter Tryz.func7,Tryz.ntmps7
 go_wp2_with fail;refine(HP_.out _).mono ?_;rintro e w1 (⟨-,A,n,c0,rfl,y,p⟩ | ⟨q, -⟩)
 case inr=>cases q
 have K:∀o,Below w.heap.size w (w.alloc o):=λo=>(ax w.heap.size w).alloc (ai _) o;have j:=η (⟨y.more (by simp:w.heap.size<=_),(K _).trans (p.mono σ)⟩ :_/\_);clear y p HP_
 go_wp2_with fail;refine(N.out _).mono ?_;rintro e w2 ⟨ge,c,M,rfl,t,b⟩;have hA:=j.out.1.keeps b;have s:=j.out.2.trans (b.mono j.out.2.size);have C:w.heap.size<=w2.heap.size:=s.size
 have F:∀o,Hid (Cf (w2.alloc (.cells #[.pointer (some ⟨ge,0,none⟩), .slice A n c0, .int .u32 0, .int .u32 0, .slice none 0 0] o)) w.heap.size w2.heap.size (PX w2.heap.size c ⟨A,n,c0,P4⟩ rX) (oO lev) false P4 0 0 []/\Below w.heap.size w (w2.alloc (.cells #[.pointer (some ⟨ge,0,none⟩), .slice A n c0, .int .u32 0, .int .u32 0, .slice none 0 0] o))):=λo=>by
  have r:=s.alloc C (.cells #[.pointer (some ⟨ge,0,none⟩), .slice A n c0, .int .u32 0, .int .u32 0, .slice none 0 0] o);have l:=(ax w2.heap.size w2).alloc (ai _) (.cells #[.pointer (some ⟨ge,0,none⟩), .slice A n c0, .int .u32 0, .int .u32 0, .slice none 0 0] o)
  have hz:∀k,k<w1.heap.size\/w2.heap.size<=k->c k=0:=λk a=>by
   rcases bY (c k)with h | h
   · exact h
   have:=t.cb k ω;omega
  have J:∀k,ak A=some k->k<w1.heap.size:=λk a=>(j.out.1.2.lt a).2;have L:=Ar.new w2 #[.pointer (some ⟨ge,0,none⟩), .slice A n c0, .int .u32 0, .int .u32 0, .slice none 0 0] o (m:=5) (f:=geF ge ⟨A,n,c0,P4⟩ 0 0 rX) rfl (five rfl rfl rfl rfl rfl);refine⟨⟨w1.heap.size,ge,c,M, ⟨A,n,c0,P4⟩,rX, ⟨L,C,j.out.2.size,t.keeps l,hA.keeps l,ba.dN,hz _ (.inr (ai _)),λk a=> ⟨hz k (.inl (J k a)),ε (J k a) b.size⟩,λk a=>by simp [rX,ak]at a,λk a=>by simp [rX,ak],δ⟩,rfl,rfl,rfl⟩,r⟩
 clear t b s hA j
 go_wp2_with fail;go_returns;exact⟨_,_,rfl,(F _).out.1,(F _).out.2⟩
section
variable {w:World} {b0 g:Nat} {E:Nat->Prop} {d:kM} {hd tl:aj} {s z:Int}
theorem ym (h:Cf w b0 g E d false hd s z tl) {K:Nat} {X P:aj} (Z:DB K X P d) (C:ay) (m e:Nat) (x:aj) (F:bT .u8 w w.heap.size C m x) (Yb:m<=e) (N:0<m->∀l,C=some l->¬E l.block) (q:∀v∈x,0<=v/\v<256) (O:(X++x).length<=16777216) (Y:K+100*m<=2000000000000) (hz:z+m<4294967296):
  Calls Tryz.prog 8 #[.pointer (some ⟨g,0,none⟩), .slice C m e] w λr w'=>r= .returned (.int .i64 0)/\∃E',Cf w' b0 g E' (dZ m d x) false hd (vM s x) (z+m) tl/\Ext b0 w w' E E':=by
 obtain⟨b1,ge,c,M,H,T,G,rfl,rfl,rfl⟩ :=h;obtain⟨W,L,J,D,I⟩ :=G.cells
 have o:0<m->∀l,C=some l->c l.block=0:=λU l e=>by
  rcases bY (c l.block)with hz | hz
  · exact hz
  exact absurd (.inr (.inr (.inr ω))) (N U l e)
 have HW:=η (L6 w b1 ge c M d G.enc Z C m e x F Yb o q O Y);have hm:m<=1000000000:=by rw[ag]at O;have:=F.1;omega
 have Fj:(0:Int)<=(m:Int)/\(m:Int)<=1000000000:=ω;have n:=η (⟨G,F,N,q,o,hz⟩ :_/\_/\_/\_/\_/\_);clear G F N q O Y Z L J D I o hz;go_enter Tryz.func8,Tryz.ntmps8
 go_wp2_with fail;refine HW.out.mono ?_;rintro r w1 ⟨rfl,M1,c1,R,A⟩;have a:=n.out.1.turn R A;have f:=n.out.1.ext R A;have y:=A.2.1.ri n.out.2.1 (ai _) (λU l e hc=>hc (n.out.2.2.2.2.1 U l e));have Q:=zt s C m e w1.heap.size x w1 (y.more A.2.1.size) (ai _) (zr n.out.2.2.2.1) a.sm.1 hm;obtain⟨W,L,J,D,I⟩ :=a.cells;have e1:iz (mq (iz s) x m)=vM s x:=by rw[n.out.2.1.1];rfl
 rw[e1]at Q;have RP:=η Q;have B:=η (⟨a,f⟩ :_/\_);clear Q e1 R A a f y HW D
 go_wp2_with fail;refine RP.out.mono ?_;rintro r w2 ⟨rfl,t⟩;have a:=B.out.1.keeps t;have f:=B.out.2.trans (Ext.of (bk.bJ (S:=PX g c1 H T) t) (λk b=>(B.out.1.Cr k b).1) B.out.1.low (λk b=> .inl b));obtain⟨W,L,J,D,I⟩ :=a.cells;have z2:=a.cell.frozen' (i:=2) ω;have z3:=a.cell.frozen' (i:=3) ω;have ae:IntKind.u32.wrap (m:Int)=(m:Int):=IntWalk.u32_in _ ω;have ac:=a.sm.2;have ab:IntKind.u32.wrap (z+(m:Int))=z+(m:Int):=IntWalk.u32_in _ (τ n.out.2.2.2.2.2);have j:bk w2 ((w2.setCell ⟨g,2,none⟩ (.int .u32 (vM s x))).setCell ⟨g,3,none⟩ (.int .u32 (z+m))) (λk=>k=g):=((bk.refl w2 (λk=>k=g)).setCell (p:= ⟨g,2,none⟩) (.inl rfl) _).setCell (p:= ⟨g,3,none⟩) (.inl rfl) _;have h4:=a.own (s':=vM s x) (z':=z+m) (H':=H) (T':=T) j (((a.cell.bK (i:=2) ω _).bK (i:=3) ω _).congr (five rfl rfl rfl rfl rfl)) (j.dX a.hd (λk b e=>(a.ch k b).2 e)) (j.dX a.tl (λk b e=>(a.ct k b).2 e)) a.ch a.ct a.ht ⟨KQ a.sm.1 n.out.2.2.2.1,τ n.out.2.2.2.2.2⟩;have u:=f.trans (Ext.of (j.more λk b=>(.inl b:PX g c1 H T k)) (λk b=>(a.Cr k b).1) a.low (λk b=> .inl b));have V:=η (⟨h4,u⟩ :_/\_);obtain⟨v,hv⟩ :=ν (vM s x);rw[hv]at V⊢;have YD:=η hv;clear h4 u j f a t B hv
 go_wp2_with fail;go_ret;exact⟨rfl,_, ⟨b1,ge,c1,M1,H,T,by rw[YD.out];exact V.out.1,rfl,rfl,rfl⟩,V.out.2⟩
theorem I9 (h:Cf w b0 g E d false hd s z tl) {K:Nat} {X P:aj} (hB:DB K X P d) (hK:K+100<=2000000000000):
  Calls Tryz.prog 9 #[.pointer (some ⟨g,0,none⟩)] w λr w'=>r= .returned (.int .i64 0)/\∃E',Cf w' b0 g E' (ot d) true hd s z (pG 4 s++pG 4 z)/\Ext b0 w w' E E':=by
 obtain⟨i0,hi,x,u,t⟩ :=aL ow;have Hi:=η (⟨hi,x,u,t⟩ :_/\_/\_/\_);obtain⟨b1,ge,c,M,H,T,N,rfl,rfl,rfl⟩ :=h;obtain⟨k0,k1,k2,k3,k4⟩ :=N.cells;have HW:=η (KW w b1 ge c M d N.enc hB hK);have H1:=η N;clear N hK hB k1 k2 k3 k4 hi x u t;go_enter Tryz.func9,Tryz.ntmps9
 go_wp2_with fail;refine HW.out.mono ?_;rintro r w1 ⟨rfl,M1,c1,h2,V⟩;have I:=H1.out.turn h2 V;have y:=H1.out.ext h2 V;obtain⟨k0,k1,k2,k3,k4⟩ :=I.cells;have oG:∀v:Int,0<=v/\v<4294967296->∀W,Calls Tryz.prog 28 #[.int .u32 v, .int .i64 4] W λe w'=>∃A n c,e= .returned (.slice A n c)/\ba .u8 w' W.heap.size 5 A n c (pG 4 v)/\Below W.heap.size W w':=λv hv W=>qT W v 4 hv ω;have HL:=η (oG s I.sm.1);have ab:=η (oG z I.sm.2);clear oG;have f:=η (⟨I,y⟩ :_/\_);clear h2 V I y HW
 go_wp2_with fail
 go_region_law
  (first
    | (have _g:=B;(refine eN .u8 w1.heap.size 5 i0 1 rfl (.tmp 18) (.tmp 23) _ rfl Tryz.underlying22 Hi.out.1 Hi.out.2.1 Hi.out.2.2.1 Hi.out.2.2.2 rfl C rfl B ω ω G ?_)
       intro J O o R mS iZ;have Y:bk Q o (λk=>ak A=some k):=(bk.refl Q _).grown mS (λk a=> .inl a);have Dn:∀k,ak A=some k->w1.heap.size<=k:=λk a=>(C.2.lt a).1;have oL:=Y.ar H5.out.1.cell (λe=>by have:=Dn g e;have:=f.out.1.cell.lt;omega);have z4:=oL.frozen' (i:=4) ω;have ac:=oL.cell (i:=4) ω)
    | (have _g:=b;go_simp;go_at_call 28;(refine(ab.out _).mono ?_)
       rintro r Q ⟨A2,n2,c2,rfl,U,j⟩;have h5:=b.out.1.keeps j;have jb:=b.out.2.2.keeps j;have Qb:=b.out.2.1.trans (j.mono b.out.2.1.size);have F:=b.out.2.2.1;rw[cE]at F;have D:=U.1;rw[cE]at D;subst F D;have G:=Qb.size;have B:=U.rd;have C:ba .u8 Q w1.heap.size 5 A 4 c0 (pG 4 s):=jb;have H5:=η (⟨h5,Qb⟩ :_/\_);clear h5 Qb j U jb)
    | (go_simp;go_at_call 28;(refine(HL.out _).mono ?_)
       rintro r w2 ⟨A,n,c0,rfl,L,q⟩;have m:Below w1.heap.size w1 w2:= ⟨q.os,q.tape,q.output,q.size,q.block⟩;have L:ba .u8 w2 w1.heap.size 5 A n c0 (pG 4 s):=L;have h4:=f.out.1.keeps m;have ad:=h4.cells.2.2.2.1;have b:=η (⟨h4,m,L⟩ :_/\_/\_);clear h4 m L q))
 all_goals
  have hA:∀k,ak J=some k->w1.heap.size<=k:=λk a=>(R.2.lt a).1
  have hz:∀k,w1.heap.size<=k->c1 k=0/\k≠g:=λk a=>by
   refine⟨?_,τ f.out.1.cell.lt⟩;rcases bY (c1 k)with h | h
   · exact h
   have:=(f.out.1.enc.cb k ω).2;omega
  have Z:Below w1.heap.size w1 o:=H5.out.2.trans (Y.below (λk a=>Dn k a) G);have h6:=f.out.1.keeps Z;have l:bk o (o.setCell ⟨g,4,none⟩ (.slice J (4+4) O)) (λk=>k=g):=bk.setCell (S:=λk=>k=g) (bk.refl o _) (p:= ⟨g,4,none⟩) (.inl rfl) _;have h7:=h6.own (s':=s) (z':=z) (H':=H) (T':= ⟨J,4+4,O,pG 4 s++pG 4 z⟩) l ((h6.cell.bK (i:=4) ω _).congr (five rfl rfl rfl rfl rfl)) (l.dX h6.hd (λk a e=>(h6.ch k a).2 e)) ((R.more f.out.1.low).far (p:= ⟨g,4,none⟩) (λe=>(hz g (hA g e)).2 rfl) _) h6.ch (λk a=>hz k (hA k a)) (λk a e=>by have h6:=hA k e;have h7:=(f.out.1.hd.2.lt a).2;omega) h6.sm
  have SC:Ext b0 w (o.setCell ⟨g,4,none⟩ (.slice J (4+4) O)) (PX g c H T) (PX g c1 H ⟨J,4+4,O,pG 4 s++pG 4 z⟩):=f.out.2.trans (Ext.of (((bk.bJ Z).setCell (p:= ⟨g,4,none⟩) (.inl (.inl rfl)) _)) (λk a=>(f.out.1.Cr k a).1) f.out.1.low (λk a=>by
   rcases a with a | a | a | a
   · exact .inl (.inl a)
   · exact .inl (.inr (.inl a))
   · exact .inr (hA k a)
   exact .inl (.inr (.inr (.inr a)))))
  have HF:=η (⟨h7,SC⟩ :_/\_);clear h6 h7 SC l Z hA hz R mS iZ Y Dn oL
  go_wp2_with fail;go_ret;exact⟨rfl,_, ⟨b1,ge,c1,M1,H,_,HF.out.1,rfl,rfl,rfl⟩,HF.out.2⟩
end
def a4U (w:World) (b0 g:Nat) (E:Nat->Prop) (d:kM) (done:Bool) (hd:aj) (s z:Int) (tl:aj) (r:Ending) (w':World):Prop:=
 ∃A n k E',r= .returned (.slice A n k)/\ba .u8 w' b0 5 A n k (hd++ke d.L++tl)/\(∀q,ak A=some q->¬E' q)/\Cf w' b0 g E' { d with L:=rest d.L } done [] s z []/\Ext b0 w w' E E'
theorem AR {w:World} {b0 g:Nat} {E:Nat->Prop} {d:kM} {hd tl:aj} {s z:Int} {done:Bool} (h:Cf w b0 g E d done hd s z tl) (R:hd.length<=100000/\tl.length<=100000/\d.L.length<=1000000000000):
  Calls Tryz.prog 10 #[.pointer (some ⟨g,0,none⟩)] w (a4U w b0 g E d done hd s z tl):=by
 obtain⟨i0,hi,I,G,F⟩ :=aL ow;have Hi:=η (⟨hi,I,G,F⟩ :_/\_/\_/\_);obtain⟨b1,ge,c,M,H,T,D,rfl,rfl,rfl⟩ :=h;obtain⟨k0,k1,k2,k3,k4⟩ :=D.cells;have t:ik w.drew b1 ge c M d done:=D.enc.keeps (ax _ _).drew;have HT:=η (PM w.drew b1 ge c M d done t);have ac:H.n<=100000:=by rw[D.hd.1];exact R.1
 have ab:T.n<=100000:=by rw[D.tl.1];exact R.2.1
 have U:=η (⟨D,t,R⟩ :_/\_/\_);clear D t hi I G F k2 k3 R;go_enter Tryz.func10,Tryz.ntmps10
 go_wp2_with fail
 go_region_law
  (first
    | (go_simp;go_at_call 29;(refine HT.out.mono ?_)
       rintro r C ⟨rfl,B,Q,P⟩;have X:=U.out.2.1.taken Q P;obtain⟨b,Y,zy⟩ :=X;have u:DE b1 w c C b:=DE.trans (⟨(ax _ _).drew,(bk.refl _ _).drew,λ_ _=>rfl⟩ :DE b1 w c w.drew c) zy;have h5:=U.out.1.turn Y u;have SC:=U.out.1.ext Y u;have e1:=h5.cells.2.1;have e3:=h5.cells.2.2.2.2;have W:=h5.hd;have Kj:M.nw<=125000000000:=by rw[B.1,jS];have:=U.out.2.2.2.2;omega
       have o:=h5.low)
    | (have _g:=W;(refine eN .u8 b0 5 i0 1 rfl (.tmp 9) (.tmp 14) _ rfl Tryz.underlying22 Hi.out.1 Hi.out.2.1 Hi.out.2.2.1 Hi.out.2.2.2 rfl W rfl B.rd ω ω o ?_)
       intro A6 c6 V kP mS iZ;have x:bk C V (λk=>ak H.A=some k):=(bk.refl C _).grown mS (λk a=> .inl a);have m:=x.dX h5.tl (λk a e=>h5.ht k e a);have oL:=x.ar h5.cell (λe=>(h5.ch g e).2 rfl);have f3:=oL.cell (i:=4) ω;have Vc:=aw o x.size;clear W)
    | (have _g:=m;(refine eN .u8 b0 5 i0 1 rfl (.tmp 15) (.tmp 19) _ rfl Tryz.underlying22 Hi.out.1 Hi.out.2.1 Hi.out.2.2.1 Hi.out.2.2.2 rfl kP rfl m.rd ω ω Vc ?_)
       intro Z c7 j yY Ff tU;have f:bk V j (λk=>ak A6=some k):=(bk.refl V _).grown Ff (λk a=> .inl a)
       have Dn:∀k,ak A6=some k->ak H.A=some k\/C.heap.size<=k:=λk a=>by
        rcases iZ with e | e
        · exact .inl (e▸a)
        rw[e]at a;injection a with a;exact .inr ω
       have K:=f.ar oL (λe=>by
        rcases Dn g e with e2 | e2
        · exact(h5.ch g e2).2 rfl
        have:=h5.cell.lt;omega)
       have y1:=K.frozen' (i:=1) ω;have y3:=K.frozen' (i:=4) ω;have g1:=K.cell (i:=1) ω;have g3:=K.cell (i:=4) ω))
 all_goals
  have hz:∀k,C.heap.size<=k->b k=0/\k≠g:=λk a=>by
   refine⟨?_,τ h5.cell.lt⟩;rcases bY (b k)with h | h
   · exact h
   have:=(h5.enc.cb k ω).2;omega
  have y:∀k,ak A6=some k->b k=0/\k≠g:=λk a=>by
   rcases Dn k a with e | e
   · exact h5.ch k e
   exact hz k e
  have O:∀k,ak Z=some k->b k=0/\k≠g:=λk a=>by
   rcases tU with e | e
   · exact y k (e▸a)
   rw[e]at a;injection a with a;exact hz k (τ x.size)
  have N:=(h5.enc.aside x (λk a=>(h5.ch k a).1)).aside f (λk a=>(y k a).1);have v:bk j ((j.setCell ⟨g,1,none⟩ (.slice none 0 0)).setCell ⟨g,4,none⟩ (.slice none 0 0)) (λk=>k=g):=bk.setCell (S:=λk=>k=g) (bk.setCell (S:=λk=>k=g) (bk.refl j _) (p:= ⟨g,1,none⟩) (.inl rfl) _) (p:= ⟨g,4,none⟩) (.inl rfl) _
  have h8:Eu ((j.setCell ⟨g,1,none⟩ (.slice none 0 0)).setCell ⟨g,4,none⟩ (.slice none 0 0)) b0 b1 g ge b _ { d with L:=rest d.L } done rX s z rX:=
   ⟨((K.bK (i:=1) ω _).bK (i:=4) ω _).congr (λi hi=>by
     obtain rfl | rfl | rfl | rfl | rfl:i=0\/i=1\/i=2\/i=3\/i=4:=ω;all_goals rfl),h5.lo,h5.lo1,N.aside v (λk a=>by rw[a];exact h5.cg),ba.dN,ba.dN,h5.cg,λk a=>by simp [rX,ak]at a,λk a=>by simp [rX,ak]at a,λk a=>by simp [rX,ak]at a,h5.sm⟩
  have ZU:bk C ((j.setCell ⟨g,1,none⟩ (.slice none 0 0)).setCell ⟨g,4,none⟩ (.slice none 0 0)) (PX g b H T):=
   ((x.more λk a=>(.inr (.inl a):PX g b H T k)).trans f (λk a=>by
     rcases Dn k a with e | e
     · exact .inl (.inr (.inl e))
     exact .inr e)).trans v (λk a=> .inl (.inl a))
  have zg:=SC.trans (Ext.of ZU (λk a=>(h5.Cr k a).1) o (E':=PX g b rX rX) (λk a=>by
   rcases a with a | a | a | a
   · exact .inl (.inl a)
   · simp [rX,ak]at a
   · simp [rX,ak]at a
   exact .inl (.inr (.inr (.inr a)))))
  have J:=(yY.far (p:= ⟨g,1,none⟩) (λe=>(O g e).2 rfl) (.slice none 0 0)).far (p:= ⟨g,4,none⟩) (λe=>(O g e).2 rfl) (.slice none 0 0)
  have HF:Hid (a4U w b0 g (PX g c H T) d done H.l s z T.l (.returned (.slice Z (H.n+M.nw+T.n) c7)) ((j.setCell ⟨g,1,none⟩ (.slice none 0 0)).setCell ⟨g,4,none⟩ (.slice none 0 0))):=
   ⟨Z,_,c7,_,rfl,J,λq hq hE=>by
     rcases hE with e | e | e | e
     · exact(O q hq).2 e
     · simp [rX,ak]at e
     · simp [rX,ak]at e
     exact e (O q hq).1, ⟨b1,ge,b,_,rX,rX,h8,rfl,rfl,rfl⟩,zg⟩
  clear hz y O N v h8 ZU zg J x f B Q P zy u h5 SC m kP yY Y
  go_wp2_with fail;go_ret;exact HF.out
theorem PD {X P:aj} {d:kM} (h:od X P d):GW (P++(ot d).L) X:=by
 obtain⟨t,c,b,a,h4,h5⟩ :=h.close;exact⟨⟨t,c,b,a⟩,h4,h5⟩
theorem Hk {x:Int} (h:(Lit.int .i64 x).wf=true): -9223372036854775808<=x/\x<=9223372036854775807:=by
 simp [Lit.wf,IntKind.min,IntKind.max,IntKind.signed,IntKind.bits]at h;omega
end Go.Proofs.YtdhmnlpfhfmpfaaGreat
