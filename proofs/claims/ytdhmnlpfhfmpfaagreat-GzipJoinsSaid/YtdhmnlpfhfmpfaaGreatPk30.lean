/-
  part
-/
import Derived.Test.YtdhmnlpfhfmpfaaGreatPk23
import Derived.Test.YtdhmnlpfhfmpfaaGreatRgz
set_option linter.unusedVariables false
set_option maxRecDepth 100000
set_option maxHeartbeats 4000000
namespace Go.Proofs.YtdhmnlpfhfmpfaaGreat
open Go.RowKit
def geF (ge:Nat) (H:Gy) (s z:Int) (T:Gy):Nat->Value
 | 0=> .pointer (some ⟨ge,0,none⟩)
 | 1=> .slice H.A H.n H.c
 | 2=> .int .u32 s
 | 3=> .int .u32 z
 | _=> .slice T.A T.n T.c
def Pt (g:Nat) (c:Nat->Nat) (H T:Gy):Nat->Prop:=λk=>k=g\/ai H.A=some k\/ai T.A=some k\/c k≠0
structure Er (w:World) (b0 b1 g ge:Nat) (c:Nat->Nat) (M:EM) (d:kK) (done:Bool) (H:Gy) (s z:Int) (T:Gy):Prop where
 cell:Ar w g 5 (geF ge H s z T)
 lo:b0<=g
 lo1:b0<=b1
 enc:ic w b1 ge c M d done
 hd:aW .u8 w b0 5 H.A H.n H.c H.l
 tl:aW .u8 w b0 5 T.A T.n T.c T.l
 cg:c g=0
 ch:∀k,ai H.A=some k->c k=0/\k≠g
 ct:∀k,ai T.A=some k->c k=0/\k≠g
 ht:∀k,ai H.A=some k->ai T.A≠some k
 sm:(0<=s/\s<4294967296)/\0<=z/\z<4294967296
def Oy (w:World) (b0 g:Nat) (E:Nat->Prop) (d:kK) (done:Bool) (hd:List Int) (s z:Int) (tl:List Int):Prop:=
 ∃b1 ge c M H T,Er w b0 b1 g ge c M d done H s z T/\E=Pt g c H T/\H.l=hd/\T.l=tl
section
variable {w w' w0:World} {b0 b1 g ge:Nat} {c c':Nat->Nat} {M M':EM} {d d':kK} {done done':Bool} {H T:Gy} {s s' z z':Int} {E E':Nat->Prop} {hd tl:List Int}
theorem Er.low (h:Er w b0 b1 g ge c M d done H s z T):b0<=w.heap.size:=au h.lo (cZ h.cell.lt)
theorem Er.Gf (h:Er w b0 b1 g ge c M d done H s z T):∀k,Pt g c H T k->b0<=k/\k<w.heap.size:=λk a=>by
 rcases a with rfl | a | a | a
 · exact⟨h.lo,h.cell.lt⟩
 · exact h.hd.2.lt a
 · exact h.tl.2.lt a
 exact⟨au h.lo1 (h.enc.cb k a).1,(h.enc.cb k a).2⟩
theorem Er.cells (h:Er w b0 b1 g ge c M d done H s z T):w.cell? ⟨g,0,none⟩ =some (.pointer (some ⟨ge,0,none⟩))/\w.cell? ⟨g,1,none⟩ =some (.slice H.A H.n H.c)/\w.cell? ⟨g,2,none⟩ =some (.int .u32 s)/\w.cell? ⟨g,3,none⟩ =some (.int .u32 z)/\w.cell? ⟨g,4,none⟩ =some (.slice T.A T.n T.c):=
 ⟨h.cell.cell (i:=0) ω,h.cell.cell (i:=1) ω,h.cell.cell (i:=2) ω,h.cell.cell (i:=3) ω,h.cell.cell (i:=4) ω⟩
theorem Er.keeps (h:Er w b0 b1 g ge c M d done H s z T) (a:Below w.heap.size w w'):Er w' b0 b1 g ge c M d done H s z T:=
 ⟨h.cell.keeps a,h.lo,h.lo1,h.enc.keeps a,h.hd.keeps a,h.tl.keeps a,h.cg,h.ch,h.ct,h.ht,h.sm⟩
theorem Oy.keeps (h:Oy w b0 g E d done hd s z tl) (a:Below w.heap.size w w'):Oy w' b0 g E d done hd s z tl:=by
 obtain⟨b1,ge,c,M,H,T,e,b⟩ :=h;exact⟨b1,ge,c,M,H,T,e.keeps a,b⟩
theorem Oy.Gf (h:Oy w b0 g E d done hd s z tl):∀k,E k->b0<=k/\k<w.heap.size:=by
 obtain⟨b1,ge,c,M,H,T,a,rfl,_⟩ :=h;exact a.Gf
theorem Er.turn (h:Er w b0 b1 g ge c M d done H s z T) (b:ic w' b1 ge c' M' d' done') (hd:DE b1 w c w' c'):Er w' b0 b1 g ge c' M' d' done' H s z T:=
 ⟨hd.2.1.ar h.cell (λe=>e h.cg),h.lo,h.lo1,b,hd.2.1.eH h.hd (λk a e=>e (h.ch k a).1),hd.2.1.eH h.tl (λk a e=>e (h.ct k a).1),by rw[hd.2.2 g h.cell.lt];exact h.cg,
   λk a=> ⟨by rw[hd.2.2 k (h.hd.2.lt a).2];exact(h.ch k a).1,(h.ch k a).2⟩,λk a=> ⟨by rw[hd.2.2 k (h.tl.2.lt a).2];exact(h.ct k a).1,(h.ct k a).2⟩,h.ht,h.sm⟩
theorem Er.ext (h:Er w b0 b1 g ge c M d done H s z T) (e:ic w' b1 ge c' M' d' done') (hd:DE b1 w c w' c'):Ext b0 w w' (Pt g c H T) (Pt g c' H T):=
 ⟨hd.1.mono h.lo1,hd.2.1.more λk a=> .inr (.inr (.inr a)),λk a=>by
   rcases a with a | a | a | a
   · exact .inl (.inl a)
   · exact .inl (.inr (.inl a))
   · exact .inl (.inr (.inr (.inl a)))
   rcases aZ k w.heap.size with b | b
   · exact .inl (.inr (.inr (.inr (by rw[<-hd.2.2 k b];exact a))))
   exact .inr b⟩
theorem Er.own (h:Er w b0 b1 g ge c M d done H s z T) {H' T':Gy} (b:bj w w' (λk=>k=g)) (e:Ar w' g 5 (geF ge H' s' z' T')) (i:aW .u8 w' b0 5 H'.A H'.n H'.c H'.l) (f:aW .u8 w' b0 5 T'.A T'.n T'.c T'.l)
  (ch:∀k,ai H'.A=some k->c k=0/\k≠g) (ct:∀k,ai T'.A=some k->c k=0/\k≠g) (ht:∀k,ai H'.A=some k->ai T'.A≠some k) (sm:(0<=s'/\s'<4294967296)/\0<=z'/\z'<4294967296):Er w' b0 b1 g ge c M d done H' s' z' T':=
 ⟨e,h.lo,h.lo1,h.enc.aside b (λk a=>by rw[a];exact h.cg),i,f,h.cg,ch,ct,ht,sm⟩
end
theorem ic.new {w2:World} {b0 gf gm gw:Nat} (lev:Int) (hf:eC w2 b0 gf (gP lev) IQ 0 none 0 0 gm 0 (.map []) none 0 0) (c:qf w2 b0 gw none 0 0 []) (p:gf≠gw) (o:gm≠gw) (t:TypeId):
  ic (w2.alloc (.cells #[.pointer (some ⟨gf,0,none⟩), .pointer (some ⟨gw,0,none⟩), .int .i64 lev, .slice none 0 0, .slice none 0 0, .bool false] t)) b0 w2.heap.size
   (λk=>if k=w2.heap.size then 1 else if k=gf\/k=gm then 2 else if k=gw then 3 else 0)
   ⟨gf,none,0,0,gm,none,0,0,gw,none,0,0,none,0,0,none,0,0⟩ (Bc lev) false:=by
 have n:b0<=gf/\gf<w2.heap.size:=hf.eJ (.inl rfl);have m:b0<=gm/\gm<w2.heap.size:=hf.eJ (.inr (.inl rfl));have l:b0<=gw/\gw<w2.heap.size:=c.eJ (.inl rfl);have d:Below w2.heap.size w2 (w2.alloc (.cells #[.pointer (some ⟨gf,0,none⟩), .pointer (some ⟨gw,0,none⟩), .int .i64 lev, .slice none 0 0, .slice none 0 0, .bool false] t)):=(aw _ _).alloc (ag _) _;refine⟨Ar.new _ _ _ rfl λi hi=> ?_,ae rfl, ⟨0, .map [],hf.keeps d⟩,λk a=> ?_,c.keeps d,λk a=> ?_,aW.dK,λk a=>by simp [ai]at a, ⟨rfl,Own.dK⟩,λk a=>by simp [ai]at a,λk a=> ?_⟩
 · obtain rfl | rfl | rfl | rfl | rfl | rfl:i=0\/i=1\/i=2\/i=3\/i=4\/i=5:=ω;all_goals rfl
 · have b:k=gf\/k=gm:=by
    rcases a with h | h | h | h
    · exact .inl h
    · exact .inr h
    · simp [ai]at h
    simp [ai]at h
   show(if k=w2.heap.size then 1 else if k=gf\/k=gm then 2 else if k=gw then 3 else 0)=2;rw[aa ω,ae b]
 · have b:k=gw:=by
    rcases a with h | h
    · exact h
    simp [ai]at h
   show(if k=w2.heap.size then 1 else if k=gf\/k=gm then 2 else if k=gw then 3 else 0)=3;rw[aa ω,aa ω,ae b]
 have e:(w2.alloc (.cells #[.pointer (some ⟨gf,0,none⟩), .pointer (some ⟨gw,0,none⟩), .int .i64 lev, .slice none 0 0, .slice none 0 0, .bool false] t)).heap.size=w2.heap.size+1:=σ;rw[e];by_cases j:k=w2.heap.size
 · omega
 by_cases g:k=gf\/k=gm
 · omega
 by_cases f:k=gw
 · omega
 exact absurd (by show(if k=w2.heap.size then 1 else if k=gf\/k=gm then 2 else if k=gw then 3 else 0)=0;rw[aa j,aa g,aa f]) a
theorem Tg (lev:Int) (w:World) (k: -9223372036854775808<=lev/\lev<=9223372036854775807):
  Calls Tryz.prog 24 #[.int .i64 lev] w λe w'=>∃g c M,e= .returned (.pointer (some ⟨g,0,none⟩))/\ic w' w.heap.size g c M (Bc lev) false/\Below w.heap.size w w':=by
 have p:=η (Tu lev w k);clear k;go_enter Tryz.func24,Tryz.ntmps24
 go_wp2_with fail;refine p.out.mono ?_;rintro e w1 ⟨gf,gm,rfl,hf,i⟩;have f:=η (⟨hf,i⟩ :_/\_);clear hf i
 go_wp2_with fail;refine(MH w1).mono ?_;rintro e w2 ⟨gw,rfl,b,a⟩;have h:=f.out.1.keeps a;have j:=ic.new (b0:=w.heap.size) lev h ⟨b.cell,au f.out.2.size b.lo,b.own.more f.out.2.size,b.apart,b.bit⟩ (λe=>by have n:=(f.out.1.eJ (.inl rfl)).2;have m:=b.lo;omega) (λe=>by have n:=(f.out.1.eJ (.inr (.inl rfl))).2;have m:=b.lo;omega) 79;have d:=λo:Obj=>(f.out.2.trans (a.mono f.out.2.size)).alloc (au f.out.2.size a.size) o;have l:=η (⟨j,d⟩ :_/\_);clear h j b a d
 go_wp2_with fail;go_ret;exact⟨_,_,_,rfl,l.out.1,l.out.2 _⟩
theorem Pn (w:World) (b0 g:Nat) (c:Nat->Nat) (M:EM) (d:kK) (done:Bool) (h:ic w b0 g c M d done):
  Calls Tryz.prog 29 #[.pointer (some ⟨g,0,none⟩)] w λe w'=>e= .returned (.slice M.Aw M.nw M.cw)/\aW .u8 w' b0 5 M.Aw M.nw M.cw (jO d.L)/\qf w' b0 M.gw none 0 0 (rest d.L)/\bj w w' (λk=>k=M.gw):=by
 obtain⟨c0,c1,c2,l,j,i⟩ :=h.cells;have n:=η (JM w b0 M.gw M.nw M.cw M.Aw _ h.Rb);clear h c0 c2 l j i;go_enter Tryz.func29,Tryz.ntmps29
 go_wp2_with fail;refine n.out.mono ?_;rintro e w1 ⟨rfl,f,b,a⟩;have m:=η (⟨f,b,a⟩ :_/\_/\_);clear f b a
 go_wp2_with fail;go_ret;exact⟨rfl,m.out⟩
theorem five {P:Nat->Prop} (d:P 0) (c:P 1) (b:P 2) (a:P 3) (h4:P 4):∀i,i<5->P i:=λi hi=>by
 obtain rfl | rfl | rfl | rfl | rfl:i=0\/i=1\/i=2\/i=3\/i=4:=ω;all_goals assumption
theorem De (lev:Int) (w:World) (D: -9223372036854775808<=lev/\lev<=9223372036854775807) (B:Nat) (h:HP) (X:Option Addr) (m cc:Nat) (x:bU .u8 w B X m h.xl) (I:B<=w.heap.size) (H:h.bd) (a:h.ok=true) (u:m<=100000) (z:h.nl.length<=100000) (G:h.cl.length<=100000):
  Calls Tryz.prog 7 #[.int .i64 lev,hagg (h.v (.slice X m cc))] w λe w'=>∃g E,e= .returned (.tuple #[.pointer (some ⟨g,0,none⟩), .int .i64 0])/\Oy w' w.heap.size g E (Bc lev) false h.p4 0 0 []/\Below w.heap.size w w':=by
 obtain⟨P4,d⟩ :=ν (h.p4);obtain⟨O,i⟩ :=ν (h.ok);rw[i]at a;subst a;have HP_:=η (λ(o:Obj)=>DR (w.alloc o) B h X m cc (x.alloc I _) ξ H u z G);have N:=η (λW=>Tg lev W D);unfold CP at HP_;rw[d,i]at HP_;rw[d];clear D x I H u z G d i;obtain⟨tx,sm,tm,fl,sy,xl,hE,nl,cl,hN,hC⟩ :=h;unfold hagg HP.v at HP_⊢;dsimp only at HP_⊢;go_enter Tryz.func7,Tryz.ntmps7
 go_wp2_with fail;refine(HP_.out _).mono ?_;rintro e w1 (⟨-,A,n,c0,rfl,y,p⟩ | ⟨q, -⟩)
 case inr=>cases q
 have K:∀o,Below w.heap.size w (w.alloc o):=λo=>(aw w.heap.size w).alloc (ag _) o;have j:=η (⟨y.more (by simp:w.heap.size<=_),(K _).trans (p.mono σ)⟩ :_/\_);clear y p HP_
 go_wp2_with fail;refine(N.out _).mono ?_;rintro e w2 ⟨ge,c,M,rfl,t,b⟩;have hA:=j.out.1.keeps b;have s:=j.out.2.trans (b.mono j.out.2.size);have C:w.heap.size<=w2.heap.size:=s.size
 have F:∀o,Hid (Oy (w2.alloc (.cells #[.pointer (some ⟨ge,0,none⟩), .slice A n c0, .int .u32 0, .int .u32 0, .slice none 0 0] o)) w.heap.size w2.heap.size (Pt w2.heap.size c ⟨A,n,c0,P4⟩ rM) (Bc lev) false P4 0 0 []/\Below w.heap.size w (w2.alloc (.cells #[.pointer (some ⟨ge,0,none⟩), .slice A n c0, .int .u32 0, .int .u32 0, .slice none 0 0] o))):=λo=>by
  have r:=s.alloc C (.cells #[.pointer (some ⟨ge,0,none⟩), .slice A n c0, .int .u32 0, .int .u32 0, .slice none 0 0] o);have l:=(aw w2.heap.size w2).alloc (ag _) (.cells #[.pointer (some ⟨ge,0,none⟩), .slice A n c0, .int .u32 0, .int .u32 0, .slice none 0 0] o)
  have hz:∀k,k<w1.heap.size\/w2.heap.size<=k->c k=0:=λk a=>by
   rcases cS (c k)with h | h
   · exact h
   have:=t.cb k ω;omega
  have J:∀k,ai A=some k->k<w1.heap.size:=λk a=>(j.out.1.2.lt a).2;have L:=Ar.new w2 #[.pointer (some ⟨ge,0,none⟩), .slice A n c0, .int .u32 0, .int .u32 0, .slice none 0 0] o (m:=5) (f:=geF ge ⟨A,n,c0,P4⟩ 0 0 rM) rfl (five rfl rfl rfl rfl rfl);refine⟨⟨w1.heap.size,ge,c,M, ⟨A,n,c0,P4⟩,rM, ⟨L,C,j.out.2.size,t.keeps l,hA.keeps l,aW.dK,hz _ (.inr (ag _)),λk a=> ⟨hz k (.inl (J k a)),by have:=J k a;have:=b.size;omega⟩,λk a=>by simp [rM,ai]at a,λk a=>by simp [rM,ai],δ⟩,rfl,rfl,rfl⟩,r⟩
 clear t b s hA j
 go_wp2_with fail;go_returns;exact⟨_,_,rfl,(F _).out.1,(F _).out.2⟩
section
variable {w:World} {b0 g:Nat} {E:Nat->Prop} {d:kK} {hd tl:List Int} {s z:Int}
theorem xR (h:Oy w b0 g E d false hd s z tl) {K:Nat} {X P:List Int} (Z:DB K X P d) (C:Option Addr) (m e:Nat) (x:List Int) (D:bU .u8 w w.heap.size C m x) (Xu:m<=e) (L:0<m->∀l,C=some l->¬E l.block) (q:∀v∈x,0<=v/\v<256) (N:(X++x).length<=16777216) (Y:K+100*m<=2000000000000) (hz:z+m<4294967296):
  Calls Tryz.prog 8 #[.pointer (some ⟨g,0,none⟩), .slice C m e] w λr w'=>r= .returned (.int .i64 0)/\∃E',Oy w' b0 g E' (iG m d x) false hd (yU s x) (z+m) tl/\Ext b0 w w' E E':=by
 obtain⟨b1,ge,c,M,H,T,F,rfl,rfl,rfl⟩ :=h;obtain⟨V,J,I,B,G⟩ :=F.cells
 have o:0<m->∀l,C=some l->c l.block=0:=λR l e=>by
  rcases cS (c l.block)with hz | hz
  · exact hz
  exact absurd (.inr (.inr (.inr ω))) (L R l e)
 have HW:=η (KR w b1 ge c M d F.enc Z C m e x D Xu o q N Y);have hm:m<=1000000000:=by rw[af]at N;have:=D.1;omega
 have Gu:(0:Int)<=(m:Int)/\(m:Int)<=1000000000:=ω;have n:=η (⟨F,D,L,q,o,hz⟩ :_/\_/\_/\_/\_/\_);clear F D L q N Y Z J I B G o hz;go_enter Tryz.func8,Tryz.ntmps8
 go_wp2_with fail;refine HW.out.mono ?_;rintro r w1 ⟨rfl,M1,c1,Q,y⟩;have a:=n.out.1.turn Q y;have f:=n.out.1.ext Q y;have u:=y.2.1.rA n.out.2.1 (ag _) (λR l e hc=>hc (n.out.2.2.2.2.1 R l e));have O:=yV s C m e w1.heap.size x w1 (u.more y.2.1.size) (ag _) (yT n.out.2.2.2.1) a.sm.1 hm;obtain⟨V,J,I,B,G⟩ :=a.cells;have e1:iq (lW (iq s) x m)=yU s x:=by rw[n.out.2.1.1];rfl
 rw[e1]at O;have Ri:=η O;have A:=η (⟨a,f⟩ :_/\_);clear O e1 Q y a f u HW B
 go_wp2_with fail;refine Ri.out.mono ?_;rintro r w2 ⟨rfl,t⟩;have a:=A.out.1.keeps t;have f:=A.out.2.trans (Ext.of (bj.bA (S:=Pt g c1 H T) t) (λk b=>(A.out.1.Gf k b).1) A.out.1.low (λk b=> .inl b));obtain⟨V,J,I,B,G⟩ :=a.cells;have z2:=a.cell.frozen' (i:=2) ω;have z3:=a.cell.frozen' (i:=3) ω;have ah:IntKind.u32.wrap (m:Int)=(m:Int):=IntWalk.u32_in _ ω;have ac:=a.sm.2;have ab:IntKind.u32.wrap (z+(m:Int))=z+(m:Int):=IntWalk.u32_in _ (by have:=n.out.2.2.2.2.2;omega);have j:bj w2 ((w2.setCell ⟨g,2,none⟩ (.int .u32 (yU s x))).setCell ⟨g,3,none⟩ (.int .u32 (z+m))) (λk=>k=g):=((bj.refl w2 (λk=>k=g)).setCell (p:= ⟨g,2,none⟩) (.inl rfl) _).setCell (p:= ⟨g,3,none⟩) (.inl rfl) _;have h4:=a.own (s':=yU s x) (z':=z+m) (H':=H) (T':=T) j (((a.cell.bC (i:=2) ω _).bC (i:=3) ω _).congr (five rfl rfl rfl rfl rfl)) (j.eH a.hd (λk b e=>(a.ch k b).2 e)) (j.eH a.tl (λk b e=>(a.ct k b).2 e)) a.ch a.ct a.ht ⟨KE a.sm.1 n.out.2.2.2.1,by have:=n.out.2.2.2.2.2;omega⟩;have W:=f.trans (Ext.of (j.more λk b=>(.inl b:Pt g c1 H T k)) (λk b=>(a.Gf k b).1) a.low (λk b=> .inl b));have U:=η (⟨h4,W⟩ :_/\_);obtain⟨v,hv⟩ :=ν (yU s x);rw[hv]at U⊢;have XX:=η hv;clear h4 W j f a t A hv
 go_wp2_with fail;go_ret;exact⟨rfl,_, ⟨b1,ge,c1,M1,H,T,by rw[XX.out];exact U.out.1,rfl,rfl,rfl⟩,U.out.2⟩
theorem xQ (h:Oy w b0 g E d false hd s z tl) {K:Nat} {X P:List Int} (hB:DB K X P d) (hK:K+100<=2000000000000):
  Calls Tryz.prog 9 #[.pointer (some ⟨g,0,none⟩)] w λr w'=>r= .returned (.int .i64 0)/\∃E',Oy w' b0 g E' (na d) true hd s z (ot 4 s++ot 4 z)/\Ext b0 w w' E E':=by
 obtain⟨i0,hi,x,u,t⟩ :=aJ od;have Hi:=η (⟨hi,x,u,t⟩ :_/\_/\_/\_);obtain⟨b1,ge,c,M,H,T,N,rfl,rfl,rfl⟩ :=h;obtain⟨k0,k1,k2,k3,k4⟩ :=N.cells;have HW:=η (KJ w b1 ge c M d N.enc hB hK);have H1:=η N;clear N hK hB k1 k2 k3 k4 hi x u t;go_enter Tryz.func9,Tryz.ntmps9
 go_wp2_with fail;refine HW.out.mono ?_;rintro r w1 ⟨rfl,M1,c1,h2,V⟩;have I:=H1.out.turn h2 V;have y:=H1.out.ext h2 V;obtain⟨k0,k1,k2,k3,k4⟩ :=I.cells;have oX:∀v:Int,0<=v/\v<4294967296->∀W,Calls Tryz.prog 28 #[.int .u32 v, .int .i64 4] W λe w'=>∃A n c,e= .returned (.slice A n c)/\aW .u8 w' W.heap.size 5 A n c (ot 4 v)/\Below W.heap.size W w':=λv hv W=>qH W v 4 hv ω;have HL:=η (oX s I.sm.1);have ab:=η (oX z I.sm.2);clear oX;have f:=η (⟨I,y⟩ :_/\_);clear h2 V I y HW
 go_wp2_with fail
 go_region_law
  (first
    | (have _g:=B;(refine eM .u8 w1.heap.size 5 i0 1 rfl (.tmp 18) (.tmp 23) _ rfl Tryz.underlying22 Hi.out.1 Hi.out.2.1 Hi.out.2.2.1 Hi.out.2.2.2 rfl C rfl B ω ω G ?_)
       intro J O o R lX iF;have Y:bj Q o (λk=>ai A=some k):=(bj.refl Q _).grown lX (λk a=> .inl a);have Dh:∀k,ai A=some k->w1.heap.size<=k:=λk a=>(C.2.lt a).1;have oB:=Y.ar H5.out.1.cell (λe=>by have:=Dh g e;have:=f.out.1.cell.lt;omega);have z4:=oB.frozen' (i:=4) ω;have ac:=oB.cell (i:=4) ω)
    | (have _g:=b;go_simp;go_at_call 28;(refine(ab.out _).mono ?_)
       rintro r Q ⟨A2,n2,c2,rfl,U,j⟩;have h5:=b.out.1.keeps j;have iY:=b.out.2.2.keeps j;have Le:=b.out.2.1.trans (j.mono b.out.2.1.size);have F:=b.out.2.2.1;rw[cU]at F;have D:=U.1;rw[cU]at D;subst F D;have G:=Le.size;have B:=U.rd;have C:aW .u8 Q w1.heap.size 5 A 4 c0 (ot 4 s):=iY;have H5:=η (⟨h5,Le⟩ :_/\_);clear h5 Le j U iY)
    | (go_simp;go_at_call 28;(refine(HL.out _).mono ?_)
       rintro r w2 ⟨A,n,c0,rfl,L,q⟩;have m:Below w1.heap.size w1 w2:= ⟨q.os,q.tape,q.output,q.size,q.block⟩;have L:aW .u8 w2 w1.heap.size 5 A n c0 (ot 4 s):=L;have h4:=f.out.1.keeps m;have ad:=h4.cells.2.2.2.1;have b:=η (⟨h4,m,L⟩ :_/\_/\_);clear h4 m L q))
 all_goals
  have hA:∀k,ai J=some k->w1.heap.size<=k:=λk a=>(R.2.lt a).1
  have hz:∀k,w1.heap.size<=k->c1 k=0/\k≠g:=λk a=>by
   refine⟨?_,by have:=f.out.1.cell.lt;omega⟩;rcases cS (c1 k)with h | h
   · exact h
   have:=(f.out.1.enc.cb k ω).2;omega
  have Z:Below w1.heap.size w1 o:=H5.out.2.trans (Y.below (λk a=>Dh k a) G);have h6:=f.out.1.keeps Z;have l:bj o (o.setCell ⟨g,4,none⟩ (.slice J (4+4) O)) (λk=>k=g):=bj.setCell (S:=λk=>k=g) (bj.refl o _) (p:= ⟨g,4,none⟩) (.inl rfl) _;have h7:=h6.own (s':=s) (z':=z) (H':=H) (T':= ⟨J,4+4,O,ot 4 s++ot 4 z⟩) l ((h6.cell.bC (i:=4) ω _).congr (five rfl rfl rfl rfl rfl)) (l.eH h6.hd (λk a e=>(h6.ch k a).2 e)) ((R.more f.out.1.low).far (p:= ⟨g,4,none⟩) (λe=>(hz g (hA g e)).2 rfl) _) h6.ch (λk a=>hz k (hA k a)) (λk a e=>by have h6:=hA k e;have h7:=(f.out.1.hd.2.lt a).2;omega) h6.sm
  have Iw:Ext b0 w (o.setCell ⟨g,4,none⟩ (.slice J (4+4) O)) (Pt g c H T) (Pt g c1 H ⟨J,4+4,O,ot 4 s++ot 4 z⟩):=f.out.2.trans (Ext.of (((bj.bA Z).setCell (p:= ⟨g,4,none⟩) (.inl (.inl rfl)) _)) (λk a=>(f.out.1.Gf k a).1) f.out.1.low (λk a=>by
   rcases a with a | a | a | a
   · exact .inl (.inl a)
   · exact .inl (.inr (.inl a))
   · exact .inr (hA k a)
   exact .inl (.inr (.inr (.inr a)))))
  have HF:=η (⟨h7,Iw⟩ :_/\_);clear h6 h7 Iw l Z hA hz R lX iF Y Dh oB
  go_wp2_with fail;go_ret;exact⟨rfl,_, ⟨b1,ge,c1,M1,H,_,HF.out.1,rfl,rfl,rfl⟩,HF.out.2⟩
end
def a4q (w:World) (b0 g:Nat) (E:Nat->Prop) (d:kK) (done:Bool) (hd:List Int) (s z:Int) (tl:List Int) (r:Ending) (w':World):Prop:=
 ∃A n k E',r= .returned (.slice A n k)/\aW .u8 w' b0 5 A n k (hd++jO d.L++tl)/\(∀q,ai A=some q->¬E' q)/\Oy w' b0 g E' { d with L:=rest d.L } done [] s z []/\Ext b0 w w' E E'
theorem zY {w:World} {b0 g:Nat} {E:Nat->Prop} {d:kK} {hd tl:List Int} {s z:Int} {done:Bool} (h:Oy w b0 g E d done hd s z tl) (P:hd.length<=100000/\tl.length<=100000/\d.L.length<=1000000000000):
  Calls Tryz.prog 10 #[.pointer (some ⟨g,0,none⟩)] w (a4q w b0 g E d done hd s z tl):=by
 obtain⟨i0,hi,G,F,D⟩ :=aJ od;have Hi:=η (⟨hi,G,F,D⟩ :_/\_/\_/\_);obtain⟨b1,ge,c,M,H,T,C,rfl,rfl,rfl⟩ :=h;obtain⟨k0,k1,k2,k3,k4⟩ :=C.cells;have o:ic w.drew b1 ge c M d done:=C.enc.keeps (aw _ _).drew;have HT:=η (Pn w.drew b1 ge c M d done o);have ac:H.n<=100000:=by rw[C.hd.1];exact P.1
 have ab:T.n<=100000:=by rw[C.tl.1];exact P.2.1
 have Q:=η (⟨C,o,P⟩ :_/\_/\_);clear C o hi G F D k2 k3 P;go_enter Tryz.func10,Tryz.ntmps10
 go_wp2_with fail
 go_region_law
  (first
    | (go_simp;go_at_call 29;(refine HT.out.mono ?_)
       rintro r B ⟨rfl,y,O,N⟩;have X:=Q.out.2.1.taken O N;obtain⟨b,Y,yZ⟩ :=X;have t:DE b1 w c B b:=DE.trans (⟨(aw _ _).drew,(bj.refl _ _).drew,λ_ _=>rfl⟩ :DE b1 w c w.drew c) yZ;have h5:=Q.out.1.turn Y t;have Iw:=Q.out.1.ext Y t;have e1:=h5.cells.2.1;have e3:=h5.cells.2.2.2.2;have W:=h5.hd;have K5:M.nw<=125000000000:=by rw[y.1,mj];have:=Q.out.2.2.2.2;omega
       have V:=h5.low)
    | (have _g:=W;(refine eM .u8 b0 5 i0 1 rfl (.tmp 9) (.tmp 14) _ rfl Tryz.underlying22 Hi.out.1 Hi.out.2.1 Hi.out.2.2.1 Hi.out.2.2.2 rfl W rfl y.rd ω ω V ?_)
       intro A6 c6 R kQ lX iF;have v:bj B R (λk=>ai H.A=some k):=(bj.refl B _).grown lX (λk a=> .inl a);have m:=v.eH h5.tl (λk a e=>h5.ht k e a);have oB:=v.ar h5.cell (λe=>(h5.ch g e).2 rfl);have f3:=oB.cell (i:=4) ω;have U:=au V v.size;clear W)
    | (have _g:=m;(refine eM .u8 b0 5 i0 1 rfl (.tmp 15) (.tmp 19) _ rfl Tryz.underlying22 Hi.out.1 Hi.out.2.1 Hi.out.2.2.1 Hi.out.2.2.2 rfl kQ rfl m.rd ω ω U ?_)
       intro Z c7 j Ch K1 Aa;have f:bj R j (λk=>ai A6=some k):=(bj.refl R _).grown K1 (λk a=> .inl a)
       have Dh:∀k,ai A6=some k->ai H.A=some k\/B.heap.size<=k:=λk a=>by
        rcases iF with e | e
        · exact .inl (e▸a)
        rw[e]at a;injection a with a;exact .inr ω
       have I:=f.ar oB (λe=>by
        rcases Dh g e with e2 | e2
        · exact(h5.ch g e2).2 rfl
        have:=h5.cell.lt;omega)
       have y1:=I.frozen' (i:=1) ω;have y3:=I.frozen' (i:=4) ω;have g1:=I.cell (i:=1) ω;have g3:=I.cell (i:=4) ω))
 all_goals
  have hz:∀k,B.heap.size<=k->b k=0/\k≠g:=λk a=>by
   refine⟨?_,by have:=h5.cell.lt;omega⟩;rcases cS (b k)with h | h
   · exact h
   have:=(h5.enc.cb k ω).2;omega
  have x:∀k,ai A6=some k->b k=0/\k≠g:=λk a=>by
   rcases Dh k a with e | e
   · exact h5.ch k e
   exact hz k e
  have K:∀k,ai Z=some k->b k=0/\k≠g:=λk a=>by
   rcases Aa with e | e
   · exact x k (e▸a)
   rw[e]at a;injection a with a;exact hz k (by have:=v.size;omega)
  have J:=(h5.enc.aside v (λk a=>(h5.ch k a).1)).aside f (λk a=>(x k a).1);have u:bj j ((j.setCell ⟨g,1,none⟩ (.slice none 0 0)).setCell ⟨g,4,none⟩ (.slice none 0 0)) (λk=>k=g):=bj.setCell (S:=λk=>k=g) (bj.setCell (S:=λk=>k=g) (bj.refl j _) (p:= ⟨g,1,none⟩) (.inl rfl) _) (p:= ⟨g,4,none⟩) (.inl rfl) _
  have h8:Er ((j.setCell ⟨g,1,none⟩ (.slice none 0 0)).setCell ⟨g,4,none⟩ (.slice none 0 0)) b0 b1 g ge b _ { d with L:=rest d.L } done rM s z rM:=
   ⟨((I.bC (i:=1) ω _).bC (i:=4) ω _).congr (λi hi=>by
     obtain rfl | rfl | rfl | rfl | rfl:i=0\/i=1\/i=2\/i=3\/i=4:=ω;all_goals rfl),h5.lo,h5.lo1,J.aside u (λk a=>by rw[a];exact h5.cg),aW.dK,aW.dK,h5.cg,λk a=>by simp [rM,ai]at a,λk a=>by simp [rM,ai]at a,λk a=>by simp [rM,ai]at a,h5.sm⟩
  have Za:bj B ((j.setCell ⟨g,1,none⟩ (.slice none 0 0)).setCell ⟨g,4,none⟩ (.slice none 0 0)) (Pt g b H T):=
   ((v.more λk a=>(.inr (.inl a):Pt g b H T k)).trans f (λk a=>by
     rcases Dh k a with e | e
     · exact .inl (.inr (.inl e))
     exact .inr e)).trans u (λk a=> .inl (.inl a))
  have Du:=Iw.trans (Ext.of Za (λk a=>(h5.Gf k a).1) V (E':=Pt g b rM rM) (λk a=>by
   rcases a with a | a | a | a
   · exact .inl (.inl a)
   · simp [rM,ai]at a
   · simp [rM,ai]at a
   exact .inl (.inr (.inr (.inr a)))))
  have RH:=(Ch.far (p:= ⟨g,1,none⟩) (λe=>(K g e).2 rfl) (.slice none 0 0)).far (p:= ⟨g,4,none⟩) (λe=>(K g e).2 rfl) (.slice none 0 0)
  have HF:Hid (a4q w b0 g (Pt g c H T) d done H.l s z T.l (.returned (.slice Z (H.n+M.nw+T.n) c7)) ((j.setCell ⟨g,1,none⟩ (.slice none 0 0)).setCell ⟨g,4,none⟩ (.slice none 0 0))):=
   ⟨Z,_,c7,_,rfl,RH,λq hq hE=>by
     rcases hE with e | e | e | e
     · exact(K q hq).2 e
     · simp [rM,ai]at e
     · simp [rM,ai]at e
     exact e (K q hq).1, ⟨b1,ge,b,_,rM,rM,h8,rfl,rfl,rfl⟩,Du⟩
  clear hz x K J u h8 Za Du RH v f y O N yZ t h5 Iw m kQ Ch Y
  go_wp2_with fail;go_ret;exact HF.out
theorem D3 {X P:List Int} {d:kK} (h:oV X P d):vh (P++(na d).L) X:=by
 obtain⟨t,c,b,a,h4,h5⟩ :=h.close;exact⟨⟨t,c,b,a⟩,h4,h5⟩
theorem vC (h:HP) (B o:List Int):(p9 h B o).length=h.p4.length+B.length/8+8:=by
 unfold p9;rw[af,af,mj,tA];omega
theorem EU {h:HP} {B o:List Int} (a:h.bd) (b:dJ B):∀v∈p9 h B o,0<=v/\v<256:=mi (a47 h a) (mi (SJ b) (L5 o))
theorem xM {x:Int} (h:(Lit.int .i64 x).wf=true): -9223372036854775808<=x/\x<=9223372036854775807:=by
 simp [Lit.wf,IntKind.min,IntKind.max,IntKind.signed,IntKind.bits]at h;omega
def GA (w:World) (b:List Int) (e:Ending) (w':World):Prop:=∃A k c B,e= .returned (.slice A k c)/\aW .u8 w' w.heap.size 5 A k c (p9 oo B b)/\vh B b/\B.length<=100*b.length+60/\Below w.heap.size w w'
theorem Df (w:World) (lev:Int) (D: -9223372036854775808<=lev/\lev<=9223372036854775807) (A:Option Addr) (n cp:Nat) (b:List Int) (p:bU .u8 w w.heap.size A n b) (I:n<=cp) (i:∀v∈b,0<=v/\v<256) (B:n<=1000):
  Calls Tryz.prog 17 #[.slice A n cp, .int .i64 lev] w (GA w b):=by
 have C:n=b.length:=p.1;have O:=η (De lev w D w.heap.size oo none 0 0 ⟨rfl,Rd.dK⟩ (ag _) oq δ ω (by simp [oo]) (by simp [oo]));have a:=η (⟨p,I,i,C,B⟩ :_/\_/\_/\_/\_);clear p I i C B D;go_enter Tryz.func17,Tryz.ntmps17
 go_wp2_with fail;refine O.out.mono ?_;rintro r w1 ⟨g,E,rfl,t,c⟩
 have M:=η (xR t (DB.new lev) A n cp b ((a.out.1.below c).more c.size) a.out.2.1 (λT Z e hE=>by
  obtain⟨a0,k,S,_⟩ :=a.out.1.2 T;rw[e]at k;injection k with k;subst k;have:=(t.Gf _ hE).1;omega) a.out.2.2.1 (by rw[aT];have:=a.out;omega) (by have:=a.out;omega) (by have:=a.out;omega))
 have V:=η c;clear t c O
 go_wp2_with fail;refine M.out.mono ?_;rintro r Y ⟨rfl,E3,J,h⟩;have f:=DB.write n (K:=0) (X:=[]) (P:=[]) (d:=Bc lev) b (DB.new lev) (by have:=a.out.2.2.2.1;omega) (by rw[aT];have:=a.out;omega) a.out.2.2.1;have Q:=η (xQ J f (by have:=a.out;omega));have l:=η (⟨V.out.trans h.1,f⟩ :_/\_);clear J h f M
 go_wp2_with fail;refine Q.out.mono ?_;rintro r W ⟨rfl,E4,h4,z⟩;have s:=l.out.2.SP;have j:=D3 l.out.2.1;rw[aT,aT]at j;obtain⟨d4,H⟩ :=ν (na (iG n (Bc lev) b));rw[H]at h4 s j;have N:=η (zY h4 ⟨by rw[xm];decide,by simp [cU],by have:=a.out;omega⟩);have u:=η (⟨l.out.1.trans z.1,j,s⟩ :_/\_/\_);clear h4 z s j H Q l
 go_wp2_with fail;refine N.out.mono ?_;rintro r R ⟨F,x,cf,E5,rfl,q,o,m,y⟩
 have G:oo.p4++jO d4.L++(ot 4 (yU 0 b)++ot 4 ((0:Int)+(n:Int)))=p9 oo d4.L b:=by
  unfold p9 Cs;rw[ak,<-a.out.2.2.2.1,show(0:Int)+(n:Int)=(n:Int)%4294967296 by have:=a.out.2.2.2.2;omega]
 rw[G]at q;have U:Hid (GA w b (.returned (.slice F x cf)) R):= ⟨F,x,cf,d4.L,rfl,q,u.out.2.1,by have:=u.out.2.2;omega,u.out.1.trans y.1⟩;clear q o m y G N
 go_wp2_with fail;go_ret;exact U.out
end Go.Proofs.YtdhmnlpfhfmpfaaGreat
