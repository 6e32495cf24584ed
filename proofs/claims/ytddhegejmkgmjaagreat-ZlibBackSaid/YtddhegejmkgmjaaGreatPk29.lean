/-
  part
-/
import Derived.Test.YtddhegejmkgmjaaGreatPk28
import Derived.Test.YtddhegejmkgmjaaGreatPk23
set_option linter.unusedVariables false
set_option maxRecDepth 100000
set_option maxHeartbeats 4000000
namespace Go.Proofs.YtddhegejmkgmjaaGreat
open Go.RowKit
structure BG where
 A:Option Addr
 n:Nat
 c:Nat
 l:List Int
def mE:BG:= ⟨none,0,0,[]⟩
def zeF (ge:Nat) (H:BG) (s:Int) (T:BG):Nat->Value
 | 0=> .pointer (some ⟨ge,0,none⟩)
 | 1=> .slice H.A H.n H.c
 | 2=> .int .u32 s
 | _=> .slice T.A T.n T.c
def PV (g:Nat) (c:Nat->Nat) (H T:BG):Nat->Prop:=λk=>k=g\/aa H.A=some k\/aa T.A=some k\/c k≠0
structure yP (w:World) (b0 g ge:Nat) (c:Nat->Nat) (M:EM) (d:eU) (done:Bool) (H:BG) (s:Int) (T:BG):Prop where
 cell:Ar w g 4 (zeF ge H s T)
 lo:b0<=g
 enc:cW w b0 ge c M d done
 hd:ag .u8 w b0 5 H.A H.n H.c H.l
 tl:ag .u8 w b0 5 T.A T.n T.c T.l
 cg:c g=0
 ch:∀k,aa H.A=some k->c k=0/\k≠g
 ct:∀k,aa T.A=some k->c k=0/\k≠g
 ht:∀k,aa H.A=some k->aa T.A≠some k
 sm:0<=s/\s<4294967296
def wJ (w:World) (b0 g:Nat) (E:Nat->Prop) (d:eU) (done:Bool) (hd:List Int) (s:Int) (tl:List Int):Prop:=
 ∃ge c M H T,yP w b0 g ge c M d done H s T/\E=PV g c H T/\H.l=hd/\T.l=tl
section
variable {w w' w0:World} {b0 g ge:Nat} {c c':Nat->Nat} {M M':EM} {d d':eU} {done done':Bool} {H T:BG} {s s':Int} {E E':Nat->Prop} {hd tl:List Int}
theorem yP.low (h:yP w b0 g ge c M d done H s T):b0<=w.heap.size:=Nat.le_trans h.lo (Nat.le_of_lt h.cell.lt)
theorem yP.Ei (h:yP w b0 g ge c M d done H s T):∀k,PV g c H T k->b0<=k/\k<w.heap.size:=λk a=>by
 rcases a with rfl | a | a | a
 · exact⟨h.lo,h.cell.lt⟩
 · exact h.hd.2.lt a
 · exact h.tl.2.lt a
 · exact h.enc.cb k a
theorem yP.cells (h:yP w b0 g ge c M d done H s T):w.cell? ⟨g,0,none⟩ =some (.pointer (some ⟨ge,0,none⟩))/\w.cell? ⟨g,1,none⟩ =some (.slice H.A H.n H.c)/\w.cell? ⟨g,2,none⟩ =some (.int .u32 s)/\w.cell? ⟨g,3,none⟩ =some (.slice T.A T.n T.c):=
 ⟨h.cell.cell (i:=0) ω,h.cell.cell (i:=1) ω,h.cell.cell (i:=2) ω,h.cell.cell (i:=3) ω⟩
theorem yP.keeps (h:yP w b0 g ge c M d done H s T) (a:Below w.heap.size w w'):yP w' b0 g ge c M d done H s T:=
 ⟨h.cell.keeps a,h.lo,h.enc.keeps a,h.hd.keeps a,h.tl.keeps a,h.cg,h.ch,h.ct,h.ht,h.sm⟩
theorem wJ.keeps (h:wJ w b0 g E d done hd s tl) (a:Below w.heap.size w w'):wJ w' b0 g E d done hd s tl:=by
 obtain⟨ge,c,M,H,T,e,b⟩ :=h;exact⟨ge,c,M,H,T,e.keeps a,b⟩
theorem wJ.low (h:wJ w b0 g E d done hd s tl):b0<=w.heap.size:=by
 obtain⟨ge,c,M,H,T,a,b⟩ :=h;exact a.low
theorem wJ.Ei (h:wJ w b0 g E d done hd s tl):∀k,E k->b0<=k/\k<w.heap.size:=by
 obtain⟨ge,c,M,H,T,a,rfl,_⟩ :=h;exact a.Ei
theorem yP.turn (h:yP w b0 g ge c M d done H s T) (b:cW w' b0 ge c' M' d' done') (hd:DE b0 w c w' c'):yP w' b0 g ge c' M' d' done' H s T:=
 ⟨hd.2.1.ar h.cell (λe=>e h.cg),h.lo,b,hd.2.1.bf h.hd (λk a e=>e (h.ch k a).1),hd.2.1.bf h.tl (λk a e=>e (h.ct k a).1),by rw[hd.2.2 g h.cell.lt];exact h.cg,
   λk a=> ⟨by rw[hd.2.2 k (h.hd.2.lt a).2];exact(h.ch k a).1,(h.ch k a).2⟩,λk a=> ⟨by rw[hd.2.2 k (h.tl.2.lt a).2];exact(h.ct k a).1,(h.ct k a).2⟩,h.ht,h.sm⟩
theorem yP.ext (h:yP w b0 g ge c M d done H s T) (e:cW w' b0 ge c' M' d' done') (hd:DE b0 w c w' c'):Ext b0 w w' (PV g c H T) (PV g c' H T):=
 ⟨hd.1,hd.2.1.more λk a=> .inr (.inr (.inr a)),λk a=>by
   rcases a with a | a | a | a
   · exact .inl (.inl a)
   · exact .inl (.inr (.inl a))
   · exact .inl (.inr (.inr (.inl a)))
   · rcases Nat.lt_or_ge k w.heap.size with b | b
     · exact .inl (.inr (.inr (.inr (by rw[<-hd.2.2 k b];exact a))))
     · exact .inr b⟩
theorem yP.own (h:yP w b0 g ge c M d done H s T) {H' T':BG} (b:aq w w' (λk=>k=g)) (e:Ar w' g 4 (zeF ge H' s' T')) (i:ag .u8 w' b0 5 H'.A H'.n H'.c H'.l) (f:ag .u8 w' b0 5 T'.A T'.n T'.c T'.l)
  (ch:∀k,aa H'.A=some k->c k=0/\k≠g) (ct:∀k,aa T'.A=some k->c k=0/\k≠g) (ht:∀k,aa H'.A=some k->aa T'.A≠some k) (sm:0<=s'/\s'<4294967296):yP w' b0 g ge c M d done H' s' T':=
 ⟨e,h.lo,h.enc.aside b (λk a=>by rw[a];exact h.cg),i,f,h.cg,ch,ct,ht,sm⟩
theorem wJ.cv {F:Nat->Prop} (h:wJ w b0 g E d done hd s tl) (f:aq w w' F) (hF:∀k,F k->¬E k):wJ w' b0 g E d done hd s tl:=by
 obtain⟨ge,c,M,H,T,a,rfl,i⟩ :=h;refine⟨ge,c,M,H,T, ⟨f.ar a.cell (λe=>hF g e (.inl rfl)),a.lo,a.enc.aside f (λk b=> ?_),f.bf a.hd (λk b e=>hF k e (.inr (.inl b))),f.bf a.tl (λk b e=>hF k e (.inr (.inr (.inl b)))),a.cg,a.ch,a.ct,a.ht,a.sm⟩,rfl,i⟩;rcases Nat.eq_zero_or_pos (c k)with h4 | h4
 · exact h4
 · exact absurd (.inr (.inr (.inr ω))) (hF k b)
end
theorem yD (lev:Int) (w:World) (u: -9223372036854775808<=lev/\lev<=9223372036854775807):
  Calls Tryz.prog 5 #[.int .i64 lev] w λe w'=>∃g E,e= .returned (.pointer (some ⟨g,0,none⟩))/\wJ w' w.heap.size g E (vd lev) false [120,156] 1 []/\Below w.heap.size w w':=by
 have y:=η (MH lev w u);clear u;go_enter Tryz.func5,Tryz.ntmps5
 go_wp2_with fail
 refine y.out.mono ?_;rintro e w1 ⟨ge,c,M,rfl,s,b⟩;have a:=b.alloc b.size (.cells #[.int .u8 120, .int .u8 156] 5);have r:=s.keeps ((Below.refl w1.heap.size w1).alloc (Nat.le_refl _) (.cells #[.int .u8 120, .int .u8 156] 5));have j:=ag.lit (k:= .u8) (w:=w1) (b0:=w.heap.size) rfl [120,156] 5 b.size δ;obtain⟨w2,d⟩ :=ν (w1.alloc (.cells #[.int .u8 120, .int .u8 156] 5));have p:w2.heap.size=w1.heap.size+1:=by rw[<-d];simp
 replace j:ag .u8 (w1.alloc (.cells #[.int .u8 120, .int .u8 156] 5)) w.heap.size 5 (some ⟨w1.heap.size,0,none⟩) 2 2 [120,156]:=j;rw[d]at j r a
 have v:∀o,Hid (wJ (w2.alloc (.cells #[.pointer (some ⟨ge,0,none⟩), .slice (some ⟨w1.heap.size,0,none⟩) 2 2, .int .u32 1, .slice none 0 0] o)) w.heap.size (w1.heap.size+1) (PV (w1.heap.size+1) c ⟨some ⟨w1.heap.size,0,none⟩,2,2,[120,156]⟩ mE) (vd lev) false [120,156] 1 []/\Below w.heap.size w (w2.alloc (.cells #[.pointer (some ⟨ge,0,none⟩), .slice (some ⟨w1.heap.size,0,none⟩) 2 2, .int .u32 1, .slice none 0 0] o))):=λo=>by
  have q:=a.alloc a.size (.cells #[.pointer (some ⟨ge,0,none⟩), .slice (some ⟨w1.heap.size,0,none⟩) 2 2, .int .u32 1, .slice none 0 0] o);have n:=(Below.refl w2.heap.size w2).alloc (Nat.le_refl _) (.cells #[.pointer (some ⟨ge,0,none⟩), .slice (some ⟨w1.heap.size,0,none⟩) 2 2, .int .u32 1, .slice none 0 0] o)
  have t:∀k,w1.heap.size<=k->c k=0:=λk l=>by
   rcases Nat.eq_zero_or_pos (c k)with h | h
   · exact h
   · have:=(s.cb k ω).2;omega
  have x:=Ar.new w2 #[.pointer (some ⟨ge,0,none⟩), .slice (some ⟨w1.heap.size,0,none⟩) 2 2, .int .u32 1, .slice none 0 0] o (m:=4) (f:=zeF ge ⟨some ⟨w1.heap.size,0,none⟩,2,2,[120,156]⟩ 1 mE) rfl (λi hi=>by
   obtain rfl | rfl | rfl | rfl:i=0\/i=1\/i=2\/i=3:=ω
   all_goals rfl)
  rw[p]at x;refine⟨⟨ge,c,M, ⟨some ⟨w1.heap.size,0,none⟩,2,2,[120,156]⟩,mE, ⟨x,by have:=a.size;omega,r.keeps n,j.keeps n,ag.br,t _ ω,λk l=> ?_,λk l=>by simp [mE,aa]at l,λk l=>by simp [mE,aa],δ⟩,rfl,rfl,rfl⟩,q⟩;simp [aa]at l
  exact⟨t k ω,ω⟩
 clear s b a r j
 go_wp2_with fail
 go_ret
 exact⟨_,_,rfl,(v _).out.1,(v _).out.2⟩
def cM (v:Int):List Int:=[v/16777216,v/65536%256,v/256%256,v%256]
theorem pW {v:Int} (hv:0<=v/\v<4294967296):∀x∈cM v,0<=x/\x<256:=λx a=>by
 simp [cM]at a
 omega
theorem QZ (v:Int) (w:World) (hv:0<=v/\v<4294967296):
  Calls Tryz.prog 22 #[.int .u32 v] w λe w'=>∃A,e= .returned (.slice A 4 4)/\ag .u8 w' w.heap.size 5 A 4 4 (cM v)/\Below w.heap.size w w':=by
 have a:=ag.lit (k:= .u8) (w:=w) (b0:=w.heap.size) rfl (cM v) 5 (Nat.le_refl _) (by simp [cM,maxLen]);have b:=(Below.refl w.heap.size w).alloc (Nat.le_refl _) (.cells ((cM v).map (Value.int .u8)).toArray 5);have c:=η (⟨a,b⟩ :_/\_);clear a b;go_enter Tryz.func22,Tryz.ntmps22
 go_wp2_with fail
 go_ret
 exact⟨_,rfl,c.out.1,c.out.2⟩
section
variable {w:World} {b0 g:Nat} {E:Nat->Prop} {d:eU} {hd tl:List Int} {s:Int}
theorem Bj (h:wJ w b0 g E d true hd s tl) (v:Value):Calls Tryz.prog 7 #[.pointer (some ⟨g,0,none⟩),v] w λe w'=>e= .returned (.int .i64 8)/\w=w':=by
 obtain⟨ge,c,M,H,T,a,rfl,rfl,rfl⟩ :=h;obtain⟨l,i,f,b⟩ :=a.cells;have k:=η (Ck w ge v a.enc.cells.2.2.2.2.2);clear a i f b;go_enter Tryz.func7,Tryz.ntmps7
 go_wp2_with fail
 refine k.out.mono ?_;rintro e w1 ⟨rfl,j⟩;obtain rfl:=j
 go_wp2_with fail
 go_ret
 exact⟨rfl,rfl⟩
theorem sO (h:wJ w b0 g E d false hd s tl) {K:Nat} {X P:List Int} (V:DB K X P d) (C:Option Addr) (m e:Nat) (x:List Int) (y:aT .u8 w w.heap.size C m x) (Qq:m<=e) (B:0<m->∀f,C=some f->¬E f.block) (n:∀v∈x,0<=v/\v<256) (D:(X++x).length<=16777216) (U:K+100*m<=2000000000000):
  Calls Tryz.prog 7 #[.pointer (some ⟨g,0,none⟩), .slice C m e] w λr w'=>r= .returned (.int .i64 0)/\∃E',wJ w' b0 g E' (bL m d x) false hd (bC s x) tl/\Ext b0 w w' E E':=by
 obtain⟨ge,c,M,H,T,A,rfl,rfl,rfl⟩ :=h;obtain⟨k0,O,N,L⟩ :=A.cells
 have l:0<m->∀f,C=some f->c f.block=0:=λI f e=>by
  rcases Nat.eq_zero_or_pos (c f.block)with Q | Q
  · exact Q
  · exact absurd (.inr (.inr (.inr ω))) (B I f e)
 have Y:=η (Fo w b0 ge c M d A.enc V C m e x y Qq l n D U);have hm:m<=1000000000:=by rw[List.length_append]at D;have:=y.1;omega
 have o:=η (⟨A,y,B,n,l⟩ :_/\_/\_/\_/\_);clear A y B n D U V O N L l;go_enter Tryz.func7,Tryz.ntmps7
 go_wp2_with fail
 refine Y.out.mono ?_;rintro r w1 ⟨rfl,M1,c1,G,z⟩;have u:=o.out.1.turn G z;have q:=o.out.1.ext G z;have t:=z.2.1.oH o.out.2.1 (Nat.le_refl _) (λI f e hc=>hc (o.out.2.2.2.2 I f e));have F:=xl s C m e w.heap.size x w1 t (yU o.out.2.2.2.1) u.sm hm;obtain⟨k0,O,N,L⟩ :=u.cells;have z2:=u.cell.frozen' (i:=2) ω;have W:wm (dQ s) (eO s) x m*65536+pU (dQ s) x m=bC s x:=by rw[o.out.2.1.1];rfl
 rw[W]at F;have J:=η F;have a:=η (⟨u,q⟩ :_/\_);clear F W G z u q t Y
 go_wp2_with fail
 refine J.out.mono ?_;rintro r w2 ⟨rfl,hx⟩;obtain rfl:=hx;have b:aq w1 (w1.setCell ⟨g,2,none⟩ (.int .u32 (bC s x))) (λk=>k=g):=aq.setCell (S:=λk=>k=g) (aq.refl w1 _) (p:= ⟨g,2,none⟩) (.inl rfl) _
 have h4:=a.out.1.own (s':=bC s x) (H':=H) (T':=T) b ((a.out.1.cell.aQ (i:=2) ω _).congr (λi hi=>by
   obtain rfl | rfl | rfl | rfl:i=0\/i=1\/i=2\/i=3:=ω
   all_goals rfl)) (b.bf a.out.1.hd (λk j e=>(a.out.1.ch k j).2 e)) (b.bf a.out.1.tl (λk j e=>(a.out.1.ct k j).2 e)) a.out.1.ch a.out.1.ct a.out.1.ht (iG s x)
 have R:=a.out.2.trans (Ext.of (b.more λk j=> .inl j) (λk j=>(a.out.1.Ei k j).1) a.out.1.low (λk j=> .inl j));have Z:=η (⟨h4,R⟩ :_/\_);clear h4 R b
 go_wp2_with fail
 go_ret
 exact⟨rfl,_, ⟨ge,c1,M1,H,T,Z.out.1,rfl,rfl,rfl⟩,Z.out.2⟩
theorem sN (h:wJ w b0 g E d false hd s tl) {K:Nat} {X P:List Int} (D:DB K X P d) (C:K+100<=2000000000000):
  Calls Tryz.prog 9 #[.pointer (some ⟨g,0,none⟩)] w λr w'=>r= .returned (.int .i64 0)/\∃E',wJ w' b0 g E' (cN d) true hd s (cM s)/\Ext b0 w w' E E':=by
 obtain⟨ge,c,M,H,T,m,rfl,rfl,rfl⟩ :=h;obtain⟨J,z,y,x⟩ :=m.cells;have F:=η (Ff w b0 ge c M d m.enc D C);have I:=η m;clear m C D z y x;go_enter Tryz.func9,Tryz.ntmps9
 go_wp2_with fail
 refine F.out.mono ?_;rintro r w1 ⟨rfl,L,c1,u,q⟩;have l:=I.out.turn u q;have j:=I.out.ext u q;obtain⟨J,z,y,x⟩ :=l.cells;have v:=η (QZ s w1 l.sm);have b:=η (⟨l,j⟩ :_/\_);clear u q l j F
 go_wp2_with fail
 refine v.out.mono ?_;rintro r w2 ⟨A,rfl,o,t⟩;have h4:=b.out.1.keeps t;have N:=h4.cell.frozen' (i:=3) ω;have O:=h4.cells.2.2.2;have hA:∀k,aa A=some k->w1.heap.size<=k:=λk a=>(o.2.lt a).1
 have n:∀k,w1.heap.size<=k->c1 k=0/\k≠g:=λk a=>by
  refine⟨?_,by have:=b.out.1.cell.lt;omega⟩;rcases Nat.eq_zero_or_pos (c1 k)with h | h
  · exact h
  · have:=(b.out.1.enc.cb k ω).2;omega
 have f:aq w2 (w2.setCell ⟨g,3,none⟩ (.slice A 4 4)) (λk=>k=g):=aq.setCell (S:=λk=>k=g) (aq.refl w2 _) (p:= ⟨g,3,none⟩) (.inl rfl) _
 have h5:=h4.own (s':=s) (H':=H) (T':= ⟨A,4,4,cM s⟩) f ((h4.cell.aQ (i:=3) ω _).congr (λi hi=>by
   obtain rfl | rfl | rfl | rfl:i=0\/i=1\/i=2\/i=3:=ω
   all_goals rfl)) (f.bf h4.hd (λk a e=>(h4.ch k a).2 e)) ((o.more b.out.1.low).far (p:= ⟨g,3,none⟩) (λe=>(n g (hA g e)).2 rfl) _) h4.ch (λk a=>n k (hA k a)) (λk a e=>by have h6:=hA k e;have h7:=(b.out.1.hd.2.lt a).2;omega) h4.sm
 have B:Ext b0 w (w2.setCell ⟨g,3,none⟩ (.slice A 4 4)) (PV g c H T) (PV g c1 H ⟨A,4,4,cM s⟩):=b.out.2.trans (Ext.of (((aq.aB t).setCell (p:= ⟨g,3,none⟩) (.inl (.inl rfl)) _)) (λk a=>(b.out.1.Ei k a).1) b.out.1.low (λk a=>by
  rcases a with a | a | a | a
  · exact .inl (.inl a)
  · exact .inl (.inr (.inl a))
  · exact .inr (hA k a)
  · exact .inl (.inr (.inr (.inr a)))))
 have G:=η (⟨h5,B⟩ :_/\_);clear h4 h5 B f o t hA n
 go_wp2_with fail
 go_ret
 exact⟨rfl,_, ⟨ge,c1,L,H,_,G.out.1,rfl,rfl,rfl⟩,G.out.2⟩
end
def a01 (w:World) (b0 g:Nat) (E:Nat->Prop) (d:eU) (done:Bool) (hd:List Int) (s:Int) (tl:List Int) (r:Ending) (w':World):Prop:=
 ∃A n k E',r= .returned (.slice A n k)/\ag .u8 w' b0 5 A n k (hd++gK d.L++tl)/\(∀q,aa A=some q->¬E' q)/\wJ w' b0 g E' { d with L:=rest d.L } done [] s []/\Ext b0 w w' E E'
theorem pJ {w:World} {b0 g:Nat} {E:Nat->Prop} {d:eU} {hd tl:List Int} {s:Int} {done:Bool} (h:wJ w b0 g E d done hd s tl) (K:hd.length<=100000/\tl.length<=100000/\d.L.length<=1000000000000):
  Calls Tryz.prog 8 #[.pointer (some ⟨g,0,none⟩)] w (a01 w b0 g E d done hd s tl):=by
 obtain⟨i0,hi,C,B,z⟩ :=info_parts jy;have Hi:=η (⟨hi,C,B,z⟩ :_/\_/\_/\_);obtain⟨ge,c,M,H,T,y,rfl,rfl,rfl⟩ :=h;obtain⟨k0,k1,k2,k3⟩ :=y.cells;have o:cW w.drew b0 ge c M d done:=y.enc.keeps (Below.refl _ _).drew;have HT:=η (JF w.drew b0 ge c M d done o);have ac:H.n<=100000:=by rw[y.hd.1];exact K.1
 have ab:T.n<=100000:=by rw[y.tl.1];exact K.2.1
 have N:=η (⟨y,o,K⟩ :_/\_/\_);clear y o hi C B z k2 K;go_enter Tryz.func8,Tryz.ntmps8
 go_wp2_with fail
 go_region_law
  (first
    | (go_simp;go_at_call 20;(refine HT.out.mono ?_)
       rintro r x ⟨rfl,v,J,I⟩;have V:=N.out.2.1.taken J I;obtain⟨b,X,Bw⟩ :=V;have W:DE b0 w c x b:=DE.trans (⟨(Below.refl _ _).drew,(aq.refl _ _).drew,λ_ _=>rfl⟩ :DE b0 w c w.drew c) Bw;have h5:=N.out.1.turn X W;have qQ:=N.out.1.ext X W;have e1:=h5.cells.2.1;have e3:=h5.cells.2.2.2;have U:=h5.hd;have K5:M.nw<=125000000000:=by rw[v.1,dA];have:=N.out.2.2.2.2;omega
       have R:=h5.low)
    | (have _g:=U;(refine dv .u8 b0 5 i0 1 rfl (.tmp 9) (.tmp 14) _ rfl Tryz.underlying26 Hi.out.1 Hi.out.2.1 Hi.out.2.2.1 Hi.out.2.2.2 rfl U rfl v.rd ω ω R ?_)
       intro A6 c6 O fI gL dc;have u:aq x O (λk=>aa H.A=some k):=(aq.refl x _).grown gL (λk a=> .inl a);have m:=u.bf h5.tl (λk a e=>h5.ht k e a);have mr:=u.ar h5.cell (λe=>(h5.ch g e).2 rfl);have f3:=mr.cell (i:=3) ω;have Q:=Nat.le_trans R u.size;clear U)
    | (have _g:=m;(refine dv .u8 b0 5 i0 1 rfl (.tmp 15) (.tmp 19) _ rfl Tryz.underlying26 Hi.out.1 Hi.out.2.1 Hi.out.2.2.1 Hi.out.2.2.2 rfl fI rfl m.rd ω ω Q ?_)
       intro Z c7 j wZ Qn FE;have f:aq O j (λk=>aa A6=some k):=(aq.refl O _).grown Qn (λk a=> .inl a)
       have Li:∀k,aa A6=some k->aa H.A=some k\/x.heap.size<=k:=λk a=>by
        rcases dc with e | e
        · exact .inl (e▸a)
        · rw[e]at a;injection a with a;exact .inr ω
       have F:=f.ar mr (λe=>by
        rcases Li g e with e2 | e2
        · exact(h5.ch g e2).2 rfl
        · have:=h5.cell.lt;omega)
       have y1:=F.frozen' (i:=1) ω;have y3:=F.frozen' (i:=3) ω;have g1:=F.cell (i:=1) ω;have g3:=F.cell (i:=3) ω))
 all_goals
  have P:∀k,x.heap.size<=k->b k=0/\k≠g:=λk a=>by
   refine⟨?_,by have:=h5.cell.lt;omega⟩;rcases Nat.eq_zero_or_pos (b k)with h | h
   · exact h
   · have:=(h5.enc.cb k ω).2;omega
  have Y:∀k,aa A6=some k->b k=0/\k≠g:=λk a=>by
   rcases Li k a with e | e
   · exact h5.ch k e
   · exact P k e
  have G:∀k,aa Z=some k->b k=0/\k≠g:=λk a=>by
   rcases FE with e | e
   · exact Y k (e▸a)
   · rw[e]at a;injection a with a;exact P k (by have:=u.size;omega)
  have TU:=(h5.enc.aside u (λk a=>(h5.ch k a).1)).aside f (λk a=>(Y k a).1);have t:aq j ((j.setCell ⟨g,1,none⟩ (.slice none 0 0)).setCell ⟨g,3,none⟩ (.slice none 0 0)) (λk=>k=g):=aq.setCell (S:=λk=>k=g) (aq.setCell (S:=λk=>k=g) (aq.refl j _) (p:= ⟨g,1,none⟩) (.inl rfl) _) (p:= ⟨g,3,none⟩) (.inl rfl) _
  have h8:yP ((j.setCell ⟨g,1,none⟩ (.slice none 0 0)).setCell ⟨g,3,none⟩ (.slice none 0 0)) b0 g ge b _ { d with L:=rest d.L } done mE s mE:=
   ⟨((F.aQ (i:=1) ω _).aQ (i:=3) ω _).congr (λi hi=>by
     obtain rfl | rfl | rfl | rfl:i=0\/i=1\/i=2\/i=3:=ω
     all_goals rfl),h5.lo,TU.aside t (λk a=>by rw[a];exact h5.cg),ag.br,ag.br,h5.cg,λk a=>by simp [mE,aa]at a,λk a=>by simp [mE,aa]at a,λk a=>by simp [mE,aa]at a,h5.sm⟩
  have D:aq x ((j.setCell ⟨g,1,none⟩ (.slice none 0 0)).setCell ⟨g,3,none⟩ (.slice none 0 0)) (PV g b H T):=
   ((u.more λk a=>(.inr (.inl a):PV g b H T k)).trans f (λk a=>by
     rcases Li k a with e | e
     · exact .inl (.inr (.inl e))
     · exact .inr e)).trans t (λk a=> .inl (.inl a))
  have G5:=qQ.trans (Ext.of D (λk a=>(h5.Ei k a).1) R (E':=PV g b mE mE) (λk a=>by
   rcases a with a | a | a | a
   · exact .inl (.inl a)
   · simp [mE,aa]at a
   · simp [mE,aa]at a
   · exact .inl (.inr (.inr (.inr a)))))
  have uP:=(wZ.far (p:= ⟨g,1,none⟩) (λe=>(G g e).2 rfl) (.slice none 0 0)).far (p:= ⟨g,3,none⟩) (λe=>(G g e).2 rfl) (.slice none 0 0)
  have HF:Hid (a01 w b0 g (PV g c H T) d done H.l s T.l (.returned (.slice Z (H.n+M.nw+T.n) c7)) ((j.setCell ⟨g,1,none⟩ (.slice none 0 0)).setCell ⟨g,3,none⟩ (.slice none 0 0))):=
   ⟨Z,_,c7,_,rfl,uP,λq hq hE=>by
     rcases hE with e | e | e | e
     · exact(G q hq).2 e
     · simp [mE,aa]at e
     · simp [mE,aa]at e
     · exact e (G q hq).1, ⟨ge,b,_,mE,mE,h8,rfl,rfl,rfl⟩,G5⟩
  clear P Y G TU t h8 D G5 uP u f v J I Bw W h5 qQ m fI wZ X
  go_wp2_with fail
  go_ret
  exact HF.out
theorem ML {x y:List Int} {M m:Nat} {t:IS} (h:(start x M).fin=(t,8)) (f:t.all.length<=m) (g:y.length%8=0):∃d,(start (x++y) m).fin=(d,8)/\d.all=t.all/\d.x=t.x++y:=by
 obtain⟨a,e,ht⟩ :=IS.ft (start x M);have k:a.step.2=8:=by rw[ht,h]
 obtain⟨n,w,v,u,s,r,q,p,o⟩ :=IS.step_done k;have z:a=t:=by rw[h]at ht;rw[<-n,ht]
 subst z;obtain⟨l,c,A⟩ :=e.out;have c:a.all=[]++l:=c;have i:IS.Steps (start x m) (a.cap (m-l.length)):=(e.cap l c m).1 (by rw[c]at f;simpa using f);have j:IS.Steps (start (x++y) m) ((a.cap (m-l.length)).app y):=i.app g
 have b:((a.cap (m-l.length)).app y).step=((a.cap (m-l.length)).app y,8):=by
  unfold IS.step IS.cap IS.app;simp only [if_neg w,if_neg v,if_neg u,if_neg s,if_neg r,if_neg q,if_neg p,if_neg o]
 refine⟨(a.cap (m-l.length)).app y, ?_,rfl,rfl⟩;rw[<-j.iv,IS.dn (by rw[b];simp),b]
structure jP (B X:List Int):Prop where
 fin:∃t,(start B 16777216).fin=(t,8)/\t.x=[]/\t.all=X
 ev:B.length%8=0
 bit:bc B
def bg (B:List Int) (T:List Int):List Int:=[120,156]++gK B++T
theorem Ek (l:List Int):m7 ([120,156]++l)=0:=by
 unfold m7;have b:ix ([120,156]++l) 0=120:=rfl;have a:ix ([120,156]++l) 1=156:=rfl;rw[b,a,if_neg σ,if_neg σ,if_neg δ]
theorem jP.a08 {B X:List Int} (h:jP B X) (T:List Int) (m:Nat) (c:X.length<=m):∃t,ij (bg B T) m=(t,8)/\t.all=X/\t.x=bV T:=by
 obtain⟨t,f,d,a⟩ :=h.fin
 have e:bV ((bg B T).drop 2)=B++bV T:=by
  show bV (gK B++T)=_
  rw[oM,Cm h.ev h.bit]
 obtain⟨b,j,i,g⟩ :=ML (y:=bV T) f (by rw[a];exact c) (by rw[bD];omega);exact⟨b,by unfold ij;rw[e];exact j,by rw[i,a],by rw[g,d,List.nil_append]⟩
theorem jP.a3e {B X:List Int} (h:jP B X) (T:List Int) (m:Nat) (a:X.length<=m):dV (bg B T) m=X:=by
 obtain⟨t,c,b,_⟩ :=h.a08 T m a;unfold dV;rw[show bg B T=[120,156]++(gK B++T) from rfl,Ek,if_neg δ,<-show bg B T=[120,156]++(gK B++T) from rfl,c];exact b
theorem jP.e_ {B X:List Int} (h:jP B X) (T:List Int) (b:∀v∈T,0<=v/\v<256) (m:Nat) (a:X.length<=m):zE (bg B T) m true=oC T (bC 1 X) true:=by
 obtain⟨t,e,d,c⟩ :=h.a08 T m a;unfold zE;rw[show bg B T=[120,156]++(gK B++T) from rfl,Ek,if_neg δ,<-show bg B T=[120,156]++(gK B++T) from rfl,e,if_neg σ,d,c,tD b]
theorem Jk (v:Int) (hv:0<=v/\v<4294967296) (l:List Int):sU (cM v++l)=v:=by
 show v/16777216*16777216+v/65536%256*65536+v/256%256*256+v%256=v
 omega
theorem Em (v:Int) (hv:0<=v/\v<4294967296) (l:List Int):oC (cM v++l) v true=if l.length=0 then 8 else 2:=by
 unfold oC;rw[Jk v hv l];have e:(cM v++l).length=4+l.length:=by rw[List.length_append];rfl
 rw[e,if_neg ω,if_neg σ];by_cases h:l.length=0
 · rw[if_neg ω,if_pos h,if_pos rfl]
 · rw[if_pos ω,if_neg h]
theorem QY {T:List Int} (i:T.length=4) (e:∀v∈T,0<=v/\v<256) {v:Int} (hv:0<=v/\v<4294967296) (f:T≠cM v):sU T≠v:=by
 intro h
 match T,i with
 | [a,b,c,d],_=>
   have k:=e a σ;have g:=e b σ;have j:=e c σ;have hd:=e d σ;replace h:a*16777216+b*65536+c*256+d=v:=h
   apply f
   unfold cM;congr 1
   · omega
   · congr 1
     · omega
     · congr 1
       · omega
       · congr 1;omega
end Go.Proofs.YtddhegejmkgmjaaGreat
