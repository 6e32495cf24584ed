/-
  part
-/
import Derived.Test.YtgiimmkmjpbecaaGreatPk23
import Derived.Test.YtgiimmkmjpbecaaGreatPk29
set_option linter.unusedVariables false
set_option maxRecDepth 100000
set_option maxHeartbeats 4000000
namespace Go.Proofs.YtgiimmkmjpbecaaGreat
open Go.RowKit
def geF (ge:Nat) (H:ub) (s z:Int) (T:ub):Nat->Value
 | 0=> .pointer (some ⟨ge,0,none⟩)
 | 1=> .slice H.A H.n H.c
 | 2=> .int .u32 s
 | 3=> .int .u32 z
 | _=> .slice T.A T.n T.c
def QC (g:Nat) (c:Nat->Nat) (H T:ub):Nat->Prop:=λk=>k=g\/ai H.A=some k\/ai T.A=some k\/c k≠0
structure EJ (w:World) (b0 b1 g ge:Nat) (c:Nat->Nat) (M:EM) (d:jO) (done:Bool) (H:ub) (s z:Int) (T:ub):Prop where
 cell:Ar w g 5 (geF ge H s z T)
 lo:b0<=g
 lo1:b0<=b1
 enc:gH w b1 ge c M d done
 hd:aT .u8 w b0 5 H.A H.n H.c H.l
 tl:aT .u8 w b0 5 T.A T.n T.c T.l
 cg:c g=0
 ch:∀k,ai H.A=some k->c k=0/\k≠g
 ct:∀k,ai T.A=some k->c k=0/\k≠g
 ht:∀k,ai H.A=some k->ai T.A≠some k
 sm:(0<=s/\s<4294967296)/\0<=z/\z<4294967296
def EK (w:World) (b0 g:Nat) (E:Nat->Prop) (d:jO) (done:Bool) (hd:ag) (s z:Int) (tl:ag):Prop:=
 ∃b1 ge c M H T,EJ w b0 b1 g ge c M d done H s z T/\E=QC g c H T/\H.l=hd/\T.l=tl
section
variable {w w' w0:World} {b0 b1 g ge:Nat} {c c':Nat->Nat} {M M':EM} {d d':jO} {done done':Bool} {H T:ub} {s s' z z':Int} {E E':Nat->Prop} {hd tl:ag}
theorem EJ.low (h:EJ w b0 b1 g ge c M d done H s z T):b0<=w.heap.size:=aq h.lo (bE h.cell.lt)
theorem EJ.qb (h:EJ w b0 b1 g ge c M d done H s z T):∀k,QC g c H T k->b0<=k/\k<w.heap.size:=λk a=>by
 rcases a with rfl | a | a | a
 · exact⟨h.lo,h.cell.lt⟩
 · exact h.hd.2.lt a
 · exact h.tl.2.lt a
 exact⟨aq h.lo1 (h.enc.cb k a).1,(h.enc.cb k a).2⟩
theorem EJ.cells (h:EJ w b0 b1 g ge c M d done H s z T):w.cell? ⟨g,0,none⟩ =some (.pointer (some ⟨ge,0,none⟩))/\w.cell? ⟨g,1,none⟩ =some (.slice H.A H.n H.c)/\w.cell? ⟨g,2,none⟩ =some (.int .u32 s)/\w.cell? ⟨g,3,none⟩ =some (.int .u32 z)/\w.cell? ⟨g,4,none⟩ =some (.slice T.A T.n T.c):=
 ⟨h.cell.az 0,h.cell.az 1,h.cell.az 2,h.cell.az 3,h.cell.az 4⟩
theorem EJ.keeps (h:EJ w b0 b1 g ge c M d done H s z T) (a:Below w.heap.size w w'):EJ w' b0 b1 g ge c M d done H s z T:=
 ⟨h.cell.keeps a,h.lo,h.lo1,h.enc.keeps a,h.hd.keeps a,h.tl.keeps a,h.cg,h.ch,h.ct,h.ht,h.sm⟩
theorem EK.keeps (h:EK w b0 g E d done hd s z tl) (a:Below w.heap.size w w'):EK w' b0 g E d done hd s z tl:=by
 obtain⟨b1,ge,c,M,H,T,e,b⟩ :=h;exact⟨b1,ge,c,M,H,T,e.keeps a,b⟩
theorem EK.qb (h:EK w b0 g E d done hd s z tl):∀k,E k->b0<=k/\k<w.heap.size:=by
 obtain⟨b1,ge,c,M,H,T,a,rfl,_⟩ :=h;exact a.qb
theorem EJ.turn (h:EJ w b0 b1 g ge c M d done H s z T) (b:gH w' b1 ge c' M' d' done') (hd:DE b1 w c w' c'):EJ w' b0 b1 g ge c' M' d' done' H s z T:=
 ⟨hd.2.1.ar h.cell (λe=>e h.cg),h.lo,h.lo1,b,hd.2.1.dJ h.hd (λk a e=>e (h.ch k a).1),hd.2.1.dJ h.tl (λk a e=>e (h.ct k a).1),by rw[hd.2.2 g h.cell.lt];exact h.cg,
   λk a=> ⟨by rw[hd.2.2 k (h.hd.2.lt a).2];exact(h.ch k a).1,(h.ch k a).2⟩,λk a=> ⟨by rw[hd.2.2 k (h.tl.2.lt a).2];exact(h.ct k a).1,(h.ct k a).2⟩,h.ht,h.sm⟩
theorem EJ.ext (h:EJ w b0 b1 g ge c M d done H s z T) (e:gH w' b1 ge c' M' d' done') (hd:DE b1 w c w' c'):Ext b0 w w' (QC g c H T) (QC g c' H T):=
 ⟨hd.1.mono h.lo1,hd.2.1.more λk a=> .inr (.inr (.inr a)),λk a=>by
   rcases a with a | a | a | a
   · exact .inl (.inl a)
   · exact .inl (.inr (.inl a))
   · exact .inl (.inr (.inr (.inl a)))
   rcases aU k w.heap.size with b | b
   · exact .inl (.inr (.inr (.inr (by rw[<-hd.2.2 k b];exact a))))
   exact .inr b⟩
theorem EJ.own (h:EJ w b0 b1 g ge c M d done H s z T) {H' T':ub} (b:bb w w' (λk=>k=g)) (e:Ar w' g 5 (geF ge H' s' z' T')) (i:aT .u8 w' b0 5 H'.A H'.n H'.c H'.l) (f:aT .u8 w' b0 5 T'.A T'.n T'.c T'.l)
  (ch:∀k,ai H'.A=some k->c k=0/\k≠g) (ct:∀k,ai T'.A=some k->c k=0/\k≠g) (ht:∀k,ai H'.A=some k->ai T'.A≠some k) (sm:(0<=s'/\s'<4294967296)/\0<=z'/\z'<4294967296):EJ w' b0 b1 g ge c M d done H' s' z' T':=
 ⟨e,h.lo,h.lo1,h.enc.aside b (λk a=>by rw[a];exact h.cg),i,f,h.cg,ch,ct,ht,sm⟩
theorem EK.dx {F:Nat->Prop} (h:EK w b0 g E d done hd s z tl) (f:bb w w' F) (hF:∀k,F k->¬E k):EK w' b0 g E d done hd s z tl:=by
 obtain⟨b1,ge,c,M,H,T,a,rfl,i⟩ :=h;refine⟨b1,ge,c,M,H,T, ⟨f.ar a.cell (λe=>hF g e (.inl rfl)),a.lo,a.lo1,a.enc.aside f (λk b=> ?_),f.dJ a.hd (λk b e=>hF k e (.inr (.inl b))),f.dJ a.tl (λk b e=>hF k e (.inr (.inr (.inl b)))),a.cg,a.ch,a.ct,a.ht,a.sm⟩,rfl,i⟩;rcases bD (c k)with h4 | h4
 · exact h4
 exact absurd (.inr (.inr (.inr ω))) (hF k b)
end
theorem gH.new {w2:World} {b0 gf gm gw:Nat} (lev:Int) (hf:eA w2 b0 gf (gR lev) Jy 0 none 0 0 gm 0 (.map []) none 0 0) (c:pX w2 b0 gw none 0 0 []) (p:gf≠gw) (o:gm≠gw) (t:TypeId):
  gH (w2.alloc (.cells #[.pointer (some ⟨gf,0,none⟩), .pointer (some ⟨gw,0,none⟩), .int .i64 lev, .slice none 0 0, .slice none 0 0, .bool false] t)) b0 w2.heap.size
   (λk=>if k=w2.heap.size then 1 else if k=gf\/k=gm then 2 else if k=gw then 3 else 0)
   ⟨gf,none,0,0,gm,none,0,0,gw,none,0,0,none,0,0,none,0,0⟩ (CV lev) false:=by
 have n:b0<=gf/\gf<w2.heap.size:=hf.eG (.inl rfl);have m:b0<=gm/\gm<w2.heap.size:=hf.eG (.inr (.inl rfl));have l:b0<=gw/\gw<w2.heap.size:=c.eG (.inl rfl);have d:Below w2.heap.size w2 (w2.alloc (.cells #[.pointer (some ⟨gf,0,none⟩), .pointer (some ⟨gw,0,none⟩), .int .i64 lev, .slice none 0 0, .slice none 0 0, .bool false] t)):=(aw _ _).alloc (af _) _;refine⟨Ar.new _ _ _ rfl λi hi=> ?_,aa rfl, ⟨0, .map [],hf.keeps d⟩,λk a=> ?_,c.keeps d,λk a=> ?_,aT.di,λk a=>by simp [ai]at a, ⟨rfl,Own.di⟩,λk a=>by simp [ai]at a,λk a=> ?_⟩
 · obtain rfl | rfl | rfl | rfl | rfl | rfl:i=0\/i=1\/i=2\/i=3\/i=4\/i=5:=ω;all_goals rfl
 · have b:k=gf\/k=gm:=by
    rcases a with h | h | h | h
    · exact .inl h
    · exact .inr h
    · simp [ai]at h
    simp [ai]at h
   show(if k=w2.heap.size then 1 else if k=gf\/k=gm then 2 else if k=gw then 3 else 0)=2;rw[a8 ω,aa b]
 · have b:k=gw:=by
    rcases a with h | h
    · exact h
    simp [ai]at h
   show(if k=w2.heap.size then 1 else if k=gf\/k=gm then 2 else if k=gw then 3 else 0)=3;rw[a8 ω,a8 ω,aa b]
 have e:(w2.alloc (.cells #[.pointer (some ⟨gf,0,none⟩), .pointer (some ⟨gw,0,none⟩), .int .i64 lev, .slice none 0 0, .slice none 0 0, .bool false] t)).heap.size=w2.heap.size+1:=σ;rw[e];by_cases j:k=w2.heap.size
 · omega
 by_cases g:k=gf\/k=gm
 · omega
 by_cases f:k=gw
 · omega
 exact absurd (by show(if k=w2.heap.size then 1 else if k=gf\/k=gm then 2 else if k=gw then 3 else 0)=0;rw[a8 j,a8 g,a8 f]) a
theorem Ix (lev:Int) (w:World) (k: -9223372036854775808<=lev/\lev<=9223372036854775807):
  Calls Tryz.prog 33 #[.int .i64 lev] w λe w'=>∃g c M,e= .returned (.pointer (some ⟨g,0,none⟩))/\gH w' w.heap.size g c M (CV lev) false/\Below w.heap.size w w':=by
 have p:=η (Uj lev w k);clear k
 go_in
 go_wp2_with fail;refine p.mono ?_;rintro e w1 ⟨gf,gm,rfl,hf,i⟩;have f:=η (⟨hf,i⟩ :_/\_);clear hf i
 go_wp2_with fail;refine(NU w1).mono ?_;rintro e w2 ⟨gw,rfl,b,a⟩;have h:=f.1.keeps a;have j:=gH.new (b0:=w.heap.size) lev h ⟨b.cell,aq f.2.size b.lo,b.own.more f.2.size,b.apart,b.bit⟩ (λe=>by have n:=(f.1.eG (.inl rfl)).2;have m:=b.lo;omega) (λe=>by have n:=(f.1.eG (.inr (.inl rfl))).2;have m:=b.lo;omega) 102;have d:=λo:Obj=>(f.2.trans (a.mono f.2.size)).alloc (aq f.2.size a.size) o;have l:=η (⟨j,d⟩ :_/\_);clear h j b a d
 go_wp2_with fail;go_ret;exact⟨_,_,_,rfl,l.1,l.2 _⟩
theorem DA (w:World) (b0 g:Nat) (c:Nat->Nat) (M:EM) (d:jO) (done:Bool) (h:gH w b0 g c M d done):
  Calls Tryz.prog 92 #[.pointer (some ⟨g,0,none⟩)] w λe w'=>e= .returned (.slice M.Aw M.nw M.cw)/\aT .u8 w' b0 5 M.Aw M.nw M.cw (gU d.L)/\pX w' b0 M.gw none 0 0 (rest d.L)/\bb w w' (λk=>k=M.gw):=by
 obtain⟨c0,c1,c2,l,j,i⟩ :=h.cells;have n:=η (Kw w b0 M.gw M.nw M.cw M.Aw _ h.Su);clear h c0 c2 l j i
 go_in
 go_wp2_with fail;refine n.mono ?_;rintro e w1 ⟨rfl,f,b,a⟩;have m:=η (⟨f,b,a⟩ :_/\_/\_);clear f b a
 go_wp2_with fail;go_ret;exact⟨rfl,m.out⟩
def zeF (ge:Nat) (H:ub) (s:Int) (T:ub):Nat->Value
 | 0=> .pointer (some ⟨ge,0,none⟩)
 | 1=> .slice H.A H.n H.c
 | 2=> .int .u32 s
 | _=> .slice T.A T.n T.c
def XW (g:Nat) (c:Nat->Nat) (H T:ub):Nat->Prop:=λk=>k=g\/ai H.A=some k\/ai T.A=some k\/c k≠0
structure F0 (w:World) (b0 g ge:Nat) (c:Nat->Nat) (M:EM) (d:jO) (done:Bool) (H:ub) (s:Int) (T:ub):Prop where
 cell:Ar w g 4 (zeF ge H s T)
 lo:b0<=g
 enc:gH w b0 ge c M d done
 hd:aT .u8 w b0 5 H.A H.n H.c H.l
 tl:aT .u8 w b0 5 T.A T.n T.c T.l
 cg:c g=0
 ch:∀k,ai H.A=some k->c k=0/\k≠g
 ct:∀k,ai T.A=some k->c k=0/\k≠g
 ht:∀k,ai H.A=some k->ai T.A≠some k
 sm:0<=s/\s<4294967296
def F2 (w:World) (b0 g:Nat) (E:Nat->Prop) (d:jO) (done:Bool) (hd:ag) (s:Int) (tl:ag):Prop:=
 ∃ge c M H T,F0 w b0 g ge c M d done H s T/\E=XW g c H T/\H.l=hd/\T.l=tl
section
variable {w w' w0:World} {b0 g ge:Nat} {c c':Nat->Nat} {M M':EM} {d d':jO} {done done':Bool} {H T:ub} {s s':Int} {E E':Nat->Prop} {hd tl:ag}
theorem F0.low (h:F0 w b0 g ge c M d done H s T):b0<=w.heap.size:=aq h.lo (bE h.cell.lt)
theorem F0.qb (h:F0 w b0 g ge c M d done H s T):∀k,XW g c H T k->b0<=k/\k<w.heap.size:=λk a=>by
 rcases a with rfl | a | a | a
 · exact⟨h.lo,h.cell.lt⟩
 · exact h.hd.2.lt a
 · exact h.tl.2.lt a
 exact h.enc.cb k a
theorem F0.cells (h:F0 w b0 g ge c M d done H s T):w.cell? ⟨g,0,none⟩ =some (.pointer (some ⟨ge,0,none⟩))/\w.cell? ⟨g,1,none⟩ =some (.slice H.A H.n H.c)/\w.cell? ⟨g,2,none⟩ =some (.int .u32 s)/\w.cell? ⟨g,3,none⟩ =some (.slice T.A T.n T.c):=
 ⟨h.cell.az 0,h.cell.az 1,h.cell.az 2,h.cell.az 3⟩
theorem F0.keeps (h:F0 w b0 g ge c M d done H s T) (a:Below w.heap.size w w'):F0 w' b0 g ge c M d done H s T:=
 ⟨h.cell.keeps a,h.lo,h.enc.keeps a,h.hd.keeps a,h.tl.keeps a,h.cg,h.ch,h.ct,h.ht,h.sm⟩
theorem F2.keeps (h:F2 w b0 g E d done hd s tl) (a:Below w.heap.size w w'):F2 w' b0 g E d done hd s tl:=by
 obtain⟨ge,c,M,H,T,e,b⟩ :=h;exact⟨ge,c,M,H,T,e.keeps a,b⟩
theorem F2.qb (h:F2 w b0 g E d done hd s tl):∀k,E k->b0<=k/\k<w.heap.size:=by
 obtain⟨ge,c,M,H,T,a,rfl,_⟩ :=h;exact a.qb
theorem F0.turn (h:F0 w b0 g ge c M d done H s T) (b:gH w' b0 ge c' M' d' done') (hd:DE b0 w c w' c'):F0 w' b0 g ge c' M' d' done' H s T:=
 ⟨hd.2.1.ar h.cell (λe=>e h.cg),h.lo,b,hd.2.1.dJ h.hd (λk a e=>e (h.ch k a).1),hd.2.1.dJ h.tl (λk a e=>e (h.ct k a).1),by rw[hd.2.2 g h.cell.lt];exact h.cg,
   λk a=> ⟨by rw[hd.2.2 k (h.hd.2.lt a).2];exact(h.ch k a).1,(h.ch k a).2⟩,λk a=> ⟨by rw[hd.2.2 k (h.tl.2.lt a).2];exact(h.ct k a).1,(h.ct k a).2⟩,h.ht,h.sm⟩
theorem F0.ext (h:F0 w b0 g ge c M d done H s T) (e:gH w' b0 ge c' M' d' done') (hd:DE b0 w c w' c'):Ext b0 w w' (XW g c H T) (XW g c' H T):=
 ⟨hd.1,hd.2.1.more λk a=> .inr (.inr (.inr a)),λk a=>by
   rcases a with a | a | a | a
   · exact .inl (.inl a)
   · exact .inl (.inr (.inl a))
   · exact .inl (.inr (.inr (.inl a)))
   rcases aU k w.heap.size with b | b
   · exact .inl (.inr (.inr (.inr (by rw[<-hd.2.2 k b];exact a))))
   exact .inr b⟩
theorem F0.own (h:F0 w b0 g ge c M d done H s T) {H' T':ub} (b:bb w w' (λk=>k=g)) (e:Ar w' g 4 (zeF ge H' s' T')) (i:aT .u8 w' b0 5 H'.A H'.n H'.c H'.l) (f:aT .u8 w' b0 5 T'.A T'.n T'.c T'.l)
  (ch:∀k,ai H'.A=some k->c k=0/\k≠g) (ct:∀k,ai T'.A=some k->c k=0/\k≠g) (ht:∀k,ai H'.A=some k->ai T'.A≠some k) (sm:0<=s'/\s'<4294967296):F0 w' b0 g ge c M d done H' s' T':=
 ⟨e,h.lo,h.enc.aside b (λk a=>by rw[a];exact h.cg),i,f,h.cg,ch,ct,ht,sm⟩
theorem F2.dx {F:Nat->Prop} (h:F2 w b0 g E d done hd s tl) (f:bb w w' F) (hF:∀k,F k->¬E k):F2 w' b0 g E d done hd s tl:=by
 obtain⟨ge,c,M,H,T,a,rfl,i⟩ :=h;refine⟨ge,c,M,H,T, ⟨f.ar a.cell (λe=>hF g e (.inl rfl)),a.lo,a.enc.aside f (λk b=> ?_),f.dJ a.hd (λk b e=>hF k e (.inr (.inl b))),f.dJ a.tl (λk b e=>hF k e (.inr (.inr (.inl b)))),a.cg,a.ch,a.ct,a.ht,a.sm⟩,rfl,i⟩;rcases bD (c k)with h4 | h4
 · exact h4
 exact absurd (.inr (.inr (.inr ω))) (hF k b)
end
theorem Sw (lev:Int) (w:World) (t: -9223372036854775808<=lev/\lev<=9223372036854775807):
  Calls Tryz.prog 22 #[.int .i64 lev] w λe w'=>∃g E,e= .returned (.pointer (some ⟨g,0,none⟩))/\F2 w' w.heap.size g E (CV lev) false [120,156] 1 []/\Below w.heap.size w w':=by
 have x:=η (Ix lev w t);clear t
 go_in
 go_wp2_with fail;refine x.mono ?_;rintro e w1 ⟨ge,c,M,rfl,s,b⟩;have a:=b.alloc b.size (.cells #[.int .u8 120, .int .u8 156] 5);have r:=s.keeps ((aw w1.heap.size w1).alloc (af _) (.cells #[.int .u8 120, .int .u8 156] 5));have j:=aT.lit (k:= .u8) (w:=w1) (b0:=w.heap.size) rfl [120,156] 5 b.size δ;obtain⟨w2,d⟩ :=ν (w1.alloc (.cells #[.int .u8 120, .int .u8 156] 5));have p:w2.heap.size=w1.heap.size+1:=by rw[<-d];simp
 replace j:aT .u8 (w1.alloc (.cells #[.int .u8 120, .int .u8 156] 5)) w.heap.size 5 (some ⟨w1.heap.size,0,none⟩) 2 2 [120,156]:=j;rw[d]at j r a
 have u:∀o,Hid (F2 (w2.alloc (.cells #[.pointer (some ⟨ge,0,none⟩), .slice (some ⟨w1.heap.size,0,none⟩) 2 2, .int .u32 1, .slice none 0 0] o)) w.heap.size (w1.heap.size+1) (XW (w1.heap.size+1) c ⟨some ⟨w1.heap.size,0,none⟩,2,2,[120,156]⟩ jP) (CV lev) false [120,156] 1 []/\Below w.heap.size w (w2.alloc (.cells #[.pointer (some ⟨ge,0,none⟩), .slice (some ⟨w1.heap.size,0,none⟩) 2 2, .int .u32 1, .slice none 0 0] o))):=λo=>by
  have q:=a.alloc a.size (.cells #[.pointer (some ⟨ge,0,none⟩), .slice (some ⟨w1.heap.size,0,none⟩) 2 2, .int .u32 1, .slice none 0 0] o);have n:=(aw w2.heap.size w2).alloc (af _) (.cells #[.pointer (some ⟨ge,0,none⟩), .slice (some ⟨w1.heap.size,0,none⟩) 2 2, .int .u32 1, .slice none 0 0] o)
  have hz:∀k,w1.heap.size<=k->c k=0:=λk l=>by
   rcases bD (c k)with h | h
   · exact h
   have:=(s.cb k ω).2;omega
  have v:=Ar.new w2 #[.pointer (some ⟨ge,0,none⟩), .slice (some ⟨w1.heap.size,0,none⟩) 2 2, .int .u32 1, .slice none 0 0] o (m:=4) (f:=zeF ge ⟨some ⟨w1.heap.size,0,none⟩,2,2,[120,156]⟩ 1 jP) rfl (λi hi=>by
   obtain rfl | rfl | rfl | rfl:i=0\/i=1\/i=2\/i=3:=ω;all_goals rfl)
  rw[p]at v;refine⟨⟨ge,c,M, ⟨some ⟨w1.heap.size,0,none⟩,2,2,[120,156]⟩,jP, ⟨v,τ a.size,r.keeps n,j.keeps n,aT.di,hz _ ω,λk l=> ?_,λk l=>by simp [jP,ai]at l,λk l=>by simp [jP,ai],δ⟩,rfl,rfl,rfl⟩,q⟩;simp [ai]at l;exact⟨hz k ω,ω⟩
 clear s b a r j
 go_wp2_with fail;go_ret;exact⟨_,_,rfl,(u _).out.1,(u _).out.2⟩
def oy (v:Int):ag:=[v/16777216,v/65536%256,v/256%256,v%256]
theorem F5 {v:Int} (hv:0<=v/\v<4294967296):∀x∈oy v,0<=x/\x<256:=λx a=>by
 simp [oy]at a;omega
theorem YZ (v:Int) (w:World) (hv:0<=v/\v<4294967296):
  Calls Tryz.prog 160 #[.int .u32 v] w λe w'=>∃A,e= .returned (.slice A 4 4)/\aT .u8 w' w.heap.size 5 A 4 4 (oy v)/\Below w.heap.size w w':=by
 have a:=aT.lit (k:= .u8) (w:=w) (b0:=w.heap.size) rfl (oy v) 5 (af _) (by simp [oy,maxLen]);have b:=(aw w.heap.size w).alloc (af _) (.cells ((oy v).map (Value.int .u8)).toArray 5);have c:=η (⟨a,b⟩ :_/\_);clear a b
 go_in
 go_wp2_with fail;go_ret;exact⟨_,rfl,c.1,c.2⟩
section
variable {w:World} {b0 g:Nat} {E:Nat->Prop} {d:jO} {hd tl:ag} {s:Int}
theorem GQ (h:F2 w b0 g E d true hd s tl) (v:Value):Calls Tryz.prog 159 #[.pointer (some ⟨g,0,none⟩),v] w λe w'=>e= .returned (.int .i64 8)/\w=w':=by
 obtain⟨ge,c,M,H,T,a,rfl,rfl,rfl⟩ :=h;obtain⟨l,i,f,b⟩ :=a.cells;have k:=η (xQ w ge v a.enc.cells.2.2.2.2.2);clear a i f b
 go_in
 go_wp2_with fail;refine k.mono ?_;rintro e w1 ⟨rfl,j⟩;obtain rfl:=j
 go_wp2_with fail;go_ret;exact⟨rfl,rfl⟩
theorem Kz (h:F2 w b0 g E d false hd s tl) {K:Nat} {X P:ag} (U:DB K X P d) (C:ax) (m e:Nat) (x:ag) (z:bT .u8 w w.heap.size C m x) (SZ:m<=e) (D:0<m->∀f,C=some f->¬E f.block) (n:∀v∈x,0<=v/\v<256) (F:(X++x).length<=16777216) (R:K+100*m<=2000000000000):
  Calls Tryz.prog 159 #[.pointer (some ⟨g,0,none⟩), .slice C m e] w λr w'=>r= .returned (.int .i64 0)/\∃E',F2 w' b0 g E' (iJ m d x) false hd (gI s x) tl/\Ext b0 w w' E E':=by
 obtain⟨ge,c,M,H,T,B,rfl,rfl,rfl⟩ :=h;obtain⟨Z,Q,O,N⟩ :=B.cells
 have l:0<m->∀f,C=some f->c f.block=0:=λJ f e=>by
  rcases bD (c f.block)with hz | hz
  · exact hz
  exact absurd (.inr (.inr (.inr ω))) (D J f e)
 have W:=η (zR w b0 ge c M d B.enc U C m e x z SZ l n F R);have hm:m<=1000000000:=by rw[ae]at F;have:=z.1;omega
 have o:=η (⟨B,z,D,n,l⟩ :_/\_/\_/\_/\_);clear B z D n F R U Q O N l
 go_in
 go_wp2_with fail;refine W.mono ?_;rintro r w1 ⟨rfl,M1,c1,I,A⟩;have y:=o.1.turn I A;have t:=o.1.ext I A;have u:=A.2.1.rp o.2.1 (af _) (λJ f e hc=>hc (o.2.2.2.2 J f e));have G:=De s C m e w.heap.size x w1 u (F7 o.2.2.2.1) y.sm hm;obtain⟨Z,Q,O,N⟩ :=y.cells;have z2:=y.cell.aH 2;have V:Ce (iW s) (jK s) x m*65536+uW (iW s) x m=gI s x:=by rw[o.2.1.1];rfl
 rw[V]at G;have L:=η G;have a:=η (⟨y,t⟩ :_/\_);clear G V I A y t u W
 go_wp2_with fail;refine L.mono ?_;rintro r w2 ⟨rfl,hx⟩;obtain rfl:=hx;have b:bb w1 (w1.setCell ⟨g,2,none⟩ (.int .u32 (gI s x))) (λk=>k=g):=bb.setCell (S:=λk=>k=g) (bb.refl w1 _) (p:= ⟨g,2,none⟩) (.inl rfl) _
 have h4:=a.1.own (s':=gI s x) (H':=H) (T':=T) b ((a.1.cell.cE 2 _).congr (λi hi=>by
   obtain rfl | rfl | rfl | rfl:i=0\/i=1\/i=2\/i=3:=ω;all_goals rfl)) (b.dJ a.1.hd (λk j e=>(a.1.ch k j).2 e)) (b.dJ a.1.tl (λk j e=>(a.1.ct k j).2 e)) a.1.ch a.1.ct a.1.ht (qf s x)
 have q:=a.2.trans (Ext.of (b.more λk j=> .inl j) (λk j=>(a.1.qb k j).1) a.1.low (λk j=> .inl j));have Y:=η (⟨h4,q⟩ :_/\_);clear h4 q b
 go_wp2_with fail;go_ret;exact⟨rfl,_, ⟨ge,c1,M1,H,T,Y.1,rfl,rfl,rfl⟩,Y.2⟩
theorem Ky (h:F2 w b0 g E d false hd s tl) {K:Nat} {X P:ag} (C:DB K X P d) (B:K+100<=2000000000000):
  Calls Tryz.prog 157 #[.pointer (some ⟨g,0,none⟩)] w λr w'=>r= .returned (.int .i64 0)/\∃E',F2 w' b0 g E' (ng d) true hd s (oy s)/\Ext b0 w w' E E':=by
 obtain⟨ge,c,M,H,T,m,rfl,rfl,rfl⟩ :=h;obtain⟨I,y,x,v⟩ :=m.cells;have D:=η (zL w b0 ge c M d m.enc C B);have G:=η m;clear m B C y x v
 go_in
 go_wp2_with fail;refine D.mono ?_;rintro r w1 ⟨rfl,J,c1,t,o⟩;have l:=G.turn t o;have j:=G.ext t o;obtain⟨I,y,x,v⟩ :=l.cells;have u:=η (YZ s w1 l.sm);have b:=η (⟨l,j⟩ :_/\_);clear t o l j D
 go_wp2_with fail;refine u.mono ?_;rintro r w2 ⟨A,rfl,n,q⟩;have h4:=b.1.keeps q;have L:=h4.cell.aH 3;have N:=h4.cells.2.2.2;have hA:∀k,ai A=some k->w1.heap.size<=k:=λk a=>(n.2.lt a).1
 have hz:∀k,w1.heap.size<=k->c1 k=0/\k≠g:=λk a=>by
  refine⟨?_,τ b.1.cell.lt⟩;rcases bD (c1 k)with h | h
  · exact h
  have:=(b.1.enc.cb k ω).2;omega
 have f:bb w2 (w2.setCell ⟨g,3,none⟩ (.slice A 4 4)) (λk=>k=g):=bb.setCell (S:=λk=>k=g) (bb.refl w2 _) (p:= ⟨g,3,none⟩) (.inl rfl) _
 have h5:=h4.own (s':=s) (H':=H) (T':= ⟨A,4,4,oy s⟩) f ((h4.cell.cE 3 _).congr (λi hi=>by
   obtain rfl | rfl | rfl | rfl:i=0\/i=1\/i=2\/i=3:=ω;all_goals rfl)) (f.dJ h4.hd (λk a e=>(h4.ch k a).2 e)) ((n.more b.1.low).far (p:= ⟨g,3,none⟩) (λe=>(hz g (hA g e)).2 rfl) _) h4.ch (λk a=>hz k (hA k a)) (λk a e=>by have h6:=hA k e;have h7:=(b.1.hd.2.lt a).2;omega) h4.sm
 have z:Ext b0 w (w2.setCell ⟨g,3,none⟩ (.slice A 4 4)) (XW g c H T) (XW g c1 H ⟨A,4,4,oy s⟩):=b.2.trans (Ext.of (((bb.bC q).setCell (p:= ⟨g,3,none⟩) (.inl (.inl rfl)) _)) (λk a=>(b.1.qb k a).1) b.1.low (λk a=>by
  rcases a with a | a | a | a
  · exact .inl (.inl a)
  · exact .inl (.inr (.inl a))
  · exact .inr (hA k a)
  exact .inl (.inr (.inr (.inr a)))))
 have F:=η (⟨h5,z⟩ :_/\_);clear h4 h5 z f n q hA hz
 go_wp2_with fail;go_ret;exact⟨rfl,_, ⟨ge,c1,J,H,_,F.1,rfl,rfl,rfl⟩,F.2⟩
end
def a4m (w:World) (b0 g:Nat) (E:Nat->Prop) (d:jO) (done:Bool) (hd:ag) (s:Int) (tl:ag) (r:Ending) (w':World):Prop:=
 ∃A n k E',r= .returned (.slice A n k)/\aT .u8 w' b0 5 A n k (hd++gU d.L++tl)/\(∀q,ai A=some q->¬E' q)/\F2 w' b0 g E' { d with L:=rest d.L } done [] s []/\Ext b0 w w' E E'
theorem NY {w:World} {b0 g:Nat} {E:Nat->Prop} {d:jO} {hd tl:ag} {s:Int} {done:Bool} (h:F2 w b0 g E d done hd s tl) (J:hd.length<=100000/\tl.length<=100000/\d.L.length<=1000000000000):
  Calls Tryz.prog 158 #[.pointer (some ⟨g,0,none⟩)] w (a4m w b0 g E d done hd s tl):=by
 obtain⟨Z,hi,C,B,z⟩ :=aL oa;have Hi:=η (⟨hi,C,B,z⟩ :_/\_/\_/\_);obtain⟨ge,c,M,H,T,y,rfl,rfl,rfl⟩ :=h;obtain⟨k0,k1,k2,k3⟩ :=y.cells;have o:gH w.drew b0 ge c M d done:=y.enc.keeps (aw _ _).drew;have HT:=η (DA w.drew b0 ge c M d done o);have ac:H.n<=100000:=by rw[y.hd.1];exact J.1
 have ab:T.n<=100000:=by rw[y.tl.1];exact J.2.1
 have K:=η (⟨y,o,J⟩ :_/\_/\_);clear y o hi C B z k2 J
 go_in
 go_wp2_with fail
 go_region_law
  (first
    | (go_simp;go_at_call 92;(refine HT.mono ?_)
       rintro r x ⟨rfl,v,I,G⟩;have R:=K.2.1.taken I G;obtain⟨b,V,CM⟩ :=R;have U:DE b0 w c x b:=DE.trans (⟨(aw _ _).drew,(bb.refl _ _).drew,λ_ _=>rfl⟩ :DE b0 w c w.drew c) CM;have h5:=K.1.turn V U;have Ji:=K.1.ext V U;have e1:=h5.cells.2.1;have e3:=h5.cells.2.2.2;have Q:=h5.hd;have QY:M.nw<=125000000000:=by rw[v.1,jm];have:=K.2.2.2.2;omega
       have P:=h5.low)
    | (have _g:=Q;(refine eK .u8 b0 5 Z 1 rfl (.tmp 9) (.tmp 14) _ rfl Tryz.underlying22 Hi.1 Hi.2.1 Hi.2.2.1 Hi.2.2.2 rfl Q rfl v.rd ω ω P ?_)
       intro Y c6 N il jH fk;have u:bb x N (λk=>ai H.A=some k):=(bb.refl x _).grown jH (λk a=> .inl a);have m:=u.dJ h5.tl (λk a e=>h5.ht k e a);have nj:=u.ar h5.cell (λe=>(h5.ch g e).2 rfl);have f3:=nj.az 3;have O:=aq P u.size;clear Q)
    | (have _g:=m;(refine eK .u8 b0 5 Z 1 rfl (.tmp 15) (.tmp 19) _ rfl Tryz.underlying22 Hi.1 Hi.2.1 Hi.2.2.1 Hi.2.2.2 rfl il rfl m.rd ω ω O ?_)
       intro X c7 j vG Hd xe;have f:bb N j (λk=>ai Y=some k):=(bb.refl N _).grown Hd (λk a=> .inl a)
       have DI:∀k,ai Y=some k->ai H.A=some k\/x.heap.size<=k:=λk a=>by
        rcases fk with e | e
        · exact .inl (e▸a)
        rw[e]at a;injection a with a;exact .inr ω
       have D:=f.ar nj (λe=>by
        rcases DI g e with e2 | e2
        · exact(h5.ch g e2).2 rfl
        have:=h5.cell.lt;omega)
       have y1:=D.aH 1;have y3:=D.aH 3;have g1:=D.az 1;have g3:=D.az 3))
 all_goals
  have hz:∀k,x.heap.size<=k->b k=0/\k≠g:=λk a=>by
   refine⟨?_,τ h5.cell.lt⟩;rcases bD (b k)with h | h
   · exact h
   have:=(h5.enc.cb k ω).2;omega
  have W:∀k,ai Y=some k->b k=0/\k≠g:=λk a=>by
   rcases DI k a with e | e
   · exact h5.ch k e
   exact hz k e
  have F:∀k,ai X=some k->b k=0/\k≠g:=λk a=>by
   rcases xe with e | e
   · exact W k (e▸a)
   rw[e]at a;injection a with a;exact hz k (τ u.size)
  have UF:=(h5.enc.aside u (λk a=>(h5.ch k a).1)).aside f (λk a=>(W k a).1);have t:bb j ((j.setCell ⟨g,1,none⟩ (.slice none 0 0)).setCell ⟨g,3,none⟩ (.slice none 0 0)) (λk=>k=g):=bb.setCell (S:=λk=>k=g) (bb.setCell (S:=λk=>k=g) (bb.refl j _) (p:= ⟨g,1,none⟩) (.inl rfl) _) (p:= ⟨g,3,none⟩) (.inl rfl) _
  have h8:F0 ((j.setCell ⟨g,1,none⟩ (.slice none 0 0)).setCell ⟨g,3,none⟩ (.slice none 0 0)) b0 g ge b _ { d with L:=rest d.L } done jP s jP:=
   ⟨((D.cE 1 _).cE 3 _).congr (λi hi=>by
     obtain rfl | rfl | rfl | rfl:i=0\/i=1\/i=2\/i=3:=ω;all_goals rfl),h5.lo,UF.aside t (λk a=>by rw[a];exact h5.cg),aT.di,aT.di,h5.cg,λk a=>by simp [jP,ai]at a,λk a=>by simp [jP,ai]at a,λk a=>by simp [jP,ai]at a,h5.sm⟩
  have Mt:bb x ((j.setCell ⟨g,1,none⟩ (.slice none 0 0)).setCell ⟨g,3,none⟩ (.slice none 0 0)) (XW g b H T):=
   ((u.more λk a=>(.inr (.inl a):XW g b H T k)).trans f (λk a=>by
     rcases DI k a with e | e
     · exact .inl (.inr (.inl e))
     exact .inr e)).trans t (λk a=> .inl (.inl a))
  have FO:=Ji.trans (Ext.of Mt (λk a=>(h5.qb k a).1) P (E':=XW g b jP jP) (λk a=>by
   rcases a with a | a | a | a
   · exact .inl (.inl a)
   · simp [jP,ai]at a
   · simp [jP,ai]at a
   exact .inl (.inr (.inr (.inr a)))))
  have Vv:=(vG.far (p:= ⟨g,1,none⟩) (λe=>(F g e).2 rfl) (.slice none 0 0)).far (p:= ⟨g,3,none⟩) (λe=>(F g e).2 rfl) (.slice none 0 0)
  have HF:Hid (a4m w b0 g (XW g c H T) d done H.l s T.l (.returned (.slice X (H.n+M.nw+T.n) c7)) ((j.setCell ⟨g,1,none⟩ (.slice none 0 0)).setCell ⟨g,3,none⟩ (.slice none 0 0))):=
   ⟨X,_,c7,_,rfl,Vv,λq hq hE=>by
     rcases hE with e | e | e | e
     · exact(F q hq).2 e
     · simp [jP,ai]at e
     · simp [jP,ai]at e
     exact e (F q hq).1, ⟨ge,b,_,jP,jP,h8,rfl,rfl,rfl⟩,FO⟩
  clear hz W F UF t h8 Mt FO Vv u f v I G CM U h5 Ji m il vG V
  go_wp2_with fail;go_ret;exact HF
def lV (B:ag) (T:ag):ag:=[120,156]++gU B++T
theorem wy (l:ag):D8 ([120,156]++l)=0:=by
 unfold D8;have b:ix ([120,156]++l) 0=120:=rfl;have a:ix ([120,156]++l) 1=156:=rfl;rw[b,a,a8 σ,a8 σ,a8 δ]
theorem pA.Uf {B X:ag} (h:pA B X) (T:ag) (m:Nat) (c:X.length<=m):∃t,kD (lV B T) m=(t,8)/\t.all=X/\t.x=dT T:=by
 obtain⟨t,f,d,a⟩ :=h.fin
 have e:dT ((lV B T).drop 2)=B++dT T:=by
  show dT (gU B++T)=_;rw[qh,zT h.ev h.bit]
 obtain⟨b,j,i,g⟩ :=IA (y:=dT T) f (by rw[a];exact c) (by rw[dQ];omega);exact⟨b,by unfold kD;rw[e];exact j,by rw[i,a],by rw[g,d,ba]⟩
theorem pA.a7g {B X:ag} (h:pA B X) (T:ag) (m:Nat) (a:X.length<=m):kR (lV B T) m=X:=by
 obtain⟨t,c,b,_⟩ :=h.Uf T m a;unfold kR;rw[show lV B T=[120,156]++(gU B++T) from rfl,wy,a8 δ,<-show lV B T=[120,156]++(gU B++T) from rfl,c];exact b
theorem pA.e_ {B X:ag} (h:pA B X) (T:ag) (b:∀v∈T,0<=v/\v<256) (m:Nat) (a:X.length<=m):zE (lV B T) m true=Cr T (gI 1 X) true:=by
 obtain⟨t,e,d,c⟩ :=h.Uf T m a;unfold zE;rw[show lV B T=[120,156]++(gU B++T) from rfl,wy,a8 δ,<-show lV B T=[120,156]++(gU B++T) from rfl,e,a8 σ,d,c,lC b]
theorem Q6 (v:Int) (hv:0<=v/\v<4294967296) (l:ag):wQ (oy v++l)=v:=by
 show v/16777216*16777216+v/65536%256*65536+v/256%256*256+v%256=v;omega
theorem KB (v:Int) (hv:0<=v/\v<4294967296) (l:ag):Cr (oy v++l) v true=if l.length=0 then 8 else 2:=by
 unfold Cr;rw[Q6 v hv l];have e:(oy v++l).length=4+l.length:=by rw[ae];rfl
 rw[e,a8 ω,a8 σ];by_cases h:l.length=0
 · rw[a8 ω,aa h,aa rfl]
 rw[aa ω,a8 h]
end Go.Proofs.YtgiimmkmjpbecaaGreat
