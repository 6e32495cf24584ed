/-
  part
-/
import Derived.Test.YtgiimmkmjpbecaaGreatPk20
import Derived.Test.YtgiimmkmjpbecaaGreatPk22
import Derived.Test.YtgiimmkmjpbecaaGreatStepT
set_option linter.unusedVariables false
set_option maxRecDepth 100000
set_option maxHeartbeats 4000000
namespace Go.Proofs.YtgiimmkmjpbecaaGreat
open Go.RowKit
structure EM where
 gf:Nat
 A:ax
 n:Nat
 c:Nat
 gm:Nat
 Ap:ax
 np:Nat
 cp:Nat
 gw:Nat
 Aw:ax
 nw:Nat
 cw:Nat
 Ar:ax
 nr:Nat
 cr:Nat
 At:ax
 nt:Nat
 ct:Nat
def eF (M:EM) (lev:Int) (done:Bool):Nat->Value
 | 0=> .pointer (some ⟨M.gf,0,none⟩)
 | 1=> .pointer (some ⟨M.gw,0,none⟩)
 | 2=> .int .i64 lev
 | 3=> .slice M.Ar M.nr M.cr
 | 4=> .slice M.At M.nt M.ct
 | _=> .bool done
structure gH (w:World) (b0 g:Nat) (c:Nat->Nat) (M:EM) (d:jO) (done:Bool):Prop where
 cell:Ar w g 6 (eF M d.lev done)
 cg:c g=1
 fnd:∃nm Dm,eA w b0 M.gf (gR d.lev) d.f d.f.at_ M.A M.n M.c M.gm nm Dm M.Ap M.np M.cp
 cf:∀k,FF M.A M.gm M.Ap M.gf k->c k=2
 Su:pX w b0 M.gw M.Aw M.nw M.cw d.L
 cw:∀k,foot M.Aw M.gw k->c k=3
 raw:aT .u8 w b0 5 M.Ar M.nr M.cr d.raw
 cr:∀k,ai M.Ar=some k->c k=4
 tok:jZ w b0 M.At M.nt M.ct d.aj
 ct:∀k,ai M.At=some k->c k=5
 cb:∀k,c k≠0->b0<=k/\k<w.heap.size
def dX (w0:World) (c0:Nat->Nat) (w:World) (b0 g:Nat) (M:EM) (d:jO) (done:Bool):Prop:=∃c,gH w b0 g c M d done/\DE b0 w0 c0 w c
section
variable {w w' w0:World} {b0 g:Nat} {c c0:Nat->Nat} {M:EM} {d:jO} {done:Bool}
theorem gH.refl (h:gH w b0 g c M d done):dX w c w b0 g M d done:= ⟨c,h,aw _ _,bb.refl _ _,λ_ _=>rfl⟩
theorem gH.lo (h:gH w b0 g c M d done):b0<=w.heap.size:=by have:=h.cb g (by rw[h.cg];decide);omega
theorem gH.zY (h:gH w b0 g c M d done) (o:bb w w' (FF M.A M.gm M.Ap M.gf)) {A' Ap':ax} {n' c' np' cp':Nat} {f':jk} (q:∃nm r,eA w' b0 M.gf (gR d.lev) f' f'.at_ A' n' c' M.gm nm r Ap' np' cp') (hf:∀k,FF A' M.gm Ap' M.gf k->FF M.A M.gm M.Ap M.gf k\/w.heap.size<=k):
  gH w' b0 g (cT c w.heap.size (FF A' M.gm Ap' M.gf) 2) { M with A:=A',n:=n',c:=c',Ap:=Ap',np:=np',cp:=cp' } { d with f:=f' } done:=by
 have hF:∀k,(FF M.A M.gm M.Ap M.gf) k->c k=2:=h.cf;have p:∀k i,c k=i->i≠0->k<w.heap.size:=λk i j b=>(h.cb k ω).2;have l:∀k,k<w.heap.size->cT c w.heap.size (FF A' M.gm Ap' M.gf) 2 k=c k:=λk a=>bZ a;have m:∀k i,c k=i->i≠0->cT c w.heap.size (FF A' M.gm Ap' M.gf) 2 k=i:=λk i j b=>(l k (p k i j b)).trans j
 exact⟨o.ar h.cell (λe=>by have:=hF g e;have:=h.cg;omega),
  m _ _ h.cg δ,
  q,
  λk a=>by
   rcases aU k w.heap.size with j | j
   · rcases hf k a with b | b
     · exact m k 2 (h.cf k b) δ
     omega
   exact fO j a,
  h.Su.dx o (λk a e=>by have:=hF k e;have:=h.cw k a;omega),
  λk a=>m k 3 (h.cw k a) δ,
  o.dJ h.raw (λk a e=>by have:=hF k e;have:=h.cr k a;omega),
  λk a=>m k 4 (h.cr k a) δ,
  ⟨h.tok.1,o.own h.tok.2 (λk a e=>by have:=hF k e;have:=h.ct k a;omega)⟩,
  λk a=>m k 5 (h.ct k a) δ,
  λk a=>by
   rcases gq a with ⟨j,b⟩ | ⟨j,b⟩
   · exact⟨(h.cb k b).1,aB j o.size⟩
   exact(by obtain⟨nm,r,s⟩ :=q;exact s.eG b)⟩
theorem dX.zY (h:dX w0 c0 w b0 g M d done) (b:bb w w' (FF M.A M.gm M.Ap M.gf)) {A' Ap':ax} {n' c' np' cp':Nat} {f':jk} (e:∃nm i,eA w' b0 M.gf (gR d.lev) f' f'.at_ A' n' c' M.gm nm i Ap' np' cp') (hf:∀k,FF A' M.gm Ap' M.gf k->FF M.A M.gm M.Ap M.gf k\/w.heap.size<=k):
  dX w0 c0 w' b0 g { M with A:=A',n:=n',c:=c',Ap:=Ap',np:=np',cp:=cp' } { d with f:=f' } done:=by
 obtain⟨c,h,hd⟩ :=h;exact⟨_,h.zY b e hf,hd.step h.lo (λk a=>(h.cb k a).1) (b.more λk a=>by rw[h.cf k a];decide) λk a=>bZ a⟩
theorem gH.writer (h:gH w b0 g c M d done) (m:bb w w' (foot M.Aw M.gw)) {A':ax} {n' c':Nat} {p:ag} (o:pX w' b0 M.gw A' n' c' p) (hf:∀k,foot A' M.gw k->foot M.Aw M.gw k\/w.heap.size<=k):
  gH w' b0 g (cT c w.heap.size (foot A' M.gw) 3) { M with Aw:=A',nw:=n',cw:=c' } { d with L:=p } done:=by
 have hF:∀k,(foot M.Aw M.gw) k->c k=3:=h.cw;have n:∀k i,c k=i->i≠0->k<w.heap.size:=λk i f b=>(h.cb k ω).2;have j:∀k,k<w.heap.size->cT c w.heap.size (foot A' M.gw) 3 k=c k:=λk a=>bZ a;have l:∀k i,c k=i->i≠0->cT c w.heap.size (foot A' M.gw) 3 k=i:=λk i f b=>(j k (n k i f b)).trans f
 exact⟨m.ar h.cell (λe=>by have:=hF g e;have:=h.cg;omega),
  l _ _ h.cg δ,
  by obtain⟨nm,r,q⟩ :=h.fnd;exact⟨nm,r,q.dx m (λk a e=>by have:=hF k e;have:=h.cf k a;omega)⟩,
  λk a=>l k 2 (h.cf k a) δ,
  o,
  λk a=>by
   rcases aU k w.heap.size with f | f
   · rcases hf k a with b | b
     · exact l k 3 (h.cw k b) δ
     omega
   exact fO f a,
  m.dJ h.raw (λk a e=>by have:=hF k e;have:=h.cr k a;omega),
  λk a=>l k 4 (h.cr k a) δ,
  ⟨h.tok.1,m.own h.tok.2 (λk a e=>by have:=hF k e;have:=h.ct k a;omega)⟩,
  λk a=>l k 5 (h.ct k a) δ,
  λk a=>by
   rcases gq a with ⟨f,b⟩ | ⟨f,b⟩
   · exact⟨(h.cb k b).1,aB f m.size⟩
   exact o.eG b⟩
theorem dX.writer (h:dX w0 c0 w b0 g M d done) (b:bb w w' (foot M.Aw M.gw)) {A':ax} {n' c':Nat} {e:ag} (f:pX w' b0 M.gw A' n' c' e) (hf:∀k,foot A' M.gw k->foot M.Aw M.gw k\/w.heap.size<=k):
  dX w0 c0 w' b0 g { M with Aw:=A',nw:=n',cw:=c' } { d with L:=e } done:=by
 obtain⟨c,h,hd⟩ :=h;exact⟨_,h.writer b f hf,hd.step h.lo (λk a=>(h.cb k a).1) (b.more λk a=>by rw[h.cw k a];decide) λk a=>bZ a⟩
theorem gH.WY (h:gH w b0 g c M d done) (m:bb w w' (λk=>k=g\/ai M.Ar=some k)) {A':ax} {n' c':Nat} {l':ag} {done':Bool} (q:Ar w' g 6 (eF { M with Ar:=A',nr:=n',cr:=c' } d.lev done')) (o:aT .u8 w' b0 5 A' n' c' l') (hf:∀k,ai A'=some k->ai M.Ar=some k\/w.heap.size<=k):
  gH w' b0 g (cT c w.heap.size (λk=>ai A'=some k) 4) { M with Ar:=A',nr:=n',cr:=c' } { d with raw:=l' } done':=by
 have hF:∀k,(λk=>k=g\/ai M.Ar=some k) k->c k=1\/c k=4:=λk a=>by
  rcases a with rfl | a
  · exact .inl h.cg
  exact .inr (h.cr k a)
 have n:∀k i,c k=i->i≠0->k<w.heap.size:=λk i f b=>(h.cb k ω).2;have j:∀k,k<w.heap.size->cT c w.heap.size (λk=>ai A'=some k) 4 k=c k:=λk a=>bZ a;have l:∀k i,c k=i->i≠0->cT c w.heap.size (λk=>ai A'=some k) 4 k=i:=λk i f b=>(j k (n k i f b)).trans f
 exact⟨q,
  l _ _ h.cg δ,
  by obtain⟨nm,r,p⟩ :=h.fnd;exact⟨nm,r,p.dx m (λk a e=>by have:=hF k e;have:=h.cf k a;omega)⟩,
  λk a=>l k 2 (h.cf k a) δ,
  h.Su.dx m (λk a e=>by have:=hF k e;have:=h.cw k a;omega),
  λk a=>l k 3 (h.cw k a) δ,
  o,
  λk a=>by
   rcases aU k w.heap.size with f | f
   · rcases hf k a with b | b
     · exact l k 4 (h.cr k b) δ
     omega
   exact fO f a,
  ⟨h.tok.1,m.own h.tok.2 (λk a e=>by have:=hF k e;have:=h.ct k a;omega)⟩,
  λk a=>l k 5 (h.ct k a) δ,
  λk a=>by
   rcases gq a with ⟨f,b⟩ | ⟨f,b⟩
   · exact⟨(h.cb k b).1,aB f m.size⟩
   exact o.2.lt b⟩
theorem dX.WY (h:dX w0 c0 w b0 g M d done) (b:bb w w' (λk=>k=g\/ai M.Ar=some k)) {A':ax} {n' c':Nat} {l':ag} {done':Bool} (f:Ar w' g 6 (eF { M with Ar:=A',nr:=n',cr:=c' } d.lev done')) (e:aT .u8 w' b0 5 A' n' c' l') (hf:∀k,ai A'=some k->ai M.Ar=some k\/w.heap.size<=k):
  dX w0 c0 w' b0 g { M with Ar:=A',nr:=n',cr:=c' } { d with raw:=l' } done':=by
 obtain⟨c,h,hd⟩ :=h
 exact⟨_,h.WY b f e hf,hd.step h.lo (λk a=>(h.cb k a).1) (b.more λk a=>by
  rcases a with rfl | a
  · rw[h.cg];decide
  rw[h.cr k a];decide) λk a=>bZ a⟩
theorem gH.tokens (h:gH w b0 g c M d done) (m:bb w w' (λk=>k=g\/ai M.At=some k)) {A':ax} {n' c':Nat} {l':List bY} {done':Bool} (q:Ar w' g 6 (eF { M with At:=A',nt:=n',ct:=c' } d.lev done')) (o:jZ w' b0 A' n' c' l') (hf:∀k,ai A'=some k->ai M.At=some k\/w.heap.size<=k):
  gH w' b0 g (cT c w.heap.size (λk=>ai A'=some k) 5) { M with At:=A',nt:=n',ct:=c' } { d with aj:=l' } done':=by
 have hF:∀k,(λk=>k=g\/ai M.At=some k) k->c k=1\/c k=5:=λk a=>by
  rcases a with rfl | a
  · exact .inl h.cg
  exact .inr (h.ct k a)
 have n:∀k i,c k=i->i≠0->k<w.heap.size:=λk i f b=>(h.cb k ω).2;have j:∀k,k<w.heap.size->cT c w.heap.size (λk=>ai A'=some k) 5 k=c k:=λk a=>bZ a;have l:∀k i,c k=i->i≠0->cT c w.heap.size (λk=>ai A'=some k) 5 k=i:=λk i f b=>(j k (n k i f b)).trans f
 exact⟨q,
  l _ _ h.cg δ,
  by obtain⟨nm,r,p⟩ :=h.fnd;exact⟨nm,r,p.dx m (λk a e=>by have:=hF k e;have:=h.cf k a;omega)⟩,
  λk a=>l k 2 (h.cf k a) δ,
  h.Su.dx m (λk a e=>by have:=hF k e;have:=h.cw k a;omega),
  λk a=>l k 3 (h.cw k a) δ,
  m.dJ h.raw (λk a e=>by have:=hF k e;have:=h.cr k a;omega),
  λk a=>l k 4 (h.cr k a) δ,
  o,
  λk a=>by
   rcases aU k w.heap.size with f | f
   · rcases hf k a with b | b
     · exact l k 5 (h.ct k b) δ
     omega
   exact fO f a,
  λk a=>by
   rcases gq a with ⟨f,b⟩ | ⟨f,b⟩
   · exact⟨(h.cb k b).1,aB f m.size⟩
   exact o.2.lt b⟩
theorem dX.tokens (h:dX w0 c0 w b0 g M d done) (b:bb w w' (λk=>k=g\/ai M.At=some k)) {A':ax} {n' c':Nat} {l':List bY} {done':Bool} (f:Ar w' g 6 (eF { M with At:=A',nt:=n',ct:=c' } d.lev done')) (e:jZ w' b0 A' n' c' l') (hf:∀k,ai A'=some k->ai M.At=some k\/w.heap.size<=k):
  dX w0 c0 w' b0 g { M with At:=A',nt:=n',ct:=c' } { d with aj:=l' } done':=by
 obtain⟨c,h,hd⟩ :=h
 exact⟨_,h.tokens b f e hf,hd.step h.lo (λk a=>(h.cb k a).1) (b.more λk a=>by
  rcases a with rfl | a
  · rw[h.cg];decide
  rw[h.ct k a];decide) λk a=>bZ a⟩
theorem jZ.keeps {n k:Nat} {A:ax} {l:List bY} (h:jZ w b0 A n k l) (b:Below w.heap.size w w'):jZ w' b0 A n k l:= ⟨h.1,h.2.below b λ_ a=>(h.2.lt a).2⟩
theorem gH.keeps (h:gH w b0 g c M d done) (a:Below w.heap.size w w'):gH w' b0 g c M d done:=
 ⟨h.cell.keeps a,h.cg,by obtain⟨nm,f,e⟩ :=h.fnd;exact⟨nm,f,e.keeps a⟩,h.cf,h.Su.keeps a,h.cw,h.raw.keeps a,h.cr,h.tok.keeps a,h.ct,
   λk b=> ⟨(h.cb k b).1,aB (h.cb k b).2 a.size⟩⟩
theorem dX.keeps (h:dX w0 c0 w b0 g M d done) (a:Below w.heap.size w w'):dX w0 c0 w' b0 g M d done:=by
 obtain⟨c,h,hd⟩ :=h;exact⟨c,h.keeps a,hd.step h.lo (λk b=>(h.cb k b).1) (bb.bC a) λ_ _=>rfl⟩
theorem gH.cells (h:gH w b0 g c M d done):w.cell? ⟨g,0,none⟩ =some (.pointer (some ⟨M.gf,0,none⟩))/\w.cell? ⟨g,1,none⟩ =some (.pointer (some ⟨M.gw,0,none⟩))/\w.cell? ⟨g,2,none⟩ =some (.int .i64 d.lev)/\w.cell? ⟨g,3,none⟩ =some (.slice M.Ar M.nr M.cr)/\w.cell? ⟨g,4,none⟩ =some (.slice M.At M.nt M.ct)/\w.cell? ⟨g,5,none⟩ =some (.bool done):=
 ⟨h.cell.az 0,h.cell.az 1,h.cell.az 2,h.cell.az 3,h.cell.az 4,h.cell.az 5⟩
end
theorem MR {l:List bY} {k:Nat} (h:k<l.length):bN (l.take (k+1))=bN (l.take k)+mD (dM l k):=by rw[wj h];simp [bN]
theorem Wi {l:List bY} (h:∀t∈l,cn t):bN l<=258*l.length:=by
 induction l with
 | nil=>simp [bN]
 | cons t l a=>
   have d:=vL (h t aI);have c:=a λu b=>h u (aJ _ b);have:bN (t::l)=mD t+bN l:=by simp [bN]
   rw[br];omega
theorem Iu (w:World) (At:ax) (nt ct:Nat) (aj:List bY) (v:lW w w.heap.size At nt aj) (z:nt<=4000000000000) (b:∀t∈aj,cn t):
  Calls Tryz.prog 100 #[.slice At nt ct] w λe w'=>e= .returned (.int .i64 ((bN aj:Nat):Int))/\Below w.heap.size w w':=by
 have c:=η (⟨v,v.1,z,b⟩ :_/\_/\_/\_);have K:(0:Int)<=(nt:Int)/\(nt:Int)<=4000000000000:=ω;clear v z b
 go_in
 go_wp2_with fail;go_loopg [3,8] nt (λ(gk:Nat) (v3 v8:Value) wx=>∃k s:Nat,v3= .int .i64 s/\v8= .int .i64 k/\k<=nt/\Hid (s=bN (aj.take k))/\Hid (Below w.heap.size w wx)/\Hid (gk=nt-k))
 case atStart=>exact⟨0,0,rfl,rfl,aG _,rfl,aw _ _,rfl⟩
 obtain⟨k,s,rfl,rfl,L,b,i,G⟩ :=hrel;by_cases a:k<nt
 rotate_left
 · obtain rfl:k=nt:=ω;have F:¬(k:Int)<(k:Int):=ω;have y:aj.take k=aj:=aA (by rw[<-c.2.1];exact af _);have A:=b;rw[y]at A;clear a y b
   go_wp2_with fail;go_ret;exact⟨bJ (by rw[A.out]),i.out⟩
 have F:(k:Int)<(nt:Int)/\(0:Int)<=(k:Int):=ω;obtain⟨g,hA,u,f⟩ :=(c.1.below i.out).2 ω;obtain⟨x,m,j⟩ :=f k a;rw[kT _ _ _ ω]at m j;have h:=MR (l:=aj) (k:=k) (by rw[<-c.2.1];exact a);have o:=c.2.2.2 _ (c.1.BK a);have r:=Wi (l:=aj.take k) λt ht=>c.2.2.2 t (aN ht);have E:(aj.take k).length<=k:=by rw[aD];exact eR _ _
 obtain⟨⟨n,N,D⟩,ht⟩ :∃t:bY,dM aj k=t:= ⟨_,rfl⟩;rw[ht]at x m j h o;replace x:wr.cell? (g.add (k*3))=some (.int .u8 n):=x;replace m:wr.cell? { block:=(g.add (k*3)).block,off:=(g.add (k*3)).off+1 }=some (.int .i64 N):=m;replace j:wr.cell? { block:=(g.add (k*3)).block,off:=(g.add (k*3)).off+2 }=some (.int .i64 D):=j;obtain⟨q,p⟩ :=ν (mD ⟨n,N,D⟩ :Nat);have C:max N 1=(q:Int):=by rw[<-p,show mD ⟨n,N,D⟩ =(max N 1).toNat from rfl];omega
 have d:=vL o;rw[p]at h d;have I:=η (show bN (aj.take (k+1))=s+q by rw[h,b.out]);have J:(s:Int)<=2000000000000000/\(0:Int)<=(s:Int)/\(0:Int)<=(q:Int)/\(q:Int)<=258:=by have:=b.out;have:=c.2.2.1;omega
 have B:=η a;have H:=η (i.out.alloc i.out.size (.cells #[.int .u8 n, .int .i64 N, .int .i64 D] 132));subst hA;clear u f ht a h r E o p d
 go_wp2_with fail;go_roundg (nt-(k+1))
 case measure=>have:=G.out;have:=B.out;omega
 case rel=>exact⟨k+1,s+q,by go_num,by go_num,B.out,I.symm,H.out,rfl⟩
theorem LS {l:List bY} {k s q:Nat} (c:k<l.length) (b:mD (dM l k)=q) (h:iG s k (l.drop k)=bO l):(16384<=s+q->bO l=k+1)/\(¬16384<=s+q->iG (s+q) (k+1) (l.drop (k+1))=bO l):=by
 rw[lW.dU rfl c]at h;unfold iG at h;rw[b]at h;constructor
 · intro a;rw[aa a]at h;exact h.symm
 intro a;rw[a8 a]at h;exact h
theorem Qn (w:World) (g:Nat) (At:ax) (nt ct:Nat) (aj:List bY) (S:w.cell? ⟨g,4,none⟩ =some (.slice At nt ct)) (B:lW w w.heap.size At nt aj) (G:nt<=4000000000000) (f:∀t∈aj,cn t):
  Calls Tryz.prog 97 #[.pointer (some ⟨g,0,none⟩)] w λe w'=>e= .returned (.int .i64 ((bO aj:Nat):Int))/\Below w.heap.size w w':=by
 have p:=η (⟨B,B.1,G,f⟩ :_/\_/\_/\_);have Q:(0:Int)<=(nt:Int)/\(nt:Int)<=4000000000000:=ω;clear B G f
 go_in
 go_wp2_with fail;go_loopg [3,11] nt (λ(gk:Nat) (v3 v11:Value) wx=>∃k s:Nat,v3= .int .i64 s/\v11= .int .i64 k/\k<=nt/\s<16384/\Hid (iG s k (aj.drop k)=bO aj)/\Hid (Below w.heap.size w wx)/\Hid (gk=nt-k))
 case atStart=>exact⟨0,0,rfl,rfl,aG _,ω,rfl,aw _ _,rfl⟩
 obtain⟨k,s,rfl,rfl,R,O,f,r,M⟩ :=hrel;by_cases a:k<nt
 rotate_left
 · obtain rfl:k=nt:=ω;have L:¬(k:Int)<(k:Int):=ω;have F:aj.drop k=[]:=cV (by rw[<-p.2.1];exact af _);have I:=f;rw[F]at I;clear a F f
   go_wp2_with fail;go_ret;exact⟨bJ (by rw[<-I.out];rfl),r.out⟩
 have L:(k:Int)<(nt:Int)/\(0:Int)<=(k:Int):=ω;obtain⟨o,hA,A,n⟩ :=(p.1.below r.out).2 ω;obtain⟨C,v,u⟩ :=n k a;rw[kT _ _ _ ω]at v u;have y:=p.2.2.2 _ (p.1.BK a);have c:=λq h=>LS (l:=aj) (k:=k) (s:=s) (q:=q) (by rw[<-p.2.1];exact a) h f.out;obtain⟨⟨x,N,D⟩,ht⟩ :∃t:bY,dM aj k=t:= ⟨_,rfl⟩;rw[ht]at C v u y c;replace C:wr.cell? (o.add (k*3))=some (.int .u8 x):=C;replace v:wr.cell? { block:=(o.add (k*3)).block,off:=(o.add (k*3)).off+1 }=some (.int .i64 N):=v;replace u:wr.cell? { block:=(o.add (k*3)).block,off:=(o.add (k*3)).off+2 }=some (.int .i64 D):=u;obtain⟨q,h⟩ :=ν (mD ⟨x,N,D⟩ :Nat);have K:max N 1=(q:Int):=by rw[<-h,show mD ⟨x,N,D⟩ =(max N 1).toNat from rfl];omega
 have i:=vL y;have m:=c q h;rw[h]at i;have P:(s:Int)<=16384/\(0:Int)<=(s:Int)/\(0:Int)<=(q:Int)/\(q:Int)<=258:=ω;have J:=η a;have b:=η m;have H:=η (r.out.alloc r.out.size (.cells #[.int .u8 x, .int .i64 N, .int .i64 D] 132));subst hA;clear A n ht a y h i c m;by_cases j:16384<=s+q
 · have z:(16384:Int)<=(s:Int)+(q:Int):=ω;have d:=η (b.1 j);clear j b
   go_wp2_with fail;go_ret;exact⟨bJ (by rw[d.out];omega),H.out⟩
 have z:decide ((16384:Int)<=(s:Int)+(q:Int))=false:=ξ;have d:=η (b.2 j);have E:=η j;clear j b
 go_wp2_with fail;go_roundg (nt-(k+1))
 case measure=>have:=M.out;have:=J.out;omega
 case rel=>exact⟨k+1,s+q,by go_num,by go_num,J.out,τ E.out,d.out,H.out,rfl⟩
theorem wY:(Tryz.prog.info? 132).map (λi=>(i.zero,i.size,i.bytes))=some (some (.agg #[.int .u8 0, .int .i64 0, .int .i64 0]),3,24):=by kernel_rfl
theorem oa:(Tryz.prog.info? 5).map (λi=>(i.zero,i.size,i.bytes))=some (some (.int .u8 0),1,1):=by kernel_rfl
theorem a0r (w:World) (b0 g:Nat) (c:Nat->Nat) (M:EM) (d:jO) (done:Bool) (h:gH w b0 g c M d done) (hs:∀t∈d.aj,cn t) (cW:∀t∈d.aj,0<=t.lit/\t.lit<256) (ah:∀x∈d.raw,0<=x/\x<256) (count:Nat) (hc:count<=d.aj.length)
  (hn:bN (d.aj.take count)<=65535) (ow:bN (d.aj.take count)<=d.raw.length) (hL:d.L.length<=2000000000000) (FN:d.aj.length<=1000000000) (xm:d.raw.length<=900000000000) (last:Bool):
  Calls Tryz.prog 94 #[.pointer (some ⟨g,0,none⟩), .int .i64 count, .bool last] w λe w'=>e= .returned (.tuple #[])/\∃M',dX w c w' b0 g M' (jb d count last) done:=by
 obtain⟨i0,hi,Z,Y,X⟩ :=aL wY;obtain⟨i1,ki,U,T,S⟩ :=aL oa;obtain⟨c0,c1,c2,c3,c4,c5⟩ :=h.cells;have xf:count<=M.ct:=by have C:=h.tok.1;have o:=h.tok.2.iT;omega
 obtain⟨N,hN⟩ :=ν (bN (d.aj.take count));have OS:N<=M.cr:=by have C:=h.raw.1;have o:=h.raw.2.iT;omega
 have VM:∀W,(Instr.slice 82 (.slice M.At M.nt M.ct) none (some (.int .i64 (count:Int))) (some (.int .i64 (count:Int)))).run Tryz.prog W= .ok (.slice M.At count count) W:=λW=>tZ (P:=Tryz.prog) 82 132 Tryz.underlying82 hi M.At M.nt M.ct xf W;have Jf:∀W,(Instr.slice 22 (.slice M.Ar M.nr M.cr) none (some (.int .i64 (N:Int))) (some (.int .i64 (N:Int)))).run Tryz.prog W= .ok (.slice M.Ar N N) W:=λW=>tZ (P:=Tryz.prog) 22 5 Tryz.underlying22 ki M.Ar M.nr M.cr OS W;have al:lW w w.heap.size M.At count (d.aj.take count):=h.tok.rd.pre (τ h.tok.1);have Zw:=Iu w M.At count count (d.aj.take count) al ω λt ht=>hs t (aN ht);rw[hN]at Zw;have ap:=η Zw;have f:=η (⟨h,hs,cW,ah,hc,hn,ow,hL,hN⟩ :_/\_/\_/\_/\_/\_/\_/\_/\_);have PM:=η xm;have be:=η FN;have Hi:=η (⟨hi,Z,Y,X⟩ :_/\_/\_/\_);have Q:=η (⟨ki,U,T,S⟩ :_/\_/\_/\_);have Ha:(0:Int)<=(count:Int)/\(count:Int)<=1000000000:=ω;have bp:(0:Int)<=(N:Int)/\(N:Int)<=65535:=ω;clear hi Z Y X ki U T S hs cW ah hc hn ow hL FN al Zw h
 go_in
 go_wp2_with fail;refine ap.mono ?_;rintro e w1 ⟨rfl,J⟩;have r:=η (f.1.keeps J);obtain⟨d0,d1,d2,d3,d4,d5⟩ :=r.cells;have KC:=η J;clear J c0 c1 c2 c3 c4 c5;obtain⟨y,rD⟩ :=ν ((jb d count last).L)
 have df:∀(B:ax) (i:Nat),(∀k,ai B=some k->c k=i)->i≠3->∀ad,B=some ad->¬foot M.Aw M.gw ad.block:=λB i hB hi ad e a=>by
  have C:=hB ad.block (by rw[e];rfl);have o:=r.cw _ a;omega
 have vI:=r.raw.rd.pre (j:=N) (ε r.raw.1 f.out);have jB:=r.tok.rd.pre (j:=count) (ε r.tok.1 f.out);have E:∀t∈d.aj.take count,0<=t.lit/\t.lit<256:=λt ht=>f.2.2.1 t (aN ht);have G:∀x∈d.raw.take N,0<=x/\x<256:=λx hx=>f.2.2.2.1 x (aN hx);obtain⟨k0,k1,V⟩ :=FV (lev:=d.lev) (l:=d.aj.take count) (λt ht=>f.2.1 t (aN ht)) E f.2.2.2.2.2.1;rw[f.2.2.2.2.2.2.2.2]at V
 have K:y=lq (pM d.lev (d.aj.take count)) (if d.lev<=0 then [] else d.aj.take count) (d.raw.take N) last d.L:=by
  rw[<-rD,<-f.2.2.2.2.2.2.2.2];rfl
 have z:∀W,ky w1 W b0 M.gw M.Aw y->∃Aw nw cw,dX w c W b0 g { M with Aw:=Aw,nw:=nw,cw:=cw } { d with L:=y } done:=λW hb=>by
  obtain⟨⟨A',n',c',q1,q2⟩,q3⟩ :=hb
  exact⟨A',n',c',(f.1.refl.keeps KC.out).writer q3 q1 λk a=>by
   rcases a with a | a
   · exact .inl (.inl a)
   rcases q2 k a with h | h
   · exact .inl (.inr h)
   exact .inr h⟩
 have ao:Hid (d.lev<=0->Calls Tryz.prog 101 #[.pointer (some ⟨M.gw,0,none⟩), .int .i64 0, .slice none 0 0, .slice M.Ar N N, .bool last] w1 λe w'=>e= .returned (.bool true)/\ky w1 w' b0 M.gw M.Aw y):=λA=>by
  have hz:=k0 A;rw[aa A]at V K;rw[hz]at V K;rw[K];exact EA w1 b0 M.gw M.nw M.cw M.Aw _ r.Su 0 none 0 0 [] ⟨rfl,λh=>absurd h δ⟩ δ (λh=>absurd h δ) (λt ht=>by simp at ht) M.Ar N N (d.raw.take N) vI (λ_=>df M.Ar 4 r.cr δ) G last V f.2.2.2.2.2.2.2.1
 have an:Hid (¬d.lev<=0->Calls Tryz.prog 102 #[.pointer (some ⟨M.gw,0,none⟩), .slice M.At count count, .slice M.Ar N N, .bool last] w1 λe w'=>(∃q:Int,e= .returned (.int .i64 q))/\ky w1 w' b0 M.gw M.Aw y):=λA=>by
  rw[a8 A]at K;have a:pM d.lev (d.aj.take count)=(iX (o0 (d.aj.take count) N) 3).1:=by unfold pM;rw[a8 A,f.2.2.2.2.2.2.2.2]
  rw[a]at K k1;refine(Ll w1 b0 M.gw M.nw M.cw M.Aw _ r.Su M.At count count (d.aj.take count) jB ω (λ_=>df M.At 5 r.ct δ) E M.Ar N N (d.raw.take N) vI (λ_=>df M.Ar 4 r.cr δ) G last f.2.2.2.2.2.2.2.1).mono λe w' hp=> ?_;obtain⟨C,o⟩ :=hp;refine⟨⟨_,C⟩, ?_⟩;rcases o with ⟨h3,_⟩ | ⟨_,h3⟩
  · omega
  rw[K];exact h3
 have a1M:=η z;have EN:=η rD;clear df vI jB E G k0 k1 V K z rD
 go_upto_if 29 with fail
 go_cut [] (λwx=>Hid (∃Aw nw cw,dX w c wx b0 g { M with Aw:=Aw,nw:=nw,cw:=cw } { d with L:=y } done))
 case first=>
  by_cases A:d.lev<=0
  · have HX:=η (ao A)
    go_wp2_with fail;refine HX.mono ?_;rintro e w2 ⟨rfl,o⟩;have s:=η (a1M _ o);clear o
    go_wp2_with fail;go_meet;exact s
  have HX:=η (an.out ω);have bo:decide (d.lev<=0)=false:=by simpa using A
  go_wp2_with fail;refine HX.mono ?_;rintro e w2 ⟨⟨q,rfl⟩,o⟩;have s:=η (a1M _ o);clear o
  go_wp2_with fail;go_meet;exact s
 obtain⟨Aw,nw,cw,cc,O,ac⟩ :=hcut.out
 have CR:N<=M.nr/\M.nr<=M.cr/\M.nr<=900000000000:=by
  have C:=O.raw.1;have o:=O.raw.2.iT;have h3:=f.out;have h4:M.nr=d.raw.length:=C;exact⟨ω,o,ε h3.2.2.2.2.2.2.2.2 PM.out⟩
 have H:=(aw wc.heap.size wc).alloc (af _) (.cells #[] 5);obtain⟨f0,f1,f2,f3,f4,f5⟩ :=(O.keeps H).cells;have bd:=cK (P:=Tryz.prog) 22 5 Tryz.underlying22 Q.1 Q.2.2.1 M.Ar M.nr M.cr CR.1;have T7:bT .u8 (wc.alloc (.cells #[] 5)) wc.heap.size (dw M.Ar M.cr N) (M.nr-N) (d.raw.drop N):=((O.raw.rd.dw (j:=N) CR.1 CR.2.1).below H);have s:=η (⟨O,ac⟩ :_/\_);have bl:(N:Int)<=(M.nr:Int):=ω;clear hcut O ac ao an a1M ap d0 d1 d2 d3 d4 d5 VM Jf H
 go_upto_region 7 with (at_builtin;(refine bm .u8 wc.heap.size 5 i1 1 rfl (.tmp 46) (.tmp 52) _ rfl Tryz.underlying22 Q.1 Q.2.1 Q.2.2.1 Q.2.2.2 rfl (aT.lit rfl [] _ (af _) σ) rfl T7 ξ ω σ ?_)
                        intro A2 q2 w2 ib ab iq;simp only [List.nil_append,Nat.zero_add]at ib;have I:Below wc.heap.size wc w2:=((aw wc.heap.size wc).alloc (af _) _).grown ab σ (by simp [ai]);have v:=s.1.keeps I;have y3:=v.cell.az 3;have z3:=v.cell.aH 3)
 have og:g<wc.heap.size:=s.1.cell.lt;have pY:∀k,ai A2=some k->wc.heap.size<=k:=λk a=>(ib.2.lt a).1;have u:bb wc (w2.setCell ⟨g,3,none⟩ (.slice A2 (M.nr-N) q2)) (λk=>k=g\/ai M.Ar=some k):=(bb.bC I).setCell (.inl (.inl rfl)) _
 have eT:Ar (w2.setCell ⟨g,3,none⟩ (.slice A2 (M.nr-N) q2)) g 6 (eF { M with Aw:=Aw,nw:=nw,cw:=cw,Ar:=A2,nr:=M.nr-N,cr:=q2 } d.lev done):=(v.cell.cE 3 _).congr (λj hj=>by
  obtain rfl | rfl | rfl | rfl | rfl | rfl:j=0\/j=1\/j=2\/j=3\/j=4\/j=5:=ω;all_goals rfl)
 have n:aT .u8 (w2.setCell ⟨g,3,none⟩ (.slice A2 (M.nr-N) q2)) b0 5 A2 (M.nr-N) q2 (d.raw.drop N):=(ib.far (p:= ⟨g,3,none⟩) (λe=>by have:=pY g e;omega) _).more s.1.lo;have hS:dX w c wc b0 g { M with Aw:=Aw,nw:=nw,cw:=cw } { d with L:=y } done:= ⟨cc,s.1,s.2⟩;obtain⟨c3,b,F⟩ :=hS.WY u eT n (λk a=> .inr (pY k a));obtain⟨m,D⟩ :=ν (w2.setCell ⟨g,3,none⟩ (.slice A2 (M.nr-N) q2));rw[D]at b F;rw[D]
 have mL:count<=M.nt/\M.nt<=M.ct:=by
  have C:M.nt=d.aj.length:=b.tok.1;exact⟨τ f.out,b.tok.2.iT⟩
 have bi:M.nt<=1000000000:=by have C:M.nt=d.aj.length:=b.tok.1;have:=be.out;omega
 have H:=(aw m.heap.size m).alloc (af _) (.cells #[] 132);have bs:=(b.keeps H).cells.2.2.2.2.1;have aE:=yL (P:=Tryz.prog) 82 132 Tryz.underlying82 Hi.1 Hi.2.2.1 M.At M.nt M.ct mL.1;have VE:lW (m.alloc (.cells #[] 132)) m.heap.size (if M.ct=count then M.At else M.At.map (·.add (count*3))) (M.nt-count) (d.aj.drop count):=((b.tok.rd.from_ (j:=count) mL.1 mL.2).below H);have H4:=η (⟨b,F⟩ :_/\_);have R5:(count:Int)<=(M.nt:Int):=ω;obtain⟨AT,am⟩ :=ν ((if M.ct=count then M.At else M.At.map (·.add (count*3))));rw[am]at aE VE;clear og pY u eT n hS D ib ab iq I v y3 z3 bd T7 f0 f1 f2 f3 f4 f5 b F s H am
 go_wp2_with (at_builtin;(refine mZ m.heap.size i0 rfl (.tmp 57) (.tmp 63) rfl Hi.1 Hi.2.1 Hi.2.2.1 Hi.2.2.2 rfl (jZ.a9v m _ (af _)) rfl VE ω σ ?_)
              intro R q5 w5 lQ od jF;simp only [List.nil_append,Nat.zero_add]at lQ;have lZ:Below m.heap.size m w5:=((aw m.heap.size m).alloc (af _) _).grown od σ (by simp [ai]);have CG:=H4.1.keeps lZ;have y4:=CG.cell.az 4;have z4:=CG.cell.aH 4)
 have og:g<m.heap.size:=H4.1.cell.lt;have rA:∀k,ai R=some k->m.heap.size<=k:=λk a=>(lQ.2.lt a).1;have u:bb m (w5.setCell ⟨g,4,none⟩ (.slice R (M.nt-count) q5)) (λk=>k=g\/ai M.At=some k):=(bb.bC lZ).setCell (.inl (.inl rfl)) _
 have eT:Ar (w5.setCell ⟨g,4,none⟩ (.slice R (M.nt-count) q5)) g 6 (eF { M with Aw:=Aw,nw:=nw,cw:=cw,Ar:=A2,nr:=M.nr-N,cr:=q2,At:=R,nt:=M.nt-count,ct:=q5 } d.lev done):=(CG.cell.cE 4 _).congr (λj hj=>by
  obtain rfl | rfl | rfl | rfl | rfl | rfl:j=0\/j=1\/j=2\/j=3\/j=4\/j=5:=ω;all_goals rfl)
 have n:jZ (w5.setCell ⟨g,4,none⟩ (.slice R (M.nt-count) q5)) b0 R (M.nt-count) q5 (d.aj.drop count):= ⟨lQ.1,(lQ.2.far (p:= ⟨g,4,none⟩) (λe=>by have:=rA g e;omega) _).more H4.1.lo⟩;have hS:dX w c m b0 g { M with Aw:=Aw,nw:=nw,cw:=cw,Ar:=A2,nr:=M.nr-N,cr:=q2 } { d with L:=y,raw:=d.raw.drop N } done:= ⟨c3,H4.1,H4.2⟩;have hF:=hS.tokens u eT n (λk a=> .inr (rA k a));have he:jb d count last={ d with L:=y,raw:=d.raw.drop N,aj:=d.aj.drop count }:=by rw[<-EN.out,<-f.2.2.2.2.2.2.2.2];rfl
 rw[he];go_end0;exact⟨rfl,_,hF⟩
section
variable {X P:ag} {d:jO} {K:Nat}
structure EG (d:jO):Prop where
 snd:∀t∈d.aj,cn t
 lit:∀t∈d.aj,0<=t.lit/\t.lit<256
 jc:∀x∈d.raw,0<=x/\x<256
 nt:d.aj.length<=16777216
 nr:d.raw.length<=16777216
 first:∀count,bN (d.aj.take count)<=d.raw.length
 full:0<bO d.aj->16384<=bN (d.aj.take (bO d.aj))/\bN (d.aj.take (bO d.aj))<=65535
 SK:d.f.Ok d.f.at_
 nD:d.f.D.length<=16777216
 fby:∀x∈d.f.D,0<=x/\x<256
theorem nU.facts (h:nU X P d):EG d:=by
 obtain⟨all,kinds,stops,fz,pre,h⟩ :=h;have e:all.length+d.raw.length=X.length:=by rw[<-ae,h.Xi]
 have b:=h.big;have f:=Jr h.sound;have c:=(h.first d.aj.length).2;rw[aA (af _)]at c;exact⟨h.sound,h.lit,λx a=>h.jc x (by rw[<-h.Xi];exact bz _ a),ω,ω,λcount=>(h.first count).2,λhf=>by have:=LU h hf;omega,h.SK,by rw[h.fd];exact b,by rw[h.fd];exact h.jc⟩
def DB (K:Nat) (X P:ag) (d:jO):Prop:=nU X P d/\d.L.length+100*d.raw.length<=K
theorem DB.lay (h:DB K X P d) (hf:0<bO d.aj):DB K X P (jb d (bO d.aj) false):=by
 refine⟨h.1.lay hf, ?_⟩;have hF:=h.1.facts;obtain⟨all,kinds,stops,fz,pre,a⟩ :=h.1;have b:=Be a (bO d.aj) false (hF.full hf).2;have c:(jb d (bO d.aj) false).raw.length=d.raw.length-bN (d.aj.take (bO d.aj)):=ay;have f:=h.2;have e:=hF.first (bO d.aj)
 have h4:=hF.full hf;omega
theorem DB.more (h:DB K X P d) {a:Nat} (b:K<=a):DB a X P d:= ⟨h.1,aq h.2 b⟩
theorem DB.size (h:DB K X P d):d.L.length<=K:=by have:=h.2;omega
theorem nU.grow (h:nU X P d) (x:ag) (b:(X++x).length<=16777216) (a:∀v∈x,0<=v/\v<256):nU (X++x) P { d with raw:=d.raw++x,f:=jv d.f x }:=by
 obtain⟨all,kinds,stops,fz,pre,h⟩ :=h;exact⟨_,_,_,_,_,h.grow x b a⟩
theorem nU.aj (h:nU X P d) (left:Nat):nU X P (jN left d):=by
 obtain⟨all,kinds,stops,fz,pre,h⟩ :=h;exact⟨_,_,_,_,_,(h.jN left).1⟩
theorem DB.grow (h:DB K X P d) (x:ag) (b:(X++x).length<=16777216) (a:∀v∈x,0<=v/\v<256):DB (K+100*x.length) (X++x) P { d with raw:=d.raw++x,f:=jv d.f x }:=
 ⟨h.1.grow x b a,by have:=h.2;show d.L.length+100*(d.raw++x).length<=_;rw[ae];omega⟩
theorem DB.aj (h:DB K X P d) (left:Nat):DB K X P (jN left d):= ⟨h.1.aj left,h.2⟩
theorem DB.drain (h:DB K X P d) (k:Nat):DB K X P (lI k d):=zN (λ_ q hf=>q.lay hf) k d h
theorem DB.fF (h:DB K X P d) (k:Nat):DB K X P (fF k d):=qo (λ_ q hf=>q.lay hf) k d h
theorem DB.chunk (h:DB K X P d) {x:ag} (b:(X++x).length<=16777216) (a:∀v∈x,0<=v/\v<256):DB (K+100*x.length) (X++x) P (ug d x):=((h.grow x b a).aj 261).drain _
theorem DB.write:∀(k:Nat) {K:Nat} {X:ag} {d:jO} (b:ag),DB K X P d->b.length<=k->(X++b).length<=16777216->(∀v∈b,0<=v/\v<256)->DB (K+100*b.length) (X++b) P (iJ k d b)
 | 0,K,X,d,b,h,hk,_,_=>by
   have:b=[]:=aC ω;subst this;rw[ak];exact h
 | k+1,K,X,d,b,h,hk,hl,hb=>by
   unfold iJ;split
   · rename_i c
     rw[ae]at hl
     have a:=DB.write k (b.drop (min b.length 16384)) (h.chunk (x:=b.take (min b.length 16384)) (by rw[ae,aD];omega) λv hv=>hb v (aN hv)) (by rw[ay];omega)
      (by rw[av,aO,ae];exact hl) λv hv=>hb v (aW hv)
     rw[av,aO,aD,ay]at a;exact a.more ω
   have:b=[]:=aC ω;subst this;rw[ak];exact h
theorem DB.rest (h:DB K X P d):DB K X P (eH d):=(h.aj 0).fF _
theorem DB.new (lev:Int):DB 0 [] [] (CV lev):= ⟨⟨_,_,_,_,_,rL.new lev⟩,af _⟩
theorem Io (d:jO):lI d.aj.length d=if 0<bO d.aj then lI (jb d (bO d.aj) false).aj.length (jb d (bO d.aj) false)else d:=by
 have c:∀(k:Nat) (d:jO),d.aj.length<=k->∀j,lI (k+j) d=lI k d:=λk=>by
  induction k with
  | zero=>
    intro d hd j;have a:bO d.aj=0:=by have:=lN d.aj;omega
    cases j with
    | zero=>rfl
    | succ j=>show(if 0<bO d.aj then _ else d)=d;rw[a8 ω]
  | succ k b=>
    intro d hd j;rw[show k+1+j=(k+j)+1 by omega];show(if 0<bO d.aj then lI (k+j) _ else d)=(if 0<bO d.aj then lI k _ else d);split
    · exact b _ (by show(d.aj.drop _).length<=k;rw[ay];omega) j
    rfl
 by_cases a:0<bO d.aj
 · rw[aa a];have e:=lN d.aj;obtain⟨k,f⟩ :∃k,d.aj.length=k+1:= ⟨d.aj.length-1,ω⟩;have g:(jb d (bO d.aj) false).aj.length=d.aj.length-bO d.aj:=ay;rw[f];show(if 0<bO d.aj then lI k _ else d)=_;rw[aa a];have:=c (jb d (bO d.aj) false).aj.length (jb d (bO d.aj) false) (af _) (k-(jb d (bO d.aj) false).aj.length);rw[gQ ω]at this;exact this
 rw[a8 a];cases d.aj.length with
 | zero=>rfl
 | succ k=>show(if 0<bO d.aj then _ else d)=d;rw[a8 a]
theorem Ip (d:jO):fF d.aj.length d=if 0<bO d.aj/\bO d.aj<d.aj.length then fF (jb d (bO d.aj) false).aj.length (jb d (bO d.aj) false)else d:=by
 have c:∀(k:Nat) (d:jO),d.aj.length<=k->∀j,fF (k+j) d=fF k d:=λk=>by
  induction k with
  | zero=>
    intro d hd j;have a:bO d.aj=0:=by have:=lN d.aj;omega
    cases j with
    | zero=>rfl
    | succ j=>show(if 0<bO d.aj/\_ then _ else d)=d;rw[a8 ω]
  | succ k b=>
    intro d hd j;rw[show k+1+j=(k+j)+1 by omega];show(if 0<bO d.aj/\bO d.aj<d.aj.length then fF (k+j) _ else d)=(if 0<bO d.aj/\bO d.aj<d.aj.length then fF k _ else d);split
    · exact b _ (by show(d.aj.drop _).length<=k;rw[ay];omega) j
    rfl
 by_cases a:0<bO d.aj/\bO d.aj<d.aj.length
 · rw[aa a];have f:=lN d.aj;obtain⟨k,g⟩ :∃k,d.aj.length=k+1:= ⟨d.aj.length-1,ω⟩;have i:(jb d (bO d.aj) false).aj.length=d.aj.length-bO d.aj:=ay
   have e:fF (k+1) d=fF k (jb d (bO d.aj) false):=by
    show(if 0<bO d.aj/\bO d.aj<d.aj.length then fF k _ else d)=_;rw[aa a]
   rw[g,e];have:=c (jb d (bO d.aj) false).aj.length (jb d (bO d.aj) false) (af _) (k-(jb d (bO d.aj) false).aj.length);rw[gQ ω]at this;exact this
 rw[a8 a];cases h:d.aj.length with
 | zero=>rfl
 | succ k=>show(if 0<bO d.aj/\bO d.aj<d.aj.length then _ else d)=d;rw[a8 a]
theorem Kv (d:jO) (b:ag):iJ b.length d b=if 0<b.length then iJ (b.drop (min b.length 16384)).length (ug d (b.take (min b.length 16384))) (b.drop (min b.length 16384))else d:=by
 have f:∀(k:Nat) (b:ag) (d:jO),b.length<=k->∀j,iJ (k+j) d b=iJ k d b:=λk=>by
  induction k with
  | zero=>
    intro b d hd j;cases j with
    | zero=>rfl
    | succ j=>show(if 0<b.length then _ else d)=d;rw[a8 ω]
  | succ k c=>
    intro b d hd j;rw[show k+1+j=(k+j)+1 by omega];show(if 0<b.length then iJ (k+j) _ _ else d)=(if 0<b.length then iJ k _ _ else d);split
    · exact c _ _ (by rw[ay];omega) j
    rfl
 by_cases a:0<b.length
 · rw[aa a];obtain⟨k,g⟩ :∃k,b.length=k+1:= ⟨b.length-1,ω⟩;have i:(b.drop (min b.length 16384)).length=b.length-min b.length 16384:=ay
   have e:iJ (k+1) d b=iJ k (ug d (b.take (min b.length 16384))) (b.drop (min b.length 16384)):=by
    show(if 0<b.length then iJ k _ _ else d)=_;rw[aa a]
   rw[show iJ b.length d b=iJ (k+1) d b by rw[g],e];have:=f (b.drop (min b.length 16384)).length (b.drop (min b.length 16384)) (ug d (b.take (min b.length 16384))) (af _) (k-(b.drop (min b.length 16384)).length);rw[gQ ω]at this;exact this
 rw[a8 a];cases h:b.length with
 | zero=>rfl
 | succ k=>omega
end
section
variable {w w' w0:World} {b0 g:Nat} {c c0 c':Nat->Nat} {M M':EM} {d d':jO} {done done':Bool}
theorem DE.trans (h:DE b0 w0 c0 w c) (b:DE b0 w c w' c'):DE b0 w0 c0 w' c':=
 ⟨h.1.trans b.1,h.2.1.trans b.2.1 (λk a=>by
   rcases aU k w0.heap.size with d | d
   · exact .inl (by rw[<-h.2.2 k d];exact a)
   exact .inr d),λk a=>(b.2.2 k (aB a h.2.1.size)).trans (h.2.2 k a)⟩
theorem dX.Eu {a:EM} (h:DE b0 w0 c0 w c) (d:dX w c w' b0 g a d' done'):dX w0 c0 w' b0 g a d' done':=by
 obtain⟨c2,b,h4⟩ :=d;exact⟨c2,b,h.trans h4⟩
end
section
variable {w w' w0:World} {b0 g:Nat} {c c0:Nat->Nat} {M:EM} {d:jO} {done:Bool}
theorem Kq {left:Nat} {l:List bY} {st':jk} (hF:EG d) (a:yN (gR d.lev) left d.f l st') (b:st'.D.length-st'.at_<=left):jN left d={ d with f:=st',aj:=d.aj++l }/\l.length<=16777216:=by
 have h:=Km (e:=gR d.lev) (left:=left) (d.f.D.length-d.f.at_) a b hF.SK (af _);unfold jN;rw[h];refine⟨rfl, ?_⟩;obtain⟨g,c,i,h4⟩ :=Gu a hF.SK;have h5:=g.hi;have h6:=hF.nD;rw[<-c]at h6;omega
theorem gH.app {b i:World} {a:ax} {m h:Nat} {l:List bY} (h5:gH b b0 g c M d done) (t:jZ i b0 a (M.nt+m) h (d.aj++l)) (u:b.grownBy i (ai M.At)) (n:ai a=ai M.At\/ai a=some b.heap.size):
  dX b c (i.setCell ⟨g,4,none⟩ (.slice a (M.nt+m) h)) b0 g { M with At:=a,nt:=M.nt+m,ct:=h } { d with aj:=d.aj++l } done:=by
 have s:ai a≠some g:=λe=>by
  rcases n with o | o
  · have x:=h5.ct g (by rw[<-o,e]);have w:=h5.cg;omega
  rw[e]at o;injection o with o;have:=h5.cell.lt;omega
 have q:some g≠ai M.At:=λe=>by have x:=h5.ct g e.symm;have w:=h5.cg;omega
 have r:bb b (i.setCell ⟨g,4,none⟩ (.slice a (M.nt+m) h)) (λk=>k=g\/ai M.At=some k):=((bb.refl b _).grown u (λk f=> .inl (.inr f))).setCell (.inl (.inl rfl)) _
 have v:Ar (i.setCell ⟨g,4,none⟩ (.slice a (M.nt+m) h)) g 6 (eF { M with At:=a,nt:=M.nt+m,ct:=h } d.lev done):=((h5.cell.grown u q).cE 4 _).congr (λj y=>by
  obtain rfl | rfl | rfl | rfl | rfl | rfl:j=0\/j=1\/j=2\/j=3\/j=4\/j=5:=ω;all_goals rfl)
 exact h5.refl.tokens r v ⟨t.1,t.2.far (p:= ⟨g,4,none⟩) (λe=>s e) _⟩ (λk f=>by
  rcases n with e | e
  · exact .inl (e▸f)
  rw[e]at f;injection f with f;exact .inr ω)
theorem dX.full (h:dX w0 c0 w b0 g M d done) (hF:EG d):Calls Tryz.prog 97 #[.pointer (some ⟨g,0,none⟩)] w λe w'=>e= .returned (.int .i64 ((bO d.aj:Nat):Int))/\dX w0 c0 w' b0 g M d done:=by
 obtain⟨c,a,b⟩ :=h;have f:M.nt=d.aj.length:=a.tok.1;exact(Qn w g M.At M.nt M.ct d.aj a.cells.2.2.2.2.1 a.tok.rd (τ hF.nt) hF.snd).mono λe w' hp=> ⟨hp.1,dX.keeps ⟨c,a,b⟩ hp.2⟩
theorem dX.lay (h:dX w0 c0 w b0 g M d done) (hF:EG d) (f:d.L.length<=2000000000000) (count:Nat) (b:count<=d.aj.length) (a:bN (d.aj.take count)<=65535) (last:Bool):
  Calls Tryz.prog 94 #[.pointer (some ⟨g,0,none⟩), .int .i64 count, .bool last] w λe w'=>e= .returned (.tuple #[])/\∃M',dX w0 c0 w' b0 g M' (jb d count last) done:=by
 obtain⟨c,j,i⟩ :=h;exact(a0r w b0 g c M d done j hF.snd hF.lit hF.jc count b a (hF.first count) f (τ hF.nt) (τ hF.nr) last).mono λe w' hp=> ⟨hp.1,by obtain⟨M',hp⟩ :=hp.2;exact⟨M',dX.Eu i hp⟩⟩
theorem dX.cells (h:dX w0 c0 w b0 g M d done):w.cell? ⟨g,0,none⟩ =some (.pointer (some ⟨M.gf,0,none⟩))/\w.cell? ⟨g,1,none⟩ =some (.pointer (some ⟨M.gw,0,none⟩))/\w.cell? ⟨g,2,none⟩ =some (.int .i64 d.lev)/\w.cell? ⟨g,3,none⟩ =some (.slice M.Ar M.nr M.cr)/\w.cell? ⟨g,4,none⟩ =some (.slice M.At M.nt M.ct)/\w.cell? ⟨g,5,none⟩ =some (.bool done):=by
 obtain⟨c,a,b⟩ :=h;exact a.cells
theorem dX.nt (h:dX w0 c0 w b0 g M d done):M.nt=d.aj.length:=by
 obtain⟨c,a,b⟩ :=h;exact a.tok.1
end
def YR (w:World) (c:Nat->Nat) (b0 g:Nat) (done:Bool) (K:Nat) (X P:ag) (D:jO) (gk:Nat) (v:Value) (wx:World):Prop:=∃M' d',v= .int .i64 ((bO d'.aj:Nat):Int)/\dX w c wx b0 g M' d' done/\DB K X P d'/\fF d'.aj.length d'=D/\gk=d'.aj.length
theorem X4 (w:World) (b0 g:Nat) (c:Nat->Nat) (M:EM) (d:jO) (done:Bool) (h:gH w b0 g c M d done) {K:Nat} {X P:ag} (hB:DB K X P d) (hK:K<=2000000000000):
  Calls Tryz.prog 89 #[.pointer (some ⟨g,0,none⟩)] w λe w'=>e= .returned (.tuple #[])/\∃M',dX w c w' b0 g M' (eH d) done:=by
 obtain⟨i0,hi,v,u,t⟩ :=aL wY;have Hi:=η (⟨hi,v,u,t⟩ :_/\_/\_/\_);obtain⟨c0,c1,c2,c3,c4,c5⟩ :=h.cells;obtain⟨nm,Dm,hf⟩ :=h.fnd;have ac:=η (xZ true (hf.keeps (aw _ _).drew));have J:=η (⟨h,hB,hK,hB.1.facts⟩ :_/\_/\_/\_);clear hi v u t hf h hB hK c1 c2 c3 c5
 go_in
 go_wp2_with fail
 go_region_law
  (first
    | (go_simp;go_at_call 96;(refine ac.mono ?_)
       rintro e w5 ⟨l,st',At,nt,ct,rfl,m,x,i,z,B⟩;have V8:bb w w5 (FF M.A M.gm M.Ap M.gf):=((bb.refl w _).drew).trans B (λk S=> .inl S);have h5:dX w c w5 b0 g M { d with f:=st' } done:=J.1.refl.zY V8 z (λk S=> .inl S);have o:=η (Kq J.2.2.2 m x);clear m x z B V8;obtain⟨c5,h5,CM⟩ :=h5;have e4:=h5.cells.2.2.2.2.1)
    | (have _g:=i;(refine Eo b0 i0 rfl (.tmp 7) (.tmp 12) rfl Hi.1 Hi.2.1 Hi.2.2.1 Hi.2.2.2 rfl h5.tok rfl i.rd (by have h1:=h5.tok.1;have h2:=J.2.2.2.nt;have h3:=i.1;have h4:=o.2;have h6:M.nt=d.aj.length:=h1;omega) h5.lo ?_)
       intro A6 c6 w6 il T fk;have Y:=h5.cell.grown T (λe=>by have h1:=h5.ct g e.symm;have h2:=h5.cg;omega);have ab:=Y.az 4;have R:=Y.aH 4))
 all_goals
  have h6:=dX.Eu CM (h5.app il T fk);have D:=o.1;have b:=J.2.1.aj 0;have L:fF (jN 0 d).aj.length (jN 0 d)=eH d:=rfl;have C:jN 0 d={ d with f:=st',aj:=d.aj++l }:=D;rw[C]at b L;have h7:dX w c (w6.setCell ⟨g,4,none⟩ (.slice A6 (M.nt+nt) c6)) b0 g { M with At:=A6,nt:=M.nt+nt,ct:=c6 } { d with f:=st',aj:=d.aj++l } done:=h6;clear h6 D C o i h5 CM e4 il T fk Y ab R;obtain⟨W,Z⟩ :=ν (w6.setCell ⟨g,4,none⟩ (.slice A6 (M.nt+nt) c6));obtain⟨d2,V⟩ :∃d2,({ d with f:=st',aj:=d.aj++l }:jO)=d2:= ⟨_,rfl⟩;rw[Z,V]at h7;rw[V]at b L;rw[Z];clear Z V;have j:=η (h7.full b.1.facts);have I:=η (⟨b,L⟩ :_/\_);clear h7 b L
  go_wp2_with fail;refine j.mono ?_;rintro e w8 ⟨rfl,h8⟩;have Q:=η h8;clear h8
  go_wp2_with fail;go_loopg [2] d2.aj.length (YR w c b0 g done K X P (eH d))
  case atStart=>exact⟨_,_,rfl,Q.out,I.1,I.2,rfl⟩
  obtain⟨M',d',rfl,q,s,n,p⟩ :=hrel;have H:=q.cells.2.2.2.2.1;rw[q.nt]at H;have r:=s.1.facts;obtain⟨F,hF⟩ :=ν (bO d'.aj);obtain⟨N,hN⟩ :=ν (d'.aj.length);rw[hN]at H;have al:N<=16777216:=by have:=r.nt;omega
  have Zy:=lN d'.aj;have am:(0:Int)<=(F:Int)/\(F:Int)<=16777216/\(N:Int)<=16777216:=ω;rw[Ip]at n;by_cases a:0<F/\F<N
  · have y:(0:Int)<(F:Int)/\(F:Int)<(N:Int)/\0<F/\F<N:=ω;rw[hF,hN,aa a]at n;have ad:=η (q.lay r (ε s.size J.2.2.1) F ω (by rw[<-hF];exact(r.full ω).2) false);have Me:=s.lay ω;rw[hF]at Me⊢;have QT:(jb d' F false).aj.length<gk:=by rw[show(jb d' F false).aj.length=d'.aj.length-F from ay];omega
    have O:=η (⟨Me,n,QT⟩ :_/\_/\_);clear a hF hN Zy n q s Me QT p r I Q j
    go_wp2_with fail;refine ad.mono ?_;rintro e Sr ⟨rfl,an,G⟩;have ah:=η (G.full O.1.1.facts);clear G
    go_wp2_with fail;refine ah.mono ?_;rintro e XS ⟨rfl,E⟩;have SB:=η E;clear E
    go_wp2_with fail;go_roundg (jb d' F false).aj.length
    case measure=>exact O.2.2
    case rel=>exact⟨_,_,rfl,SB.out,O.1,O.2.1,rfl⟩
  rw[hF,hN,a8 a]at n;have U:∃M',dX w c wr b0 g M' (eH d) done:= ⟨M',by rw[<-n];exact q⟩;have PJ:=η U;rw[hF];by_cases h0:0<F
  · have y:(0:Int)<(F:Int)/\¬(F:Int)<(N:Int)/\0<F/\¬F<N:=ω;clear a hF hN Zy n q s p r I Q j U
    go_wp2_with fail;go_end0;exact⟨rfl,PJ.out⟩
  have y:¬(0:Int)<(F:Int)/\¬0<F:=ω;clear a hF hN Zy n q s p r I Q j U
  go_wp2_with fail;go_end0;exact⟨rfl,PJ.out⟩
section
variable {w w' w0:World} {b0 g:Nat} {c c0:Nat->Nat} {M:EM} {d:jO} {done:Bool}
theorem gH.a7i {h:World} {a:ax} {m f:Nat} {l:ag} (h5:gH w b0 g c M d done) (t:aT .u8 h b0 5 a (M.nr+m) f (d.raw++l)) (s:w.grownBy h (ai M.Ar)) (i:ai a=ai M.Ar\/ai a=some w.heap.size):
  dX w c (h.setCell ⟨g,3,none⟩ (.slice a (M.nr+m) f)) b0 g { M with Ar:=a,nr:=M.nr+m,cr:=f } { d with raw:=d.raw++l } done:=by
 have r:ai a≠some g:=λe=>by
  rcases i with n | n
  · have x:=h5.cr g (by rw[<-n,e]);have v:=h5.cg;omega
  rw[e]at n;injection n with n;have:=h5.cell.lt;omega
 have o:some g≠ai M.Ar:=λe=>by have x:=h5.cr g e.symm;have v:=h5.cg;omega
 have q:bb w (h.setCell ⟨g,3,none⟩ (.slice a (M.nr+m) f)) (λk=>k=g\/ai M.Ar=some k):=((bb.refl w _).grown s (λk b=> .inl (.inr b))).setCell (.inl (.inl rfl)) _
 have u:Ar (h.setCell ⟨g,3,none⟩ (.slice a (M.nr+m) f)) g 6 (eF { M with Ar:=a,nr:=M.nr+m,cr:=f } d.lev done):=((h5.cell.grown s o).cE 3 _).congr (λj y=>by
  obtain rfl | rfl | rfl | rfl | rfl | rfl:j=0\/j=1\/j=2\/j=3\/j=4\/j=5:=ω;all_goals rfl)
 exact h5.refl.WY q u (t.far (p:= ⟨g,3,none⟩) (λe=>r e) _) (λk b=>by
  rcases i with e | e
  · exact .inl (e▸b)
  rw[e]at b;injection b with b;exact .inr ω)
theorem dX.rp (h:dX w0 c0 w b0 g M d done) {k:IntKind} {B n:Nat} {A:ax} {l:ag} (i:bT k w0 B A n l) (j:B<=w0.heap.size) (b:0<n->∀a,A=some a->c0 a.block=0):bT k w B A n l:=by
 obtain⟨c,p,m⟩ :=h;exact m.2.1.rp i j λo a e f=>f (b o a e)
theorem dX.size (h:dX w0 c0 w b0 g M d done):w0.heap.size<=w.heap.size:=by
 obtain⟨c,b,a⟩ :=h;exact a.2.1.size
theorem LD {A:ax} {c j:Nat} {b:Addr} (h:dw A c j=some b):∃a,A=some a/\b.block=a.block:=by
 unfold dw at h;split at h
 · exact⟨b,h,rfl⟩
 cases A with
 | none=>simp at h
 | some a=>simp at h;exact⟨a,rfl,by rw[<-h,bH]⟩
theorem gH.a2h (h:gH w b0 g c M d done) (hF:d.f.D.length<=16777216) {B m e:Nat} {C:ax} {x:ag} (i:bT .u8 w B C m x) (j:B<=w.heap.size) (b:∀v∈x,0<=v/\v<256) (p:m<=16777216):
  Calls Tryz.prog 99 #[.pointer (some ⟨M.gf,0,none⟩), .slice C m e] w λr w'=>r= .returned (.tuple #[])/\∃M',dX w c w' b0 g M' { d with f:=jv d.f x } done:=by
 obtain⟨nm,q,hf⟩ :=h.fnd;refine(LV hf i j b ω).mono ?_;rintro r w' ⟨rfl,A',n',c',Ap',np',cp',a,o,n,l,k⟩;exact⟨rfl,_,h.refl.zY l ⟨a,o,n⟩ k⟩
end
def a1H (w:World) (c:Nat->Nat) (b0 g:Nat) (K:Nat) (X P:ag) (D:jO) (gk:Nat) (v:Value) (wx:World):Prop:=∃M' d',v= .int .i64 ((bO d'.aj:Nat):Int)/\dX w c wx b0 g M' d' false/\DB K X P d'/\lI d'.aj.length d'=D/\gk=d'.aj.length
def TB (w:World) (c:Nat->Nat) (b0 g:Nat) (P:ag) (D:jO) (gk:Nat) (v:Value) (wx:World):Prop:=∃C m e x M' d' K X,v= .slice C m e/\m<=e/\bT .u8 w w.heap.size C m x/\(0<m->∀a,C=some a->c a.block=0)/\(∀v∈x,0<=v/\v<256)/\dX w c wx b0 g M' d' false/\DB K X P d'/\(X++x).length<=16777216/\K+100*m<=2000000000000/\iJ x.length d' x=D/\gk=m
theorem zR (w:World) (b0 g:Nat) (c:Nat->Nat) (M:EM) (d:jO) (h:gH w b0 g c M d false) {K:Nat} {X P:ag} (hB:DB K X P d) (C:ax) (m e:Nat) (x:ag) (O:bT .u8 w w.heap.size C m x) (SZ:m<=e) (df:0<m->∀ad,C=some ad->c ad.block=0) (p:∀v∈x,0<=v/\v<256) (hX:(X++x).length<=16777216) (hK:K+100*m<=2000000000000):
  Calls Tryz.prog 93 #[.pointer (some ⟨g,0,none⟩), .slice C m e] w λr w'=>r= .returned (.int .i64 0)/\∃M',dX w c w' b0 g M' (iJ m d x) false:=by
 obtain⟨i0,hi,an,am,al⟩ :=aL wY;have Hi:=η (⟨hi,an,am,al⟩ :_/\_/\_/\_);obtain⟨i1,ki,ah,ac,ab⟩ :=aL oa;have J:=η (⟨ki,ah,ac,ab⟩ :_/\_/\_/\_);obtain⟨c0,c1,c2,c3,c4,c5⟩ :=h.cells;have N:TB w c b0 g P (iJ m d x) m (.slice C m e) w:= ⟨C,m,e,x,M,d,K,X,rfl,SZ,O,df,p,h.refl,hB,hX,hK,by rw[<-O.1],rfl⟩;clear hi an am al ki ah ac ab h hB hK c0 c1 c2 c3 c4 O SZ df p hX;obtain⟨D,hD⟩ :=ν (iJ m d x);rw[hD]at N⊢;clear hD
 go_in
 go_wp2_with fail;go_loopg [1] m (TB w c b0 g P D)
 case atStart=>exact N
 clear N c5;obtain⟨C,m,e,x,M',d',K,X,rfl,SZ,O,df,p,G,Md,hX,hK,hD,ap⟩ :=hrel;have ln:x.length=m:=O.1.symm;rw[Kv]at hD;by_cases h0:0<m
 rotate_left
 · have J7:¬(0:Int)<(m:Int):=ω;rw[a8 ω]at hD;have HF:=η (⟨M',by rw[<-hD];exact G⟩ :∃M',dX w c wr b0 g M' D false);clear h0 hD G
   go_wp2_with fail;go_ret;exact⟨rfl,HF.out⟩
 rw[aa ω]at hD;obtain⟨n,hn⟩ :=ν (min x.length 16384);rw[hn]at hD;have Hf:m<=16777216:=by rw[ae]at hX;omega
 have J7:(0:Int)<(m:Int)/\(m:Int)<=16777216/\(0:Int)<=(n:Int)/\(n:Int)<=(m:Int):=ω;have wG:n<=m:=ω;have ca:n<=e:=ω;have HN:=η hn;have a:=η (⟨G,Md,hX,hK,O,df,p,hD,ap,ln⟩ :_/\_/\_/\_/\_/\_/\_/\_/\_/\_);clear G Md hX hK O df p hD ap;rw[ln]at HN;clear hn;go_upto_region 4 with fail
 go_cut [5] (λv5 wx=>v5= .int .i64 n/\wx=wr)
 case first=>
  have cb:m<16384\/m=16384\/16384<m:=ω;rcases cb with hc | hc | hc
  · have Y:n=m:=by have:=HN.out;omega
    have Ha:(m:Int)<16384/\¬(16384:Int)<(m:Int):=ω;subst Y;clear hc
    go_wp2_with fail
    all_goals
     go_meet;exact⟨by go_num,rfl⟩
  · have Y:n=m:=by have:=HN.out;omega
    subst Y;subst hc
    go_wp2_with fail
    all_goals
     go_meet;exact⟨by go_num,rfl⟩
  have Y:n=16384:=by have:=HN.out;omega
  have Ha:(16384:Int)<(m:Int)/\¬(m:Int)<16384:=ω;subst Y;clear hc
  go_wp2_with fail
  all_goals
   go_meet;exact⟨by go_num,rfl⟩
 case rest=>
 obtain⟨rfl,bM⟩ :=hcut;obtain rfl:=bM.symm;obtain⟨cA,hE,B⟩ :=a.1.keeps (aw wr.heap.size wr).drew;have Yq:bT .u8 wr.drew w.heap.size C m x:=dX.rp ⟨cA,hE,B⟩ a.2.2.2.2.1 (af _) a.2.2.2.2.2.1;have T9:=Yq.pre wG;have ck:=dR (P:=Tryz.prog) 22 5 Tryz.underlying22 J.1 J.2.2.1 C m e (j:=n) ca;have c3:=a.1.cells.2.2.2.1;have CR:M'.nr+n<=1000000000000:=by have G:M'.nr=d'.raw.length:=hE.raw.1;have:=a.2.1.1.facts.nr;omega
 have cp:=η Yq;clear Yq
 go_wp2_with fail
 go_region_law
  (first
    | ((refine eK .u8 b0 5 i1 1 rfl (.tmp 25) (.tmp 28) _ rfl Tryz.underlying22 J.1 J.2.1 J.2.2.1 J.2.2.2 rfl hE.raw rfl T9 CR ω hE.lo ?_)
       intro A6 c6 w6 il S fk;have U:=hE.cell.grown S (λe=>by have G:=hE.cr g e.symm;have h2:=hE.cg;omega);have cd:=U.az 3;have bI:=U.aH 3))
 all_goals
  have h6:=dX.Eu B (hE.a7i il S fk);clear hE B T9 c3 CR il S fk U cd bI;obtain⟨W,hW⟩ :=ν (w6.setCell ⟨g,3,none⟩ (.slice A6 (M'.nr+n) c6));rw[hW]at h6⊢;clear hW;obtain⟨M6,Ci⟩ :∃q,({ M' with Ar:=A6,nr:=M'.nr+n,cr:=c6 }:EM)=q:= ⟨_,rfl⟩;rw[Ci]at h6;clear Ci;have c0:=h6.cells.1;obtain⟨c7,hE,B⟩ :=h6.keeps (aw W.heap.size W).drew;have T9:bT .u8 W.drew w.heap.size C n (x.take n):=(dX.rp ⟨c7,hE,B⟩ a.2.2.2.2.1 (af _) a.2.2.2.2.2.1).pre wG;have bv:=η (hE.a2h (e:=e) a.2.1.1.facts.nD T9 (by have:=h6.size;exact this) (λv hv=>a.2.2.2.2.2.2.1 v (aN hv)) ω);have bB:=η B;clear h6 hE B T9
  go_wp2_with fail
  go_region_law
   ((go_simp;go_at_call 99;(refine bv.mono ?_))
    rintro r w8 ⟨rfl,z,h8⟩)
  all_goals
   have o:=dX.Eu bB.out h8;have t:=a.2.1.grow (x.take n) (by have h:=a.2.2.1;rw[ae]at h⊢;rw[aD];omega) (λv hv=>a.2.2.2.2.2.2.1 v (aN hv));obtain⟨y,T⟩ :∃q,({ d' with raw:=d'.raw++x.take n,f:=jv d'.f (x.take n) }:jO)=q:= ⟨_,rfl⟩;have bd:lI (jN 261 y).aj.length (jN 261 y)=ug d' (x.take n):=by rw[<-T];rfl
   replace o:dX w c w8 b0 g z { d' with raw:=d'.raw++x.take n,f:=jv d'.f (x.take n) } false:=o;rw[T]at o t;have ch:=o.cells.1;have ce:=o.cells.2.2.2.2.1;obtain⟨cB,hE,B⟩ :=o;obtain⟨nm,Dm,hf⟩ :=hE.fnd;have bp:=η (xZ false (hf.keeps (aw _ _).drew));have Z:=η (⟨hE,B,t,bd⟩ :_/\_/\_/\_);clear bv bB h8 hE B t bd hf T c0
   go_wp2_with fail
   go_region_law
    (first
      | (go_simp;go_at_call 96;(refine bp.mono ?_)
         rintro r w5 ⟨l,st',At,nt,ct,rfl,H,ao,E,aE,be⟩;have V8:bb w8 w5 (FF z.A z.gm z.Ap z.gf):=((bb.refl w8 _).drew).trans be (λk hk=> .inl hk);have h5:dX w8 cB w5 b0 g z { y with f:=st' } false:=Z.1.refl.zY V8 aE (λk hk=> .inl hk);have L:=η (Kq Z.2.2.1.1.facts H ao);clear H ao aE be V8;obtain⟨c5,h5,CM⟩ :=h5;have e4:=h5.cells.2.2.2.2.1)
      | (have _g:=E;(refine Eo b0 i0 rfl (.tmp 44) (.tmp 49) rfl Hi.1 Hi.2.1 Hi.2.2.1 Hi.2.2.2 rfl h5.tok rfl E.rd (by have G:=h5.tok.1;have h2:=Z.2.2.1.1.facts.nt;have h3:=E.1;have h4:=L.2;have h6:z.nt=y.aj.length:=G;omega) h5.lo ?_)
         intro A6 c6 w6 il S fk;have U:=h5.cell.grown S (λe=>by have G:=h5.ct g e.symm;have h2:=h5.cg;omega);have cc:=U.az 4;have bG:=U.aH 4))
   all_goals
    have h6:=dX.Eu Z.2.1 (dX.Eu CM (h5.app il S fk));have bi:jN 261 y={ y with f:=st',aj:=y.aj++l }:=L.1;have s:=Z.2.2.1.aj 261;have ZG:=Z.2.2.2;rw[bi]at s ZG;have h7:dX w c (w6.setCell ⟨g,4,none⟩ (.slice A6 (z.nt+nt) c6)) b0 g { z with At:=A6,nt:=z.nt+nt,ct:=c6 } { y with f:=st',aj:=y.aj++l } false:=h6;clear h6 bi L E h5 CM e4 il S fk U cc bG ch ce;obtain⟨W2,hW⟩ :=ν (w6.setCell ⟨g,4,none⟩ (.slice A6 (z.nt+nt) c6));obtain⟨d2,sf⟩ :∃d2,({ y with f:=st',aj:=y.aj++l }:jO)=d2:= ⟨_,rfl⟩;rw[hW,sf]at h7;rw[sf]at s ZG;rw[hW];clear hW sf;have bx:=η (h7.full s.1.facts);have HX:=η (⟨s,ZG⟩ :_/\_);clear h7 s ZG Z bp
    go_wp2_with fail;refine bx.mono ?_;rintro r Sr ⟨rfl,u⟩;have YB:=η u;clear u bx;obtain⟨K2,V⟩ :=ν (K+100*(x.take n).length);rw[V]at HX;have bl:K2+100*(m-n)<=2000000000000:=by rw[<-V,aD];have:=a.2.2.2.1;have:=a.2.2.2.2.2.2.2.2.2;omega
    have bt:=η bl;clear V bl
    go_wp2_with fail;go_loopg [6] d2.aj.length (a1H w c b0 g K2 (X++x.take n) P (ug d' (x.take n)))
    case atStart=>exact⟨_,_,rfl,YB.out,HX.1,HX.2,rfl⟩
    obtain⟨M9,i,rfl,o,t,I,R⟩ :=hrel;have SR:=t.1.facts;rw[Io]at I;by_cases b:0<bO i.aj
    rotate_left
    · rw[a8 b]at I;have Q:¬(0:Int)<((bO i.aj:Nat):Int):=ω;obtain⟨F,hF⟩ :=ν (bO i.aj);rw[hF]at Q b⊢;have cl:¬(0:Int)<(F:Int)/\¬0<F:= ⟨Q,b⟩;rw[I]at o t;have HE:=η (⟨o,t⟩ :_/\_);have cj:=cK (P:=Tryz.prog) 22 5 Tryz.underlying22 J.1 J.2.2.1 C m e wG;clear b hF I o t R SR HX YB Q
      go_wp2_with fail;go_roundg (m-n)
      case measure=>have:=a.2.2.2.2.2.2.2.2.1;have:=HN.out;omega
      case rel=>exact⟨dw C e n,m-n,e-n,x.drop n,_,_,_,_,by go_num,ω,a.2.2.2.2.1.dw wG SZ,λh0 ad e=>(by obtain⟨a0,Y,e2⟩ :=LD e;rw[e2];exact a.2.2.2.2.2.1 ω a0 Y),λv hv=>a.2.2.2.2.2.2.1 v (aW hv),HE.1,HE.2,by rw[av,aO];exact a.2.2.1,bt.out,a.2.2.2.2.2.2.2.1,rfl⟩
    rw[aa b]at I;have bs:=η (o.lay SR (ε t.size bt.out) (bO i.aj) (lN _) ((SR.full b).2) false);have Me:=t.lay b;have QT:(jb i (bO i.aj) false).aj.length<(i.aj.length):=by have:=lN i.aj;rw[show(jb i (bO i.aj) false).aj.length=i.aj.length-bO i.aj from ay];omega
    obtain⟨F,hF⟩ :=ν (bO i.aj);have Zy:=lN i.aj;have cm:(0:Int)<(F:Int)/\(F:Int)<=16777216/\0<F:=by have:=SR.nt;omega
    rw[hF]at bs Me I QT⊢;have HY:=η (⟨Me,I,QT,R⟩ :_/\_/\_/\_);clear b hF Zy I o t Me QT R SR HX YB
    go_wp2_with fail;refine bs.mono ?_;rintro r Sr ⟨rfl,co,u⟩;have ci:=η (u.full HY.1.1.facts);clear u
    go_wp2_with fail;refine ci.mono ?_;rintro r XS ⟨rfl,bo⟩;have SB:=η bo;clear bo
    go_wp2_with fail;go_roundg (jb i F false).aj.length
    case measure=>have:=HY.2.2.1;have:=HY.2.2.2;omega
    case rel=>exact⟨_,_,rfl,SB.out,HY.1,HY.2.1,rfl⟩
section
variable {w w' w0:World} {b0 g:Nat} {c c0:Nat->Nat} {M:EM} {d:jO} {done:Bool} {K:Nat} {X P:ag}
theorem DB.Gj (h:DB K X P d):bN (eH d).aj<=16641:=by
 obtain⟨a,b,c,e,f,j,g,i⟩ :=h.1.rest;exact g
theorem dX.align (h:dX w0 c0 w b0 g M d done) (i:d.L.length<=2000000000000):
  Calls Tryz.prog 95 #[.pointer (some ⟨M.gw,0,none⟩)] w λe w'=>e= .returned (.tuple #[])/\∃M',dX w0 c0 w' b0 g M' { d with L:=qu d.L } done:=by
 obtain⟨c,b,f⟩ :=h;refine(qT w b0 M.gw M.nw M.cw M.Aw _ b.Su ω).mono ?_;rintro e w' ⟨A',n',c',rfl,q1,q2,q3⟩
 exact⟨rfl,_,dX.writer (M:=M) (d:=d) ⟨c,b,f⟩ q2 q1 λk a=>by
  rcases a with a | a
  · exact .inl (.inl a)
  rcases q3 k a with h | h
  · exact .inl (.inr h)
  exact .inr h⟩
theorem dX.end_ (h:dX w0 c0 w b0 g M d done):dX w0 c0 (w.setCell ⟨g,5,none⟩ (.bool true)) b0 g M d true:=by
 obtain⟨c,a,l⟩ :=h;have b:bb w (w.setCell ⟨g,5,none⟩ (.bool true)) (λk=>k=g\/ai M.Ar=some k):=(bb.refl w _).setCell (.inl (.inl rfl)) _
 have f:=dX.WY (M:=M) (d:=d) (A':=M.Ar) (n':=M.nr) (c':=M.cr) (l':=d.raw) (done':=true) ⟨c,a,l⟩ b
  ((a.cell.cE 5 (.bool true)).congr (λj m=>by
    obtain rfl | rfl | rfl | rfl | rfl | rfl:j=0\/j=1\/j=2\/j=3\/j=4\/j=5:=ω;all_goals rfl))
  (a.raw.far (p:= ⟨g,5,none⟩) (λe=>by have n:=a.cr g e;have h4:=a.cg;omega) _) (λk i=> .inl i)
 exact f
end
theorem xO (w:World) (g:Nat) (h:w.cell? ⟨g,5,none⟩ =some (.bool true)):Calls Tryz.prog 90 #[.pointer (some ⟨g,0,none⟩)] w λe w'=>e= .returned (.int .i64 8)/\w=w':=by
 go_in
 go_wp2;go_ret;exact⟨rfl,rfl⟩
theorem xQ (w:World) (g:Nat) (v:Value) (h:w.cell? ⟨g,5,none⟩ =some (.bool true)):Calls Tryz.prog 93 #[.pointer (some ⟨g,0,none⟩),v] w λe w'=>e= .returned (.int .i64 8)/\w=w':=by
 go_in
 go_wp2;go_ret;exact⟨rfl,rfl⟩
theorem zL (w:World) (b0 g:Nat) (c:Nat->Nat) (M:EM) (d:jO) (h:gH w b0 g c M d false) {K:Nat} {X P:ag} (p:DB K X P d) (s:K+100<=2000000000000):
  Calls Tryz.prog 90 #[.pointer (some ⟨g,0,none⟩)] w λr w'=>r= .returned (.int .i64 0)/\∃M',dX w c w' b0 g M' (ng d) true:=by
 obtain⟨c0,c1,c2,z,j,t⟩ :=h.cells;have v:=η (X4 w b0 g c M d false h p ω);have l:=η (⟨p,s⟩ :_/\_);clear h p s c0 c1 c2 z j
 go_in
 go_wp2_with fail;refine v.mono ?_;rintro e w1 ⟨rfl,H,o⟩;have i:=l.1.rest;have b:=i.1.facts;have j:=o.cells.2.2.2.2.1;rw[o.nt]at j
 have a:(jb (eH d) (eH d).aj.length true).L.length<=2000000000000:=by
  obtain⟨all,kinds,stops,fz,pre,f⟩ :=i.1;have D:=Be f (eH d).aj.length true (by rw[aA (af _)];have:=l.1.Gj;omega);have hf:=(f.first (eH d).aj.length).2;have:=i.2;have:=l.2;omega
 obtain⟨N,hN⟩ :=ν ((eH d).aj.length);have q:ng d={ jb (eH d) N true with L:=qu (jb (eH d) N true).L }:=by rw[<-hN];rfl
 rw[hN]at j a;have y:(0:Int)<=(N:Int)/\(N:Int)<=16777216:=by have:=b.nt;omega
 have k:=η (o.lay b (ε i.size l.2) N ω (by rw[aA ω];have:=l.1.Gj;omega) true);have u:=η (⟨a,q⟩ :_/\_);clear o i b t v hN a q
 go_wp2_with fail;refine k.mono ?_;rintro e w2 ⟨rfl,G,f⟩;have c1:=f.cells.2.1;have m:=η (f.align u.1);clear f k j
 go_wp2_with fail;refine m.mono ?_;rintro e x ⟨rfl,A,n⟩;have t:=n.cells.2.2.2.2.2;have C:x.frozen? ⟨g,5,none⟩ =false:=by obtain⟨F,h7,E⟩ :=n;exact h7.cell.aH 5
 have B:=η n.end_;clear n m c1
 go_wp2_with fail;go_ret;exact⟨rfl,A,by rw[u.2];exact B⟩
section
variable {w w':World} {b0 g:Nat} {c:Nat->Nat} {M:EM} {d:jO} {done:Bool}
theorem gH.aside {F:Nat->Prop} (h:gH w b0 g c M d done) (b:bb w w' F) (hF:∀k,F k->c k=0):gH w' b0 g c M d done:=
 ⟨b.ar h.cell (λe=>by have:=hF g e;have:=h.cg;omega),h.cg,
   by obtain⟨nm,i,f⟩ :=h.fnd;exact⟨nm,i,f.dx b (λk a e=>by have:=hF k e;have:=h.cf k a;omega)⟩,h.cf,
   h.Su.dx b (λk a e=>by have:=hF k e;have:=h.cw k a;omega),h.cw,
   b.dJ h.raw (λk a e=>by have:=hF k e;have:=h.cr k a;omega),h.cr,
   ⟨h.tok.1,b.own h.tok.2 (λk a e=>by have:=hF k e;have:=h.ct k a;omega)⟩,h.ct,
   λk a=> ⟨(h.cb k a).1,aB (h.cb k a).2 b.size⟩⟩
theorem DB.a27 {K:Nat} {X P:ag} (h:DB K X P d):(ng d).L.length<=K+60:=by
 have a:=h.rest;obtain⟨all,kinds,stops,fz,pre,b⟩ :=a.1;have c:=Be b (eH d).aj.length true (by rw[aA (af _)];have:=h.Gj;omega);have hf:=(b.first (eH d).aj.length).2;have g:=a.2;have e:(ng d).L=qu (jb (eH d) (eH d).aj.length true).L:=rfl;have f:=mj (jb (eH d) (eH d).aj.length true).L;rw[e];omega
end
theorem gH.taken {w w':World} {b0 g:Nat} {c:Nat->Nat} {M:EM} {d:jO} {done:Bool} (h:gH w b0 g c M d done) (b:pX w' b0 M.gw none 0 0 (rest d.L)) (e:bb w w' (λk=>k=M.gw)):
  dX w c w' b0 g { M with Aw:=none,nw:=0,cw:=0 } { d with L:=rest d.L } done:=
 h.refl.writer (e.more λk a=> .inl a) b (λk a=>by
  rcases a with a | a
  · exact .inl (.inl a)
  simp [ai]at a)
end Go.Proofs.YtgiimmkmjpbecaaGreat
