/-
  part
-/
import Derived.Test.YtdhmnlpfhfmpfaaGreatPk20
import Derived.Test.YtdhmnlpfhfmpfaaGreatPk22
import Derived.Test.YtdhmnlpfhfmpfaaGreatStepT
set_option linter.unusedVariables false
set_option maxRecDepth 100000
set_option maxHeartbeats 4000000
namespace Go.Proofs.YtdhmnlpfhfmpfaaGreat
open Go.RowKit
structure EM where
 gf:Nat
 A:Option Addr
 n:Nat
 c:Nat
 gm:Nat
 Ap:Option Addr
 np:Nat
 cp:Nat
 gw:Nat
 Aw:Option Addr
 nw:Nat
 cw:Nat
 Ar:Option Addr
 nr:Nat
 cr:Nat
 At:Option Addr
 nt:Nat
 ct:Nat
def eF (M:EM) (lev:Int) (done:Bool):Nat->Value
 | 0=> .pointer (some ⟨M.gf,0,none⟩)
 | 1=> .pointer (some ⟨M.gw,0,none⟩)
 | 2=> .int .i64 lev
 | 3=> .slice M.Ar M.nr M.cr
 | 4=> .slice M.At M.nt M.ct
 | _=> .bool done
structure ic (w:World) (b0 g:Nat) (c:Nat->Nat) (M:EM) (d:kK) (done:Bool):Prop where
 cell:Ar w g 6 (eF M d.lev done)
 cg:c g=1
 fnd:∃nm Dm,eC w b0 M.gf (gP d.lev) d.f d.f.at_ M.A M.n M.c M.gm nm Dm M.Ap M.np M.cp
 cf:∀k,FF M.A M.gm M.Ap M.gf k->c k=2
 Rb:qf w b0 M.gw M.Aw M.nw M.cw d.L
 cw:∀k,foot M.Aw M.gw k->c k=3
 raw:aW .u8 w b0 5 M.Ar M.nr M.cr d.raw
 cr:∀k,ai M.Ar=some k->c k=4
 tok:jW w b0 M.At M.nt M.ct d.aj
 ct:∀k,ai M.At=some k->c k=5
 cb:∀k,c k≠0->b0<=k/\k<w.heap.size
def ed (w0:World) (c0:Nat->Nat) (w:World) (b0 g:Nat) (M:EM) (d:kK) (done:Bool):Prop:=∃c,ic w b0 g c M d done/\DE b0 w0 c0 w c
section
variable {w w' w0:World} {b0 g:Nat} {c c0:Nat->Nat} {M:EM} {d:kK} {done:Bool}
theorem ic.refl (h:ic w b0 g c M d done):ed w c w b0 g M d done:= ⟨c,h,aw _ _,bj.refl _ _,λ_ _=>rfl⟩
theorem ic.lo (h:ic w b0 g c M d done):b0<=w.heap.size:=by have:=h.cb g (by rw[h.cg];decide);omega
theorem ic.zT (h:ic w b0 g c M d done) (o:bj w w' (FF M.A M.gm M.Ap M.gf)) {A' Ap':Option Addr} {n' c' np' cp':Nat} {f':ja} (q:∃nm r,eC w' b0 M.gf (gP d.lev) f' f'.at_ A' n' c' M.gm nm r Ap' np' cp') (hf:∀k,FF A' M.gm Ap' M.gf k->FF M.A M.gm M.Ap M.gf k\/w.heap.size<=k):
  ic w' b0 g (cT c w.heap.size (FF A' M.gm Ap' M.gf) 2) { M with A:=A',n:=n',c:=c',Ap:=Ap',np:=np',cp:=cp' } { d with f:=f' } done:=by
 have hF:∀k,(FF M.A M.gm M.Ap M.gf) k->c k=2:=h.cf;have p:∀k i,c k=i->i≠0->k<w.heap.size:=λk i j b=>(h.cb k ω).2;have l:∀k,k<w.heap.size->cT c w.heap.size (FF A' M.gm Ap' M.gf) 2 k=c k:=λk a=>cy a;have m:∀k i,c k=i->i≠0->cT c w.heap.size (FF A' M.gm Ap' M.gf) 2 k=i:=λk i j b=>(l k (p k i j b)).trans j
 exact⟨o.ar h.cell (λe=>by have:=hF g e;have:=h.cg;omega),
  m _ _ h.cg δ,
  q,
  λk a=>by
   rcases aZ k w.heap.size with j | j
   · rcases hf k a with b | b
     · exact m k 2 (h.cf k b) δ
     omega
   exact fI j a,
  h.Rb.fz o (λk a e=>by have:=hF k e;have:=h.cw k a;omega),
  λk a=>m k 3 (h.cw k a) δ,
  o.eH h.raw (λk a e=>by have:=hF k e;have:=h.cr k a;omega),
  λk a=>m k 4 (h.cr k a) δ,
  ⟨h.tok.1,o.own h.tok.2 (λk a e=>by have:=hF k e;have:=h.ct k a;omega)⟩,
  λk a=>m k 5 (h.ct k a) δ,
  λk a=>by
   rcases fZ a with ⟨j,b⟩ | ⟨j,b⟩
   · exact⟨(h.cb k b).1,aD j o.size⟩
   exact(by obtain⟨nm,r,s⟩ :=q;exact s.eJ b)⟩
theorem ed.zT (h:ed w0 c0 w b0 g M d done) (b:bj w w' (FF M.A M.gm M.Ap M.gf)) {A' Ap':Option Addr} {n' c' np' cp':Nat} {f':ja} (e:∃nm i,eC w' b0 M.gf (gP d.lev) f' f'.at_ A' n' c' M.gm nm i Ap' np' cp') (hf:∀k,FF A' M.gm Ap' M.gf k->FF M.A M.gm M.Ap M.gf k\/w.heap.size<=k):
  ed w0 c0 w' b0 g { M with A:=A',n:=n',c:=c',Ap:=Ap',np:=np',cp:=cp' } { d with f:=f' } done:=by
 obtain⟨c,h,hd⟩ :=h;exact⟨_,h.zT b e hf,hd.step h.lo (λk a=>(h.cb k a).1) (b.more λk a=>by rw[h.cf k a];decide) λk a=>cy a⟩
theorem ic.writer (h:ic w b0 g c M d done) (m:bj w w' (foot M.Aw M.gw)) {A':Option Addr} {n' c':Nat} {p:List Int} (o:qf w' b0 M.gw A' n' c' p) (hf:∀k,foot A' M.gw k->foot M.Aw M.gw k\/w.heap.size<=k):
  ic w' b0 g (cT c w.heap.size (foot A' M.gw) 3) { M with Aw:=A',nw:=n',cw:=c' } { d with L:=p } done:=by
 have hF:∀k,(foot M.Aw M.gw) k->c k=3:=h.cw;have n:∀k i,c k=i->i≠0->k<w.heap.size:=λk i f b=>(h.cb k ω).2;have j:∀k,k<w.heap.size->cT c w.heap.size (foot A' M.gw) 3 k=c k:=λk a=>cy a;have l:∀k i,c k=i->i≠0->cT c w.heap.size (foot A' M.gw) 3 k=i:=λk i f b=>(j k (n k i f b)).trans f
 exact⟨m.ar h.cell (λe=>by have:=hF g e;have:=h.cg;omega),
  l _ _ h.cg δ,
  by obtain⟨nm,r,q⟩ :=h.fnd;exact⟨nm,r,q.fz m (λk a e=>by have:=hF k e;have:=h.cf k a;omega)⟩,
  λk a=>l k 2 (h.cf k a) δ,
  o,
  λk a=>by
   rcases aZ k w.heap.size with f | f
   · rcases hf k a with b | b
     · exact l k 3 (h.cw k b) δ
     omega
   exact fI f a,
  m.eH h.raw (λk a e=>by have:=hF k e;have:=h.cr k a;omega),
  λk a=>l k 4 (h.cr k a) δ,
  ⟨h.tok.1,m.own h.tok.2 (λk a e=>by have:=hF k e;have:=h.ct k a;omega)⟩,
  λk a=>l k 5 (h.ct k a) δ,
  λk a=>by
   rcases fZ a with ⟨f,b⟩ | ⟨f,b⟩
   · exact⟨(h.cb k b).1,aD f m.size⟩
   exact o.eJ b⟩
theorem ed.writer (h:ed w0 c0 w b0 g M d done) (b:bj w w' (foot M.Aw M.gw)) {A':Option Addr} {n' c':Nat} {e:List Int} (f:qf w' b0 M.gw A' n' c' e) (hf:∀k,foot A' M.gw k->foot M.Aw M.gw k\/w.heap.size<=k):
  ed w0 c0 w' b0 g { M with Aw:=A',nw:=n',cw:=c' } { d with L:=e } done:=by
 obtain⟨c,h,hd⟩ :=h;exact⟨_,h.writer b f hf,hd.step h.lo (λk a=>(h.cb k a).1) (b.more λk a=>by rw[h.cw k a];decide) λk a=>cy a⟩
theorem ic.Wa (h:ic w b0 g c M d done) (m:bj w w' (λk=>k=g\/ai M.Ar=some k)) {A':Option Addr} {n' c':Nat} {l':List Int} {done':Bool} (q:Ar w' g 6 (eF { M with Ar:=A',nr:=n',cr:=c' } d.lev done')) (o:aW .u8 w' b0 5 A' n' c' l') (hf:∀k,ai A'=some k->ai M.Ar=some k\/w.heap.size<=k):
  ic w' b0 g (cT c w.heap.size (λk=>ai A'=some k) 4) { M with Ar:=A',nr:=n',cr:=c' } { d with raw:=l' } done':=by
 have hF:∀k,(λk=>k=g\/ai M.Ar=some k) k->c k=1\/c k=4:=λk a=>by
  rcases a with rfl | a
  · exact .inl h.cg
  exact .inr (h.cr k a)
 have n:∀k i,c k=i->i≠0->k<w.heap.size:=λk i f b=>(h.cb k ω).2;have j:∀k,k<w.heap.size->cT c w.heap.size (λk=>ai A'=some k) 4 k=c k:=λk a=>cy a;have l:∀k i,c k=i->i≠0->cT c w.heap.size (λk=>ai A'=some k) 4 k=i:=λk i f b=>(j k (n k i f b)).trans f
 exact⟨q,
  l _ _ h.cg δ,
  by obtain⟨nm,r,p⟩ :=h.fnd;exact⟨nm,r,p.fz m (λk a e=>by have:=hF k e;have:=h.cf k a;omega)⟩,
  λk a=>l k 2 (h.cf k a) δ,
  h.Rb.fz m (λk a e=>by have:=hF k e;have:=h.cw k a;omega),
  λk a=>l k 3 (h.cw k a) δ,
  o,
  λk a=>by
   rcases aZ k w.heap.size with f | f
   · rcases hf k a with b | b
     · exact l k 4 (h.cr k b) δ
     omega
   exact fI f a,
  ⟨h.tok.1,m.own h.tok.2 (λk a e=>by have:=hF k e;have:=h.ct k a;omega)⟩,
  λk a=>l k 5 (h.ct k a) δ,
  λk a=>by
   rcases fZ a with ⟨f,b⟩ | ⟨f,b⟩
   · exact⟨(h.cb k b).1,aD f m.size⟩
   exact o.2.lt b⟩
theorem ed.Wa (h:ed w0 c0 w b0 g M d done) (b:bj w w' (λk=>k=g\/ai M.Ar=some k)) {A':Option Addr} {n' c':Nat} {l':List Int} {done':Bool} (f:Ar w' g 6 (eF { M with Ar:=A',nr:=n',cr:=c' } d.lev done')) (e:aW .u8 w' b0 5 A' n' c' l') (hf:∀k,ai A'=some k->ai M.Ar=some k\/w.heap.size<=k):
  ed w0 c0 w' b0 g { M with Ar:=A',nr:=n',cr:=c' } { d with raw:=l' } done':=by
 obtain⟨c,h,hd⟩ :=h
 exact⟨_,h.Wa b f e hf,hd.step h.lo (λk a=>(h.cb k a).1) (b.more λk a=>by
  rcases a with rfl | a
  · rw[h.cg];decide
  rw[h.cr k a];decide) λk a=>cy a⟩
theorem ic.tokens (h:ic w b0 g c M d done) (m:bj w w' (λk=>k=g\/ai M.At=some k)) {A':Option Addr} {n' c':Nat} {l':List cu} {done':Bool} (q:Ar w' g 6 (eF { M with At:=A',nt:=n',ct:=c' } d.lev done')) (o:jW w' b0 A' n' c' l') (hf:∀k,ai A'=some k->ai M.At=some k\/w.heap.size<=k):
  ic w' b0 g (cT c w.heap.size (λk=>ai A'=some k) 5) { M with At:=A',nt:=n',ct:=c' } { d with aj:=l' } done':=by
 have hF:∀k,(λk=>k=g\/ai M.At=some k) k->c k=1\/c k=5:=λk a=>by
  rcases a with rfl | a
  · exact .inl h.cg
  exact .inr (h.ct k a)
 have n:∀k i,c k=i->i≠0->k<w.heap.size:=λk i f b=>(h.cb k ω).2;have j:∀k,k<w.heap.size->cT c w.heap.size (λk=>ai A'=some k) 5 k=c k:=λk a=>cy a;have l:∀k i,c k=i->i≠0->cT c w.heap.size (λk=>ai A'=some k) 5 k=i:=λk i f b=>(j k (n k i f b)).trans f
 exact⟨q,
  l _ _ h.cg δ,
  by obtain⟨nm,r,p⟩ :=h.fnd;exact⟨nm,r,p.fz m (λk a e=>by have:=hF k e;have:=h.cf k a;omega)⟩,
  λk a=>l k 2 (h.cf k a) δ,
  h.Rb.fz m (λk a e=>by have:=hF k e;have:=h.cw k a;omega),
  λk a=>l k 3 (h.cw k a) δ,
  m.eH h.raw (λk a e=>by have:=hF k e;have:=h.cr k a;omega),
  λk a=>l k 4 (h.cr k a) δ,
  o,
  λk a=>by
   rcases aZ k w.heap.size with f | f
   · rcases hf k a with b | b
     · exact l k 5 (h.ct k b) δ
     omega
   exact fI f a,
  λk a=>by
   rcases fZ a with ⟨f,b⟩ | ⟨f,b⟩
   · exact⟨(h.cb k b).1,aD f m.size⟩
   exact o.2.lt b⟩
theorem ed.tokens (h:ed w0 c0 w b0 g M d done) (b:bj w w' (λk=>k=g\/ai M.At=some k)) {A':Option Addr} {n' c':Nat} {l':List cu} {done':Bool} (f:Ar w' g 6 (eF { M with At:=A',nt:=n',ct:=c' } d.lev done')) (e:jW w' b0 A' n' c' l') (hf:∀k,ai A'=some k->ai M.At=some k\/w.heap.size<=k):
  ed w0 c0 w' b0 g { M with At:=A',nt:=n',ct:=c' } { d with aj:=l' } done':=by
 obtain⟨c,h,hd⟩ :=h
 exact⟨_,h.tokens b f e hf,hd.step h.lo (λk a=>(h.cb k a).1) (b.more λk a=>by
  rcases a with rfl | a
  · rw[h.cg];decide
  rw[h.ct k a];decide) λk a=>cy a⟩
theorem jW.keeps {n k:Nat} {A:Option Addr} {l:List cu} (h:jW w b0 A n k l) (b:Below w.heap.size w w'):jW w' b0 A n k l:= ⟨h.1,h.2.below b λ_ a=>(h.2.lt a).2⟩
theorem ic.keeps (h:ic w b0 g c M d done) (a:Below w.heap.size w w'):ic w' b0 g c M d done:=
 ⟨h.cell.keeps a,h.cg,by obtain⟨nm,f,e⟩ :=h.fnd;exact⟨nm,f,e.keeps a⟩,h.cf,h.Rb.keeps a,h.cw,h.raw.keeps a,h.cr,h.tok.keeps a,h.ct,
   λk b=> ⟨(h.cb k b).1,aD (h.cb k b).2 a.size⟩⟩
theorem ed.keeps (h:ed w0 c0 w b0 g M d done) (a:Below w.heap.size w w'):ed w0 c0 w' b0 g M d done:=by
 obtain⟨c,h,hd⟩ :=h;exact⟨c,h.keeps a,hd.step h.lo (λk b=>(h.cb k b).1) (bj.bA a) λ_ _=>rfl⟩
theorem ic.cells (h:ic w b0 g c M d done):w.cell? ⟨g,0,none⟩ =some (.pointer (some ⟨M.gf,0,none⟩))/\w.cell? ⟨g,1,none⟩ =some (.pointer (some ⟨M.gw,0,none⟩))/\w.cell? ⟨g,2,none⟩ =some (.int .i64 d.lev)/\w.cell? ⟨g,3,none⟩ =some (.slice M.Ar M.nr M.cr)/\w.cell? ⟨g,4,none⟩ =some (.slice M.At M.nt M.ct)/\w.cell? ⟨g,5,none⟩ =some (.bool done):=
 ⟨h.cell.cell (i:=0) ω,h.cell.cell (i:=1) ω,h.cell.cell (i:=2) ω,h.cell.cell (i:=3) ω,h.cell.cell (i:=4) ω,h.cell.cell (i:=5) ω⟩
end
theorem LQ {l:List cu} {k:Nat} (h:k<l.length):bQ (l.take (k+1))=bQ (l.take k)+mF (dT l k):=by rw[wB h];simp [bQ]
theorem Vr {l:List cu} (h:∀t∈l,cC t):bQ l<=258*l.length:=by
 induction l with
 | nil=>simp [bQ]
 | cons t l a=>
   have d:=vS (h t az);have c:=a λu b=>h u (aB _ b);have:bQ (t::l)=mF t+bQ l:=by simp [bQ]
   rw[bc];omega
theorem Hq (w:World) (At:Option Addr) (nt ct:Nat) (aj:List cu) (u:lV w w.heap.size At nt aj) (z:nt<=4000000000000) (b:∀t∈aj,cC t):
  Calls Tryz.prog 64 #[.slice At nt ct] w λe w'=>e= .returned (.int .i64 ((bQ aj:Nat):Int))/\Below w.heap.size w w':=by
 have c:=η (⟨u,u.1,z,b⟩ :_/\_/\_/\_);have K:(0:Int)<=(nt:Int)/\(nt:Int)<=4000000000000:=ω;clear u z b;go_enter Tryz.func64,Tryz.ntmps64
 go_wp2_with fail;go_loopg [3,8] nt (λ(gk:Nat) (v3 v8:Value) wx=>∃k s:Nat,v3= .int .i64 s/\v8= .int .i64 k/\k<=nt/\Hid (s=bQ (aj.take k))/\Hid (Below w.heap.size w wx)/\Hid (gk=nt-k))
 case atStart=>exact⟨0,0,rfl,rfl,aF _,rfl,aw _ _,rfl⟩
 obtain⟨k,s,rfl,rfl,L,b,h,G⟩ :=hrel;by_cases a:k<nt
 rotate_left
 · obtain rfl:k=nt:=ω;have F:¬(k:Int)<(k:Int):=ω;have x:aj.take k=aj:=ay (by rw[<-c.out.2.1];exact ag _);have A:=b;rw[x]at A;clear a x b
   go_wp2_with fail;go_ret;exact⟨cn (by rw[A.out]),h.out⟩
 have F:(k:Int)<(nt:Int)/\(0:Int)<=(k:Int):=ω;obtain⟨f,hA,r,d⟩ :=(c.out.1.below h.out).2 ω;obtain⟨v,j,i⟩ :=d k a;rw[kV _ _ _ ω]at j i;have g:=LQ (l:=aj) (k:=k) (by rw[<-c.out.2.1];exact a);have n:=c.out.2.2.2 _ (c.out.1.BF a);have p:=Vr (l:=aj.take k) λt ht=>c.out.2.2.2 t (aH ht);have E:(aj.take k).length<=k:=by rw[aA];exact eX _ _
 obtain⟨⟨m,N,D⟩,ht⟩ :∃t:cu,dT aj k=t:= ⟨_,rfl⟩;rw[ht]at v j i g n;replace v:wr.cell? (f.add (k*3))=some (.int .u8 m):=v;replace j:wr.cell? { block:=(f.add (k*3)).block,off:=(f.add (k*3)).off+1 }=some (.int .i64 N):=j;replace i:wr.cell? { block:=(f.add (k*3)).block,off:=(f.add (k*3)).off+2 }=some (.int .i64 D):=i;obtain⟨q,o⟩ :=ν (mF ⟨m,N,D⟩ :Nat);have C:max N 1=(q:Int):=by rw[<-o,show mF ⟨m,N,D⟩ =(max N 1).toNat from rfl];omega
 have y:=vS n;rw[o]at g y;have I:=η (show bQ (aj.take (k+1))=s+q by rw[g,b.out]);have J:(s:Int)<=2000000000000000/\(0:Int)<=(s:Int)/\(0:Int)<=(q:Int)/\(q:Int)<=258:=by have:=b.out;have:=c.out.2.2.1;omega
 have B:=η a;have H:=η (h.out.alloc h.out.size (.cells #[.int .u8 m, .int .i64 N, .int .i64 D] 109));subst hA;clear r d ht a g p E n o y
 go_wp2_with fail;go_roundg (nt-(k+1))
 case measure=>have:=G.out;have:=B.out;omega
 case rel=>exact⟨k+1,s+q,by go_num,by go_num,B.out,I.out.symm,H.out,rfl⟩
theorem KX {l:List cu} {k s q:Nat} (c:k<l.length) (b:mF (dT l k)=q) (h:iC s k (l.drop k)=bR l):(16384<=s+q->bR l=k+1)/\(¬16384<=s+q->iC (s+q) (k+1) (l.drop (k+1))=bR l):=by
 rw[lV.dX rfl c]at h;unfold iC at h;rw[b]at h;constructor
 · intro a;rw[ae a]at h;exact h.symm
 intro a;rw[aa a]at h;exact h
theorem Pd (w:World) (g:Nat) (At:Option Addr) (nt ct:Nat) (aj:List cu) (S:w.cell? ⟨g,4,none⟩ =some (.slice At nt ct)) (A:lV w w.heap.size At nt aj) (G:nt<=4000000000000) (f:∀t∈aj,cC t):
  Calls Tryz.prog 42 #[.pointer (some ⟨g,0,none⟩)] w λe w'=>e= .returned (.int .i64 ((bR aj:Nat):Int))/\Below w.heap.size w w':=by
 have o:=η (⟨A,A.1,G,f⟩ :_/\_/\_/\_);have Q:(0:Int)<=(nt:Int)/\(nt:Int)<=4000000000000:=ω;clear A G f;go_enter Tryz.func42,Tryz.ntmps42
 go_wp2_with fail;go_loopg [3,11] nt (λ(gk:Nat) (v3 v11:Value) wx=>∃k s:Nat,v3= .int .i64 s/\v11= .int .i64 k/\k<=nt/\s<16384/\Hid (iC s k (aj.drop k)=bR aj)/\Hid (Below w.heap.size w wx)/\Hid (gk=nt-k))
 case atStart=>exact⟨0,0,rfl,rfl,aF _,ω,rfl,aw _ _,rfl⟩
 obtain⟨k,s,rfl,rfl,R,O,f,p,M⟩ :=hrel;by_cases a:k<nt
 rotate_left
 · obtain rfl:k=nt:=ω;have L:¬(k:Int)<(k:Int):=ω;have E:aj.drop k=[]:=dM (by rw[<-o.out.2.1];exact ag _);have I:=f;rw[E]at I;clear a E f
   go_wp2_with fail;go_ret;exact⟨cn (by rw[<-I.out];rfl),p.out⟩
 have L:(k:Int)<(nt:Int)/\(0:Int)<=(k:Int):=ω;obtain⟨n,hA,z,m⟩ :=(o.out.1.below p.out).2 ω;obtain⟨B,u,r⟩ :=m k a;rw[kV _ _ _ ω]at u r;have x:=o.out.2.2.2 _ (o.out.1.BF a);have c:=λq h=>KX (l:=aj) (k:=k) (s:=s) (q:=q) (by rw[<-o.out.2.1];exact a) h f.out;obtain⟨⟨v,N,D⟩,ht⟩ :∃t:cu,dT aj k=t:= ⟨_,rfl⟩;rw[ht]at B u r x c;replace B:wr.cell? (n.add (k*3))=some (.int .u8 v):=B;replace u:wr.cell? { block:=(n.add (k*3)).block,off:=(n.add (k*3)).off+1 }=some (.int .i64 N):=u;replace r:wr.cell? { block:=(n.add (k*3)).block,off:=(n.add (k*3)).off+2 }=some (.int .i64 D):=r;obtain⟨q,h⟩ :=ν (mF ⟨v,N,D⟩ :Nat);have K:max N 1=(q:Int):=by rw[<-h,show mF ⟨v,N,D⟩ =(max N 1).toNat from rfl];omega
 have F:=vS x;have j:=c q h;rw[h]at F;have P:(s:Int)<=16384/\(0:Int)<=(s:Int)/\(0:Int)<=(q:Int)/\(q:Int)<=258:=ω;have J:=η a;have b:=η j;have H:=η (p.out.alloc p.out.size (.cells #[.int .u8 v, .int .i64 N, .int .i64 D] 109));subst hA;clear z m ht a x h F c j;by_cases i:16384<=s+q
 · have y:(16384:Int)<=(s:Int)+(q:Int):=ω;have d:=η (b.out.1 i);clear i b
   go_wp2_with fail;go_ret;exact⟨cn (by rw[d.out];omega),H.out⟩
 have y:decide ((16384:Int)<=(s:Int)+(q:Int))=false:=ξ;have d:=η (b.out.2 i);have C:=η i;clear i b
 go_wp2_with fail;go_roundg (nt-(k+1))
 case measure=>have:=M.out;have:=J.out;omega
 case rel=>exact⟨k+1,s+q,by go_num,by go_num,J.out,by have:=C.out;omega,d.out,H.out,rfl⟩
theorem wV:(Tryz.prog.info? 109).map (λi=>(i.zero,i.size,i.bytes))=some (some (.agg #[.int .u8 0, .int .i64 0, .int .i64 0]),3,24):=by kernel_rfl
theorem od:(Tryz.prog.info? 5).map (λi=>(i.zero,i.size,i.bytes))=some (some (.int .u8 0),1,1):=by kernel_rfl
theorem a01 (w:World) (b0 g:Nat) (c:Nat->Nat) (M:EM) (d:kK) (done:Bool) (h:ic w b0 g c M d done) (hs:∀t∈d.aj,cC t) (cW:∀t∈d.aj,0<=t.lit/\t.lit<256) (ah:∀x∈d.raw,0<=x/\x<256) (count:Nat) (hc:count<=d.aj.length)
  (hn:bQ (d.aj.take count)<=65535) (pn:bQ (d.aj.take count)<=d.raw.length) (hL:d.L.length<=2000000000000) (AZ:d.aj.length<=1000000000) (su:d.raw.length<=900000000000) (last:Bool):
  Calls Tryz.prog 43 #[.pointer (some ⟨g,0,none⟩), .int .i64 count, .bool last] w λe w'=>e= .returned (.tuple #[])/\∃M',ed w c w' b0 g M' (iV d count last) done:=by
 obtain⟨i0,hi,Z,Y,X⟩ :=aJ wV;obtain⟨i1,ki,U,T,S⟩ :=aJ od;obtain⟨c0,c1,c2,c3,c4,c5⟩ :=h.cells;have xf:count<=M.ct:=by have o:=h.tok.1;have n:=h.tok.2.jD;omega
 obtain⟨N,hN⟩ :=ν (bQ (d.aj.take count));have yD:N<=M.cr:=by have o:=h.raw.1;have n:=h.raw.2.jD;omega
 have Qa:∀W,(Instr.slice 65 (.slice M.At M.nt M.ct) none (some (.int .i64 (count:Int))) (some (.int .i64 (count:Int)))).run Tryz.prog W= .ok (.slice M.At count count) W:=λW=>tX (P:=Tryz.prog) 65 109 Tryz.underlying65 hi M.At M.nt M.ct xf W;have Fj:∀W,(Instr.slice 22 (.slice M.Ar M.nr M.cr) none (some (.int .i64 (N:Int))) (some (.int .i64 (N:Int)))).run Tryz.prog W= .ok (.slice M.Ar N N) W:=λW=>tX (P:=Tryz.prog) 22 5 Tryz.underlying22 ki M.Ar M.nr M.cr yD W;have al:lV w w.heap.size M.At count (d.aj.take count):=h.tok.rd.pre (by have o:=h.tok.1;omega);have YH:=Hq w M.At count count (d.aj.take count) al ω λt ht=>hs t (aH ht);rw[hN]at YH;have ap:=η YH;have b:=η (⟨h,hs,cW,ah,hc,hn,pn,hL,hN⟩ :_/\_/\_/\_/\_/\_/\_/\_/\_);have OC:=η su;have bi:=η AZ;have Hi:=η (⟨hi,Z,Y,X⟩ :_/\_/\_/\_);have Q:=η (⟨ki,U,T,S⟩ :_/\_/\_/\_);have JY:(0:Int)<=(count:Int)/\(count:Int)<=1000000000:=ω;have bp:(0:Int)<=(N:Int)/\(N:Int)<=65535:=ω;clear hi Z Y X ki U T S hs cW ah hc hn pn hL AZ al YH h;go_enter Tryz.func43,Tryz.ntmps43
 go_wp2_with fail;refine ap.out.mono ?_;rintro e w1 ⟨rfl,J⟩;have r:=η (b.out.1.keeps J);obtain⟨d0,d1,d2,d3,d4,d5⟩ :=r.out.cells;have Es:=η J;clear J c0 c1 c2 c3 c4 c5;obtain⟨y,rP⟩ :=ν ((iV d count last).L)
 have dy:∀(B:Option Addr) (i:Nat),(∀k,ai B=some k->c k=i)->i≠3->∀ad,B=some ad->¬foot M.Aw M.gw ad.block:=λB i hB hi ad e a=>by
  have o:=hB ad.block (by rw[e];rfl);have n:=r.out.cw _ a;omega
 have tL:=r.out.raw.rd.pre (j:=N) (by have o:=r.out.raw.1;have n:=b.out;omega);have jF:=r.out.tok.rd.pre (j:=count) (by have o:=r.out.tok.1;have n:=b.out;omega);have E:∀t∈d.aj.take count,0<=t.lit/\t.lit<256:=λt ht=>b.out.2.2.1 t (aH ht);have G:∀x∈d.raw.take N,0<=x/\x<256:=λx hx=>b.out.2.2.2.1 x (aH hx);obtain⟨k0,k1,V⟩ :=Fu (lev:=d.lev) (l:=d.aj.take count) (λt ht=>b.out.2.1 t (aH ht)) E b.out.2.2.2.2.2.1;rw[b.out.2.2.2.2.2.2.2.2]at V
 have K:y=lu (pQ d.lev (d.aj.take count)) (if d.lev<=0 then [] else d.aj.take count) (d.raw.take N) last d.L:=by
  rw[<-rP,<-b.out.2.2.2.2.2.2.2.2];rfl
 have z:∀W,kv w1 W b0 M.gw M.Aw y->∃Aw nw cw,ed w c W b0 g { M with Aw:=Aw,nw:=nw,cw:=cw } { d with L:=y } done:=λW hb=>by
  obtain⟨⟨A',n',c',q1,q2⟩,q3⟩ :=hb
  exact⟨A',n',c',(b.out.1.refl.keeps Es.out).writer q3 q1 λk a=>by
   rcases a with a | a
   · exact .inl (.inl a)
   rcases q2 k a with h | h
   · exact .inl (.inr h)
   exact .inr h⟩
 have ao:Hid (d.lev<=0->Calls Tryz.prog 65 #[.pointer (some ⟨M.gw,0,none⟩), .int .i64 0, .slice none 0 0, .slice M.Ar N N, .bool last] w1 λe w'=>e= .returned (.bool true)/\kv w1 w' b0 M.gw M.Aw y):=λA=>by
  have hz:=k0 A;rw[ae A]at V K;rw[hz]at V K;rw[K];exact Ej w1 b0 M.gw M.nw M.cw M.Aw _ r.out.Rb 0 none 0 0 [] ⟨rfl,λh=>absurd h δ⟩ δ (λh=>absurd h δ) (λt ht=>by simp at ht) M.Ar N N (d.raw.take N) tL (λ_=>dy M.Ar 4 r.out.cr δ) G last V b.out.2.2.2.2.2.2.2.1
 have an:Hid (¬d.lev<=0->Calls Tryz.prog 66 #[.pointer (some ⟨M.gw,0,none⟩), .slice M.At count count, .slice M.Ar N N, .bool last] w1 λe w'=>(∃q:Int,e= .returned (.int .i64 q))/\kv w1 w' b0 M.gw M.Aw y):=λA=>by
  rw[aa A]at K;have a:pQ d.lev (d.aj.take count)=(iO (oa (d.aj.take count) N) 3).1:=by unfold pQ;rw[aa A,b.out.2.2.2.2.2.2.2.2]
  rw[a]at K k1;refine(Kv w1 b0 M.gw M.nw M.cw M.Aw _ r.out.Rb M.At count count (d.aj.take count) jF ω (λ_=>dy M.At 5 r.out.ct δ) E M.Ar N N (d.raw.take N) tL (λ_=>dy M.Ar 4 r.out.cr δ) G last b.out.2.2.2.2.2.2.2.1).mono λe w' hp=> ?_;obtain⟨o,n⟩ :=hp;refine⟨⟨_,o⟩, ?_⟩;rcases n with ⟨h3,_⟩ | ⟨_,h3⟩
  · omega
  rw[K];exact h3
 have a1F:=η z;have Eu:=η rP;clear dy tL jF E G k0 k1 V K z rP
 go_upto_if 29 with fail
 go_cut [] (λwx=>Hid (∃Aw nw cw,ed w c wx b0 g { M with Aw:=Aw,nw:=nw,cw:=cw } { d with L:=y } done))
 case first=>
  by_cases A:d.lev<=0
  · have HX:=η (ao.out A)
    go_wp2_with fail;refine HX.out.mono ?_;rintro e w2 ⟨rfl,n⟩;have s:=η (a1F.out _ n);clear n
    go_wp2_with fail;go_meet;exact s.out
  have HX:=η (an.out ω);have bo:decide (d.lev<=0)=false:=by simpa using A
  go_wp2_with fail;refine HX.out.mono ?_;rintro e w2 ⟨⟨q,rfl⟩,n⟩;have s:=η (a1F.out _ n);clear n
  go_wp2_with fail;go_meet;exact s.out
 obtain⟨Aw,nw,cw,cc,O,ac⟩ :=hcut.out
 have CC:N<=M.nr/\M.nr<=M.cr/\M.nr<=900000000000:=by
  have o:=O.raw.1;have n:=O.raw.2.jD;have h3:=b.out;have h4:M.nr=d.raw.length:=o;exact⟨ω,n,by have:=h3.2.2.2.2.2.2.2.2;have:=OC.out;omega⟩
 have H:=(aw wc.heap.size wc).alloc (ag _) (.cells #[] 5);obtain⟨f0,f1,f2,f3,f4,f5⟩ :=(O.keeps H).cells;have be:=dc (P:=Tryz.prog) 22 5 Tryz.underlying22 Q.out.1 Q.out.2.2.1 M.Ar M.nr M.cr CC.1;have RN:bU .u8 (wc.alloc (.cells #[] 5)) wc.heap.size (dx M.Ar M.cr N) (M.nr-N) (d.raw.drop N):=((O.raw.rd.dx (j:=N) CC.1 CC.2.1).below H);have s:=η (⟨O,ac⟩ :_/\_);have bl:(N:Int)<=(M.nr:Int):=ω;clear hcut O ac ao an a1F ap d0 d1 d2 d3 d4 d5 Qa Fj H
 go_upto_region 7 with (at_builtin;(refine ba .u8 wc.heap.size 5 i1 1 rfl (.tmp 46) (.tmp 52) _ rfl Tryz.underlying22 Q.out.1 Q.out.2.1 Q.out.2.2.1 Q.out.2.2.2 rfl (aW.lit rfl [] _ (ag _) σ) rfl RN ξ ω σ ?_)
                        intro A2 q2 w2 jt ab kO;simp only [List.nil_append,Nat.zero_add]at jt;have I:Below wc.heap.size wc w2:=((aw wc.heap.size wc).alloc (ag _) _).grown ab σ (by simp [ai]);have v:=s.out.1.keeps I;have y3:=v.cell.cell (i:=3) ω;have z3:=v.cell.frozen' (i:=3) ω)
 have oL:g<wc.heap.size:=s.out.1.cell.lt;have tR:∀k,ai A2=some k->wc.heap.size<=k:=λk a=>(jt.2.lt a).1;have u:bj wc (w2.setCell ⟨g,3,none⟩ (.slice A2 (M.nr-N) q2)) (λk=>k=g\/ai M.Ar=some k):=(bj.bA I).setCell (.inl (.inl rfl)) _
 have gg:Ar (w2.setCell ⟨g,3,none⟩ (.slice A2 (M.nr-N) q2)) g 6 (eF { M with Aw:=Aw,nw:=nw,cw:=cw,Ar:=A2,nr:=M.nr-N,cr:=q2 } d.lev done):=(v.cell.bC (i:=3) ω _).congr (λj hj=>by
  obtain rfl | rfl | rfl | rfl | rfl | rfl:j=0\/j=1\/j=2\/j=3\/j=4\/j=5:=ω;all_goals rfl)
 have m:aW .u8 (w2.setCell ⟨g,3,none⟩ (.slice A2 (M.nr-N) q2)) b0 5 A2 (M.nr-N) q2 (d.raw.drop N):=(jt.far (p:= ⟨g,3,none⟩) (λe=>by have:=tR g e;omega) _).more s.out.1.lo;have hS:ed w c wc b0 g { M with Aw:=Aw,nw:=nw,cw:=cw } { d with L:=y } done:= ⟨cc,s.out.1,s.out.2⟩;obtain⟨c3,C,F⟩ :=hS.Wa u gg m (λk a=> .inr (tR k a));obtain⟨f,D⟩ :=ν (w2.setCell ⟨g,3,none⟩ (.slice A2 (M.nr-N) q2));rw[D]at C F;rw[D]
 have mL:count<=M.nt/\M.nt<=M.ct:=by
  have o:M.nt=d.aj.length:=C.tok.1;exact⟨by have:=b.out;omega,C.tok.2.jD⟩
 have ZE:M.nt<=1000000000:=by have o:M.nt=d.aj.length:=C.tok.1;have:=bi.out;omega
 have H:=(aw f.heap.size f).alloc (ag _) (.cells #[] 109);have bs:=(C.keeps H).cells.2.2.2.2.1;have aE:=yP (P:=Tryz.prog) 65 109 Tryz.underlying65 Hi.out.1 Hi.out.2.2.1 M.At M.nt M.ct mL.1;have UR:lV (f.alloc (.cells #[] 109)) f.heap.size (if M.ct=count then M.At else M.At.map (·.add (count*3))) (M.nt-count) (d.aj.drop count):=((C.tok.rd.from_ (j:=count) mL.1 mL.2).below H);have H4:=η (⟨C,F⟩ :_/\_);have Q0:(count:Int)<=(M.nt:Int):=ω;obtain⟨AT,am⟩ :=ν ((if M.ct=count then M.At else M.At.map (·.add (count*3))));rw[am]at aE UR;clear oL tR u gg m hS D jt ab kO I v y3 z3 be RN f0 f1 f2 f3 f4 f5 C F s H am
 go_wp2_with (at_builtin;(refine mY f.heap.size i0 rfl (.tmp 57) (.tmp 63) rfl Hi.out.1 Hi.out.2.1 Hi.out.2.2.1 Hi.out.2.2.2 rfl (jW.b0E f _ (ag _)) rfl UR ω σ ?_)
              intro R q5 w5 jL om jA;simp only [List.nil_append,Nat.zero_add]at jL;have kY:Below f.heap.size f w5:=((aw f.heap.size f).alloc (ag _) _).grown om σ (by simp [ai]);have Rw:=H4.out.1.keeps kY;have y4:=Rw.cell.cell (i:=4) ω;have z4:=Rw.cell.frozen' (i:=4) ω)
 have oL:g<f.heap.size:=H4.out.1.cell.lt;have ri:∀k,ai R=some k->f.heap.size<=k:=λk a=>(jL.2.lt a).1;have u:bj f (w5.setCell ⟨g,4,none⟩ (.slice R (M.nt-count) q5)) (λk=>k=g\/ai M.At=some k):=(bj.bA kY).setCell (.inl (.inl rfl)) _
 have gg:Ar (w5.setCell ⟨g,4,none⟩ (.slice R (M.nt-count) q5)) g 6 (eF { M with Aw:=Aw,nw:=nw,cw:=cw,Ar:=A2,nr:=M.nr-N,cr:=q2,At:=R,nt:=M.nt-count,ct:=q5 } d.lev done):=(Rw.cell.bC (i:=4) ω _).congr (λj hj=>by
  obtain rfl | rfl | rfl | rfl | rfl | rfl:j=0\/j=1\/j=2\/j=3\/j=4\/j=5:=ω;all_goals rfl)
 have m:jW (w5.setCell ⟨g,4,none⟩ (.slice R (M.nt-count) q5)) b0 R (M.nt-count) q5 (d.aj.drop count):= ⟨jL.1,(jL.2.far (p:= ⟨g,4,none⟩) (λe=>by have:=ri g e;omega) _).more H4.out.1.lo⟩;have hS:ed w c f b0 g { M with Aw:=Aw,nw:=nw,cw:=cw,Ar:=A2,nr:=M.nr-N,cr:=q2 } { d with L:=y,raw:=d.raw.drop N } done:= ⟨c3,H4.out.1,H4.out.2⟩;have hF:=hS.tokens u gg m (λk a=> .inr (ri k a));have he:iV d count last={ d with L:=y,raw:=d.raw.drop N,aj:=d.aj.drop count }:=by rw[<-Eu.out,<-b.out.2.2.2.2.2.2.2.2];rfl
 rw[he];go_end0;exact⟨rfl,_,hF⟩
section
variable {X P:List Int} {d:kK} {K:Nat}
structure En (d:kK):Prop where
 snd:∀t∈d.aj,cC t
 lit:∀t∈d.aj,0<=t.lit/\t.lit<256
 jU:∀x∈d.raw,0<=x/\x<256
 nt:d.aj.length<=16777216
 nr:d.raw.length<=16777216
 first:∀count,bQ (d.aj.take count)<=d.raw.length
 full:0<bR d.aj->16384<=bQ (d.aj.take (bR d.aj))/\bQ (d.aj.take (bR d.aj))<=65535
 Tv:d.f.Ok d.f.at_
 nD:d.f.D.length<=16777216
 fby:∀x∈d.f.D,0<=x/\x<256
theorem oV.facts (h:oV X P d):En d:=by
 obtain⟨all,kinds,stops,fS,pre,h⟩ :=h;have e:all.length+d.raw.length=X.length:=by rw[<-af,h.XG]
 have b:=h.big;have f:=II h.sound;have c:=(h.first d.aj.length).2;rw[ay (ag _)]at c;exact⟨h.sound,h.lit,λx a=>h.jU x (by rw[<-h.XG];exact bu _ a),ω,ω,λcount=>(h.first count).2,λhf=>by have:=KY h hf;omega,h.Tv,by rw[h.fd];exact b,by rw[h.fd];exact h.jU⟩
def DB (K:Nat) (X P:List Int) (d:kK):Prop:=oV X P d/\d.L.length+100*d.raw.length<=K
theorem DB.lay (h:DB K X P d) (hf:0<bR d.aj):DB K X P (iV d (bR d.aj) false):=by
 refine⟨h.1.lay hf, ?_⟩;have hF:=h.1.facts;obtain⟨all,kinds,stops,fS,pre,a⟩ :=h.1;have b:=B3 a (bR d.aj) false (hF.full hf).2;have c:(iV d (bR d.aj) false).raw.length=d.raw.length-bQ (d.aj.take (bR d.aj)):=av;have f:=h.2;have e:=hF.first (bR d.aj)
 have h4:=hF.full hf;omega
theorem DB.more (h:DB K X P d) {a:Nat} (b:K<=a):DB a X P d:= ⟨h.1,au h.2 b⟩
theorem DB.size (h:DB K X P d):d.L.length<=K:=by have:=h.2;omega
theorem oV.grow (h:oV X P d) (x:List Int) (b:(X++x).length<=16777216) (a:∀v∈x,0<=v/\v<256):oV (X++x) P { d with raw:=d.raw++x,f:=jo d.f x }:=by
 obtain⟨all,kinds,stops,fS,pre,h⟩ :=h;exact⟨_,_,_,_,_,h.grow x b a⟩
theorem oV.aj (h:oV X P d) (left:Nat):oV X P (jJ left d):=by
 obtain⟨all,kinds,stops,fS,pre,h⟩ :=h;exact⟨_,_,_,_,_,(h.jJ left).1⟩
theorem DB.grow (h:DB K X P d) (x:List Int) (b:(X++x).length<=16777216) (a:∀v∈x,0<=v/\v<256):DB (K+100*x.length) (X++x) P { d with raw:=d.raw++x,f:=jo d.f x }:=
 ⟨h.1.grow x b a,by have:=h.2;show d.L.length+100*(d.raw++x).length<=_;rw[af];omega⟩
theorem DB.aj (h:DB K X P d) (left:Nat):DB K X P (jJ left d):= ⟨h.1.aj left,h.2⟩
theorem DB.drain (h:DB K X P d) (k:Nat):DB K X P (lK k d):=zO (λ_ q hf=>q.lay hf) k d h
theorem DB.fD (h:DB K X P d) (k:Nat):DB K X P (fD k d):=qu (λ_ q hf=>q.lay hf) k d h
theorem DB.chunk (h:DB K X P d) {x:List Int} (b:(X++x).length<=16777216) (a:∀v∈x,0<=v/\v<256):DB (K+100*x.length) (X++x) P (uf d x):=((h.grow x b a).aj 261).drain _
theorem DB.write:∀(k:Nat) {K:Nat} {X:List Int} {d:kK} (b:List Int),DB K X P d->b.length<=k->(X++b).length<=16777216->(∀v∈b,0<=v/\v<256)->DB (K+100*b.length) (X++b) P (iG k d b)
 | 0,K,X,d,b,h,hk,_,_=>by
   have:b=[]:=aC ω;subst this;rw[ax];exact h
 | k+1,K,X,d,b,h,hk,hl,hb=>by
   unfold iG;split
   · rename_i c
     rw[af]at hl
     have a:=DB.write k (b.drop (min b.length 16384)) (h.chunk (x:=b.take (min b.length 16384)) (by rw[af,aA];omega) λv hv=>hb v (aH hv)) (by rw[av];omega)
      (by rw[ak,aM,af];exact hl) λv hv=>hb v (aX hv)
     rw[ak,aM,aA,av]at a;exact a.more ω
   have:b=[]:=aC ω;subst this;rw[ax];exact h
theorem DB.rest (h:DB K X P d):DB K X P (eK d):=(h.aj 0).fD _
theorem DB.new (lev:Int):DB 0 [] [] (Bc lev):= ⟨⟨_,_,_,_,_,tO.new lev⟩,ag _⟩
theorem Hl (d:kK):lK d.aj.length d=if 0<bR d.aj then lK (iV d (bR d.aj) false).aj.length (iV d (bR d.aj) false)else d:=by
 have c:∀(k:Nat) (d:kK),d.aj.length<=k->∀j,lK (k+j) d=lK k d:=λk=>by
  induction k with
  | zero=>
    intro d hd j;have a:bR d.aj=0:=by have:=lO d.aj;omega
    cases j with
    | zero=>rfl
    | succ j=>show(if 0<bR d.aj then _ else d)=d;rw[aa ω]
  | succ k b=>
    intro d hd j;rw[show k+1+j=(k+j)+1 by omega];show(if 0<bR d.aj then lK (k+j) _ else d)=(if 0<bR d.aj then lK k _ else d);split
    · exact b _ (by show(d.aj.drop _).length<=k;rw[av];omega) j
    rfl
 by_cases a:0<bR d.aj
 · rw[ae a];have e:=lO d.aj;obtain⟨k,f⟩ :∃k,d.aj.length=k+1:= ⟨d.aj.length-1,ω⟩;have g:(iV d (bR d.aj) false).aj.length=d.aj.length-bR d.aj:=av;rw[f];show(if 0<bR d.aj then lK k _ else d)=_;rw[ae a];have:=c (iV d (bR d.aj) false).aj.length (iV d (bR d.aj) false) (ag _) (k-(iV d (bR d.aj) false).aj.length);rw[gO ω]at this;exact this
 rw[aa a];cases d.aj.length with
 | zero=>rfl
 | succ k=>show(if 0<bR d.aj then _ else d)=d;rw[aa a]
theorem Hm (d:kK):fD d.aj.length d=if 0<bR d.aj/\bR d.aj<d.aj.length then fD (iV d (bR d.aj) false).aj.length (iV d (bR d.aj) false)else d:=by
 have c:∀(k:Nat) (d:kK),d.aj.length<=k->∀j,fD (k+j) d=fD k d:=λk=>by
  induction k with
  | zero=>
    intro d hd j;have a:bR d.aj=0:=by have:=lO d.aj;omega
    cases j with
    | zero=>rfl
    | succ j=>show(if 0<bR d.aj/\_ then _ else d)=d;rw[aa ω]
  | succ k b=>
    intro d hd j;rw[show k+1+j=(k+j)+1 by omega];show(if 0<bR d.aj/\bR d.aj<d.aj.length then fD (k+j) _ else d)=(if 0<bR d.aj/\bR d.aj<d.aj.length then fD k _ else d);split
    · exact b _ (by show(d.aj.drop _).length<=k;rw[av];omega) j
    rfl
 by_cases a:0<bR d.aj/\bR d.aj<d.aj.length
 · rw[ae a];have f:=lO d.aj;obtain⟨k,g⟩ :∃k,d.aj.length=k+1:= ⟨d.aj.length-1,ω⟩;have i:(iV d (bR d.aj) false).aj.length=d.aj.length-bR d.aj:=av
   have e:fD (k+1) d=fD k (iV d (bR d.aj) false):=by
    show(if 0<bR d.aj/\bR d.aj<d.aj.length then fD k _ else d)=_;rw[ae a]
   rw[g,e];have:=c (iV d (bR d.aj) false).aj.length (iV d (bR d.aj) false) (ag _) (k-(iV d (bR d.aj) false).aj.length);rw[gO ω]at this;exact this
 rw[aa a];cases h:d.aj.length with
 | zero=>rfl
 | succ k=>show(if 0<bR d.aj/\bR d.aj<d.aj.length then _ else d)=d;rw[aa a]
theorem JL (d:kK) (b:List Int):iG b.length d b=if 0<b.length then iG (b.drop (min b.length 16384)).length (uf d (b.take (min b.length 16384))) (b.drop (min b.length 16384))else d:=by
 have f:∀(k:Nat) (b:List Int) (d:kK),b.length<=k->∀j,iG (k+j) d b=iG k d b:=λk=>by
  induction k with
  | zero=>
    intro b d hd j;cases j with
    | zero=>rfl
    | succ j=>show(if 0<b.length then _ else d)=d;rw[aa ω]
  | succ k c=>
    intro b d hd j;rw[show k+1+j=(k+j)+1 by omega];show(if 0<b.length then iG (k+j) _ _ else d)=(if 0<b.length then iG k _ _ else d);split
    · exact c _ _ (by rw[av];omega) j
    rfl
 by_cases a:0<b.length
 · rw[ae a];obtain⟨k,g⟩ :∃k,b.length=k+1:= ⟨b.length-1,ω⟩;have i:(b.drop (min b.length 16384)).length=b.length-min b.length 16384:=av
   have e:iG (k+1) d b=iG k (uf d (b.take (min b.length 16384))) (b.drop (min b.length 16384)):=by
    show(if 0<b.length then iG k _ _ else d)=_;rw[ae a]
   rw[show iG b.length d b=iG (k+1) d b by rw[g],e];have:=f (b.drop (min b.length 16384)).length (b.drop (min b.length 16384)) (uf d (b.take (min b.length 16384))) (ag _) (k-(b.drop (min b.length 16384)).length);rw[gO ω]at this;exact this
 rw[aa a];cases h:b.length with
 | zero=>rfl
 | succ k=>omega
end
section
variable {w w' w0:World} {b0 g:Nat} {c c0 c':Nat->Nat} {M M':EM} {d d':kK} {done done':Bool}
theorem DE.trans (h:DE b0 w0 c0 w c) (b:DE b0 w c w' c'):DE b0 w0 c0 w' c':=
 ⟨h.1.trans b.1,h.2.1.trans b.2.1 (λk a=>by
   rcases aZ k w0.heap.size with d | d
   · exact .inl (by rw[<-h.2.2 k d];exact a)
   exact .inr d),λk a=>(b.2.2 k (aD a h.2.1.size)).trans (h.2.2 k a)⟩
theorem ed.Ed {a:EM} (h:DE b0 w0 c0 w c) (d:ed w c w' b0 g a d' done'):ed w0 c0 w' b0 g a d' done':=by
 obtain⟨c2,b,h4⟩ :=d;exact⟨c2,b,h.trans h4⟩
end
section
variable {w w' w0:World} {b0 g:Nat} {c c0:Nat->Nat} {M:EM} {d:kK} {done:Bool}
theorem JE {left:Nat} {l:List cu} {st':ja} (hF:En d) (a:yQ (gP d.lev) left d.f l st') (b:st'.D.length-st'.at_<=left):jJ left d={ d with f:=st',aj:=d.aj++l }/\l.length<=16777216:=by
 have h:=JA (e:=gP d.lev) (left:=left) (d.f.D.length-d.f.at_) a b hF.Tv (ag _);unfold jJ;rw[h];refine⟨rfl, ?_⟩;obtain⟨g,c,i,h4⟩ :=FY a hF.Tv;have h5:=g.hi;have h6:=hF.nD;rw[<-c]at h6;omega
theorem ic.app {b n:World} {a:Option Addr} {m h:Nat} {l:List cu} (h5:ic b b0 g c M d done) (u:jW n b0 a (M.nt+m) h (d.aj++l)) (v:b.grownBy n (ai M.At)) (o:ai a=ai M.At\/ai a=some b.heap.size):
  ed b c (n.setCell ⟨g,4,none⟩ (.slice a (M.nt+m) h)) b0 g { M with At:=a,nt:=M.nt+m,ct:=h } { d with aj:=d.aj++l } done:=by
 have t:ai a≠some g:=λe=>by
  rcases o with q | q
  · have y:=h5.ct g (by rw[<-q,e]);have x:=h5.cg;omega
  rw[e]at q;injection q with q;have:=h5.cell.lt;omega
 have r:some g≠ai M.At:=λe=>by have y:=h5.ct g e.symm;have x:=h5.cg;omega
 have s:bj b (n.setCell ⟨g,4,none⟩ (.slice a (M.nt+m) h)) (λk=>k=g\/ai M.At=some k):=((bj.refl b _).grown v (λk f=> .inl (.inr f))).setCell (.inl (.inl rfl)) _
 have w:Ar (n.setCell ⟨g,4,none⟩ (.slice a (M.nt+m) h)) g 6 (eF { M with At:=a,nt:=M.nt+m,ct:=h } d.lev done):=((h5.cell.grown v r).bC (i:=4) ω _).congr (λj z=>by
  obtain rfl | rfl | rfl | rfl | rfl | rfl:j=0\/j=1\/j=2\/j=3\/j=4\/j=5:=ω;all_goals rfl)
 exact h5.refl.tokens s w ⟨u.1,u.2.far (p:= ⟨g,4,none⟩) (λe=>t e) _⟩ (λk f=>by
  rcases o with e | e
  · exact .inl (e▸f)
  rw[e]at f;injection f with f;exact .inr ω)
theorem ed.full (h:ed w0 c0 w b0 g M d done) (hF:En d):Calls Tryz.prog 42 #[.pointer (some ⟨g,0,none⟩)] w λe w'=>e= .returned (.int .i64 ((bR d.aj:Nat):Int))/\ed w0 c0 w' b0 g M d done:=by
 obtain⟨c,a,b⟩ :=h;have f:M.nt=d.aj.length:=a.tok.1;exact(Pd w g M.At M.nt M.ct d.aj a.cells.2.2.2.2.1 a.tok.rd (by have:=hF.nt;omega) hF.snd).mono λe w' hp=> ⟨hp.1,ed.keeps ⟨c,a,b⟩ hp.2⟩
theorem ed.lay (h:ed w0 c0 w b0 g M d done) (hF:En d) (f:d.L.length<=2000000000000) (count:Nat) (b:count<=d.aj.length) (a:bQ (d.aj.take count)<=65535) (last:Bool):
  Calls Tryz.prog 43 #[.pointer (some ⟨g,0,none⟩), .int .i64 count, .bool last] w λe w'=>e= .returned (.tuple #[])/\∃M',ed w0 c0 w' b0 g M' (iV d count last) done:=by
 obtain⟨c,j,i⟩ :=h;exact(a01 w b0 g c M d done j hF.snd hF.lit hF.jU count b a (hF.first count) f (by have:=hF.nt;omega) (by have:=hF.nr;omega) last).mono λe w' hp=> ⟨hp.1,by obtain⟨M',hp⟩ :=hp.2;exact⟨M',ed.Ed i hp⟩⟩
theorem ed.cells (h:ed w0 c0 w b0 g M d done):w.cell? ⟨g,0,none⟩ =some (.pointer (some ⟨M.gf,0,none⟩))/\w.cell? ⟨g,1,none⟩ =some (.pointer (some ⟨M.gw,0,none⟩))/\w.cell? ⟨g,2,none⟩ =some (.int .i64 d.lev)/\w.cell? ⟨g,3,none⟩ =some (.slice M.Ar M.nr M.cr)/\w.cell? ⟨g,4,none⟩ =some (.slice M.At M.nt M.ct)/\w.cell? ⟨g,5,none⟩ =some (.bool done):=by
 obtain⟨c,a,b⟩ :=h;exact a.cells
theorem ed.nt (h:ed w0 c0 w b0 g M d done):M.nt=d.aj.length:=by
 obtain⟨c,a,b⟩ :=h;exact a.tok.1
end
def Y1 (w:World) (c:Nat->Nat) (b0 g:Nat) (done:Bool) (K:Nat) (X P:List Int) (D:kK) (gk:Nat) (v:Value) (wx:World):Prop:=∃M' d',v= .int .i64 ((bR d'.aj:Nat):Int)/\ed w c wx b0 g M' d' done/\DB K X P d'/\fD d'.aj.length d'=D/\gk=d'.aj.length
theorem Wb (w:World) (b0 g:Nat) (c:Nat->Nat) (M:EM) (d:kK) (done:Bool) (h:ic w b0 g c M d done) {K:Nat} {X P:List Int} (hB:DB K X P d) (hK:K<=2000000000000):
  Calls Tryz.prog 45 #[.pointer (some ⟨g,0,none⟩)] w λe w'=>e= .returned (.tuple #[])/\∃M',ed w c w' b0 g M' (eK d) done:=by
 obtain⟨i0,hi,u,t,s⟩ :=aJ wV;have Hi:=η (⟨hi,u,t,s⟩ :_/\_/\_/\_);obtain⟨c0,c1,c2,c3,c4,c5⟩ :=h.cells;obtain⟨nm,Dm,hf⟩ :=h.fnd;have ac:=η (y7 true (hf.keeps (aw _ _).drew));have I:=η (⟨h,hB,hK,hB.1.facts⟩ :_/\_/\_/\_);clear hi u t s hf h hB hK c1 c2 c3 c5;go_enter Tryz.func45,Tryz.ntmps45
 go_wp2_with fail
 go_region_law
  (first
    | (go_simp;go_at_call 41;(refine ac.out.mono ?_)
       rintro e w5 ⟨l,st',At,nt,ct,rfl,m,v,J,y,z⟩;have Uk:bj w w5 (FF M.A M.gm M.Ap M.gf):=((bj.refl w _).drew).trans z (λk T=> .inl T);have h5:ed w c w5 b0 g M { d with f:=st' } done:=I.out.1.refl.zT Uk y (λk T=> .inl T);have S:=η (JE I.out.2.2.2 m v);clear m v y z Uk;obtain⟨c5,h5,yZ⟩ :=h5;have e4:=h5.cells.2.2.2.2.1)
    | (have _g:=J;(refine E0 b0 i0 rfl (.tmp 7) (.tmp 12) rfl Hi.out.1 Hi.out.2.1 Hi.out.2.2.1 Hi.out.2.2.2 rfl h5.tok rfl J.rd (by have h1:=h5.tok.1;have h2:=I.out.2.2.2.nt;have h3:=J.1;have h4:=S.out.2;have h6:M.nt=d.aj.length:=h1;omega) h5.lo ?_)
       intro A6 c6 w6 kQ U iF;have Z:=h5.cell.grown U (λe=>by have h1:=h5.ct g e.symm;have h2:=h5.cg;omega);have ab:=Z.cell (i:=4) ω;have R:=Z.frozen' (i:=4) ω))
 all_goals
  have h6:=ed.Ed yZ (h5.app kQ U iF);have C:=S.out.1;have b:=I.out.2.1.aj 0;have L:fD (jJ 0 d).aj.length (jJ 0 d)=eK d:=rfl;have B:jJ 0 d={ d with f:=st',aj:=d.aj++l }:=C;rw[B]at b L;have h7:ed w c (w6.setCell ⟨g,4,none⟩ (.slice A6 (M.nt+nt) c6)) b0 g { M with At:=A6,nt:=M.nt+nt,ct:=c6 } { d with f:=st',aj:=d.aj++l } done:=h6;clear h6 C B S J h5 yZ e4 kQ U iF Z ab R;obtain⟨W,hW⟩ :=ν (w6.setCell ⟨g,4,none⟩ (.slice A6 (M.nt+nt) c6));obtain⟨d2,Y⟩ :∃d2,({ d with f:=st',aj:=d.aj++l }:kK)=d2:= ⟨_,rfl⟩;rw[hW,Y]at h7;rw[Y]at b L;rw[hW];clear hW Y;have j:=η (h7.full b.1.facts);have H:=η (⟨b,L⟩ :_/\_);clear h7 b L
  go_wp2_with fail;refine j.out.mono ?_;rintro e w8 ⟨rfl,h8⟩;have Q:=η h8;clear h8
  go_wp2_with fail;go_loopg [2] d2.aj.length (Y1 w c b0 g done K X P (eK d))
  case atStart=>exact⟨_,_,rfl,Q.out,H.out.1,H.out.2,rfl⟩
  obtain⟨M',d',rfl,p,r,n,o⟩ :=hrel;have G:=p.cells.2.2.2.2.1;rw[p.nt]at G;have q:=r.1.facts;obtain⟨F,hF⟩ :=ν (bR d'.aj);obtain⟨N,hN⟩ :=ν (d'.aj.length);rw[hN]at G;have am:N<=16777216:=by have:=q.nt;omega
  have YJ:=lO d'.aj;have an:(0:Int)<=(F:Int)/\(F:Int)<=16777216/\(N:Int)<=16777216:=ω;rw[Hm]at n;by_cases a:0<F/\F<N
  · have x:(0:Int)<(F:Int)/\(F:Int)<(N:Int)/\0<F/\F<N:=ω;rw[hF,hN,ae a]at n;have ad:=η (p.lay q (by have:=r.size;have:=I.out.2.2.1;omega) F ω (by rw[<-hF];exact(q.full ω).2) false);have L6:=r.lay ω;rw[hF]at L6⊢;have PO:(iV d' F false).aj.length<gk:=by rw[show(iV d' F false).aj.length=d'.aj.length-F from av];omega
    have O:=η (⟨L6,n,PO⟩ :_/\_/\_);clear a hF hN YJ n p r L6 PO o q H Q j
    go_wp2_with fail;refine ad.out.mono ?_;rintro e JI ⟨rfl,ao,E⟩;have ah:=η (E.full O.out.1.1.facts);clear E
    go_wp2_with fail;refine ah.out.mono ?_;rintro e al ⟨rfl,D⟩;have XN:=η D;clear D
    go_wp2_with fail;go_roundg (iV d' F false).aj.length
    case measure=>exact O.out.2.2
    case rel=>exact⟨_,_,rfl,XN.out,O.out.1,O.out.2.1,rfl⟩
  rw[hF,hN,aa a]at n;have V:∃M',ed w c wr b0 g M' (eK d) done:= ⟨M',by rw[<-n];exact p⟩;have Oz:=η V;rw[hF];by_cases h0:0<F
  · have x:(0:Int)<(F:Int)/\¬(F:Int)<(N:Int)/\0<F/\¬F<N:=ω;clear a hF hN YJ n p r o q H Q j V
    go_wp2_with fail;go_end0;exact⟨rfl,Oz.out⟩
  have x:¬(0:Int)<(F:Int)/\¬0<F:=ω;clear a hF hN YJ n p r o q H Q j V
  go_wp2_with fail;go_end0;exact⟨rfl,Oz.out⟩
section
variable {w w' w0:World} {b0 g:Nat} {c c0:Nat->Nat} {M:EM} {d:kK} {done:Bool}
theorem ic.a8v {h:World} {a:Option Addr} {m f:Nat} {l:List Int} (h5:ic w b0 g c M d done) (u:aW .u8 h b0 5 a (M.nr+m) f (d.raw++l)) (t:w.grownBy h (ai M.Ar)) (n:ai a=ai M.Ar\/ai a=some w.heap.size):
  ed w c (h.setCell ⟨g,3,none⟩ (.slice a (M.nr+m) f)) b0 g { M with Ar:=a,nr:=M.nr+m,cr:=f } { d with raw:=d.raw++l } done:=by
 have s:ai a≠some g:=λe=>by
  rcases n with o | o
  · have y:=h5.cr g (by rw[<-o,e]);have x:=h5.cg;omega
  rw[e]at o;injection o with o;have:=h5.cell.lt;omega
 have q:some g≠ai M.Ar:=λe=>by have y:=h5.cr g e.symm;have x:=h5.cg;omega
 have r:bj w (h.setCell ⟨g,3,none⟩ (.slice a (M.nr+m) f)) (λk=>k=g\/ai M.Ar=some k):=((bj.refl w _).grown t (λk b=> .inl (.inr b))).setCell (.inl (.inl rfl)) _
 have v:Ar (h.setCell ⟨g,3,none⟩ (.slice a (M.nr+m) f)) g 6 (eF { M with Ar:=a,nr:=M.nr+m,cr:=f } d.lev done):=((h5.cell.grown t q).bC (i:=3) ω _).congr (λj z=>by
  obtain rfl | rfl | rfl | rfl | rfl | rfl:j=0\/j=1\/j=2\/j=3\/j=4\/j=5:=ω;all_goals rfl)
 exact h5.refl.Wa r v (u.far (p:= ⟨g,3,none⟩) (λe=>s e) _) (λk b=>by
  rcases n with e | e
  · exact .inl (e▸b)
  rw[e]at b;injection b with b;exact .inr ω)
theorem ed.rA (h:ed w0 c0 w b0 g M d done) {k:IntKind} {B n:Nat} {A:Option Addr} {l:List Int} (i:bU k w0 B A n l) (j:B<=w0.heap.size) (b:0<n->∀a,A=some a->c0 a.block=0):bU k w B A n l:=by
 obtain⟨c,p,m⟩ :=h;exact m.2.1.rA i j λo a e f=>f (b o a e)
theorem ed.size (h:ed w0 c0 w b0 g M d done):w0.heap.size<=w.heap.size:=by
 obtain⟨c,b,a⟩ :=h;exact a.2.1.size
theorem KG {A:Option Addr} {c j:Nat} {b:Addr} (h:dx A c j=some b):∃a,A=some a/\b.block=a.block:=by
 unfold dx at h;split at h
 · exact⟨b,h,rfl⟩
 cases A with
 | none=>simp at h
 | some a=>simp at h;exact⟨a,rfl,by rw[<-h,bH]⟩
theorem ic.a2c (h:ic w b0 g c M d done) (hF:d.f.D.length<=16777216) {B m e:Nat} {C:Option Addr} {x:List Int} (i:bU .u8 w B C m x) (j:B<=w.heap.size) (b:∀v∈x,0<=v/\v<256) (p:m<=16777216):
  Calls Tryz.prog 40 #[.pointer (some ⟨M.gf,0,none⟩), .slice C m e] w λr w'=>r= .returned (.tuple #[])/\∃M',ed w c w' b0 g M' { d with f:=jo d.f x } done:=by
 obtain⟨nm,q,hf⟩ :=h.fnd;refine(KZ hf i j b ω).mono ?_;rintro r w' ⟨rfl,A',n',c',Ap',np',cp',a,o,n,l,k⟩;exact⟨rfl,_,h.refl.zT l ⟨a,o,n⟩ k⟩
end
def a1z (w:World) (c:Nat->Nat) (b0 g:Nat) (K:Nat) (X P:List Int) (D:kK) (gk:Nat) (v:Value) (wx:World):Prop:=∃M' d',v= .int .i64 ((bR d'.aj:Nat):Int)/\ed w c wx b0 g M' d' false/\DB K X P d'/\lK d'.aj.length d'=D/\gk=d'.aj.length
def Sw (w:World) (c:Nat->Nat) (b0 g:Nat) (P:List Int) (D:kK) (gk:Nat) (v:Value) (wx:World):Prop:=∃C m e x M' d' K X,v= .slice C m e/\m<=e/\bU .u8 w w.heap.size C m x/\(0<m->∀a,C=some a->c a.block=0)/\(∀v∈x,0<=v/\v<256)/\ed w c wx b0 g M' d' false/\DB K X P d'/\(X++x).length<=16777216/\K+100*m<=2000000000000/\iG x.length d' x=D/\gk=m
theorem KR (w:World) (b0 g:Nat) (c:Nat->Nat) (M:EM) (d:kK) (h:ic w b0 g c M d false) {K:Nat} {X P:List Int} (hB:DB K X P d) (C:Option Addr) (m e:Nat) (x:List Int) (N:bU .u8 w w.heap.size C m x) (Xu:m<=e) (dy:0<m->∀ad,C=some ad->c ad.block=0) (s:∀v∈x,0<=v/\v<256) (Z:(X++x).length<=16777216) (hK:K+100*m<=2000000000000):
  Calls Tryz.prog 25 #[.pointer (some ⟨g,0,none⟩), .slice C m e] w λr w'=>r= .returned (.int .i64 0)/\∃M',ed w c w' b0 g M' (iG m d x) false:=by
 obtain⟨i0,hi,an,am,al⟩ :=aJ wV;have Hi:=η (⟨hi,an,am,al⟩ :_/\_/\_/\_);obtain⟨i1,ki,ah,ac,ab⟩ :=aJ od;have J:=η (⟨ki,ah,ac,ab⟩ :_/\_/\_/\_);obtain⟨c0,c1,c2,c3,c4,c5⟩ :=h.cells;have L:Sw w c b0 g P (iG m d x) m (.slice C m e) w:= ⟨C,m,e,x,M,d,K,X,rfl,Xu,N,dy,s,h.refl,hB,Z,hK,by rw[<-N.1],rfl⟩;clear hi an am al ki ah ac ab h hB hK c0 c1 c2 c3 c4 N Xu dy s Z;obtain⟨D,hD⟩ :=ν (iG m d x);rw[hD]at L⊢;clear hD;go_enter Tryz.func25,Tryz.ntmps25
 go_wp2_with fail;go_loopg [1] m (Sw w c b0 g P D)
 case atStart=>exact L
 clear L c5;obtain⟨C,m,e,x,M',d',K,X,rfl,Xu,N,dy,s,G,Gn,Z,hK,hD,ap⟩ :=hrel;have nH:x.length=m:=N.1.symm;rw[JL]at hD;by_cases h0:0<m
 rotate_left
 · have Gu:¬(0:Int)<(m:Int):=ω;rw[aa ω]at hD;have HF:=η (⟨M',by rw[<-hD];exact G⟩ :∃M',ed w c wr b0 g M' D false);clear h0 hD G
   go_wp2_with fail;go_ret;exact⟨rfl,HF.out⟩
 rw[ae ω]at hD;obtain⟨n,hn⟩ :=ν (min x.length 16384);rw[hn]at hD;have Lx:m<=16777216:=by rw[af]at Z;omega
 have Gu:(0:Int)<(m:Int)/\(m:Int)<=16777216/\(0:Int)<=(n:Int)/\(n:Int)<=(m:Int):=ω;have Ff:n<=m:=ω;have cb:n<=e:=ω;have HN:=η hn;have a:=η (⟨G,Gn,Z,hK,N,dy,s,hD,ap,nH⟩ :_/\_/\_/\_/\_/\_/\_/\_/\_/\_);clear G Gn Z hK N dy s hD ap;rw[nH]at HN;clear hn;go_upto_region 4 with fail
 go_cut [5] (λv5 wx=>v5= .int .i64 n/\wx=wr)
 case first=>
  have cc:m<16384\/m=16384\/16384<m:=ω;rcases cc with hc | hc | hc
  · have V:n=m:=by have:=HN.out;omega
    have JY:(m:Int)<16384/\¬(16384:Int)<(m:Int):=ω;subst V;clear hc
    go_wp2_with fail
    all_goals
     go_meet;exact⟨by go_num,rfl⟩
  · have V:n=m:=by have:=HN.out;omega
    subst V;subst hc
    go_wp2_with fail
    all_goals
     go_meet;exact⟨by go_num,rfl⟩
  have V:n=16384:=by have:=HN.out;omega
  have JY:(16384:Int)<(m:Int)/\¬(m:Int)<16384:=ω;subst V;clear hc
  go_wp2_with fail
  all_goals
   go_meet;exact⟨by go_num,rfl⟩
 case rest=>
 obtain⟨rfl,ca⟩ :=hcut;obtain rfl:=ca.symm;obtain⟨cA,hE,E⟩ :=a.out.1.keeps (aw wr.heap.size wr).drew;have Xz:bU .u8 wr.drew w.heap.size C m x:=ed.rA ⟨cA,hE,E⟩ a.out.2.2.2.2.1 (ag _) a.out.2.2.2.2.2.1;have RO:=Xz.pre Ff;have cm:=dV (P:=Tryz.prog) 22 5 Tryz.underlying22 J.out.1 J.out.2.2.1 C m e (j:=n) cb;have c3:=a.out.1.cells.2.2.2.1;have CC:M'.nr+n<=1000000000000:=by have G:M'.nr=d'.raw.length:=hE.raw.1;have:=a.out.2.1.1.facts.nr;omega
 have cs:=η Xz;clear Xz
 go_wp2_with fail
 go_region_law
  (first
    | ((refine eM .u8 b0 5 i1 1 rfl (.tmp 25) (.tmp 28) _ rfl Tryz.underlying22 J.out.1 J.out.2.1 J.out.2.2.1 J.out.2.2.2 rfl hE.raw rfl RO CC ω hE.lo ?_)
       intro A6 c6 w6 kQ R iF;have T:=hE.cell.grown R (λe=>by have G:=hE.cr g e.symm;have h2:=hE.cg;omega);have ce:=T.cell (i:=3) ω;have bX:=T.frozen' (i:=3) ω))
 all_goals
  have h6:=ed.Ed E (hE.a8v kQ R iF);clear hE E RO c3 CC kQ R iF T ce bX;obtain⟨W,hW⟩ :=ν (w6.setCell ⟨g,3,none⟩ (.slice A6 (M'.nr+n) c6));rw[hW]at h6⊢;clear hW;obtain⟨M6,Ry⟩ :∃q,({ M' with Ar:=A6,nr:=M'.nr+n,cr:=c6 }:EM)=q:= ⟨_,rfl⟩;rw[Ry]at h6;clear Ry;have c0:=h6.cells.1;obtain⟨c7,hE,E⟩ :=h6.keeps (aw W.heap.size W).drew;have RO:bU .u8 W.drew w.heap.size C n (x.take n):=(ed.rA ⟨c7,hE,E⟩ a.out.2.2.2.2.1 (ag _) a.out.2.2.2.2.2.1).pre Ff;have bx:=η (hE.a2c (e:=e) a.out.2.1.1.facts.nD RO (by have:=h6.size;exact this) (λv hv=>a.out.2.2.2.2.2.2.1 v (aH hv)) ω);have bE:=η E;clear h6 hE E RO
  go_wp2_with fail
  go_region_law
   ((go_simp;go_at_call 40;(refine bx.out.mono ?_))
    rintro r w8 ⟨rfl,B,h8⟩)
  all_goals
   have p:=ed.Ed bE.out h8;have u:=a.out.2.1.grow (x.take n) (by have h:=a.out.2.2.1;rw[af]at h⊢;rw[aA];omega) (λv hv=>a.out.2.2.2.2.2.2.1 v (aH hv));obtain⟨z,S⟩ :∃q,({ d' with raw:=d'.raw++x.take n,f:=jo d'.f (x.take n) }:kK)=q:= ⟨_,rfl⟩;have be:lK (jJ 261 z).aj.length (jJ 261 z)=uf d' (x.take n):=by rw[<-S];rfl
   replace p:ed w c w8 b0 g B { d' with raw:=d'.raw++x.take n,f:=jo d'.f (x.take n) } false:=p;rw[S]at p u;have ci:=p.cells.1;have ch:=p.cells.2.2.2.2.1;obtain⟨cB,hE,E⟩ :=p;obtain⟨nm,Dm,hf⟩ :=hE.fnd;have bs:=η (y7 false (hf.keeps (aw _ _).drew));have Y:=η (⟨hE,E,u,be⟩ :_/\_/\_/\_);clear bx bE h8 hE E u be hf S c0
   go_wp2_with fail
   go_region_law
    (first
      | (go_simp;go_at_call 41;(refine bs.out.mono ?_)
         rintro r w5 ⟨l,st',At,nt,ct,rfl,H,ao,ZG,aE,bi⟩;have Uk:bj w8 w5 (FF B.A B.gm B.Ap B.gf):=((bj.refl w8 _).drew).trans bi (λk hk=> .inl hk);have h5:ed w8 cB w5 b0 g B { z with f:=st' } false:=Y.out.1.refl.zT Uk aE (λk hk=> .inl hk);have NN:=η (JE Y.out.2.2.1.1.facts H ao);clear H ao aE bi Uk;obtain⟨c5,h5,yZ⟩ :=h5;have e4:=h5.cells.2.2.2.2.1)
      | (have _g:=ZG;(refine E0 b0 i0 rfl (.tmp 44) (.tmp 49) rfl Hi.out.1 Hi.out.2.1 Hi.out.2.2.1 Hi.out.2.2.2 rfl h5.tok rfl ZG.rd (by have G:=h5.tok.1;have h2:=Y.out.2.2.1.1.facts.nt;have h3:=ZG.1;have h4:=NN.out.2;have h6:B.nt=z.aj.length:=G;omega) h5.lo ?_)
         intro A6 c6 w6 kQ R iF;have T:=h5.cell.grown R (λe=>by have G:=h5.ct g e.symm;have h2:=h5.cg;omega);have cd:=T.cell (i:=4) ω;have bI:=T.frozen' (i:=4) ω))
   all_goals
    have h6:=ed.Ed Y.out.2.1 (ed.Ed yZ (h5.app kQ R iF));have bl:jJ 261 z={ z with f:=st',aj:=z.aj++l }:=NN.out.1;have t:=Y.out.2.2.1.aj 261;have YR:=Y.out.2.2.2;rw[bl]at t YR;have h7:ed w c (w6.setCell ⟨g,4,none⟩ (.slice A6 (B.nt+nt) c6)) b0 g { B with At:=A6,nt:=B.nt+nt,ct:=c6 } { z with f:=st',aj:=z.aj++l } false:=h6;clear h6 bl NN ZG h5 yZ e4 kQ R iF T cd bI ci ch;obtain⟨W2,hW⟩ :=ν (w6.setCell ⟨g,4,none⟩ (.slice A6 (B.nt+nt) c6));obtain⟨d2,sq⟩ :∃d2,({ z with f:=st',aj:=z.aj++l }:kK)=d2:= ⟨_,rfl⟩;rw[hW,sq]at h7;rw[sq]at t YR;rw[hW];clear hW sq;have bB:=η (h7.full t.1.facts);have HX:=η (⟨t,YR⟩ :_/\_);clear h7 t YR Y bs
    go_wp2_with fail;refine bB.out.mono ?_;rintro r JI ⟨rfl,y⟩;have S8:=η y;clear y bB;obtain⟨K2,U⟩ :=ν (K+100*(x.take n).length);rw[U]at HX;have bo:K2+100*(m-n)<=2000000000000:=by rw[<-U,aA];have:=a.out.2.2.2.1;have:=a.out.2.2.2.2.2.2.2.2.2;omega
    have bv:=η bo;clear U bo
    go_wp2_with fail;go_loopg [6] d2.aj.length (a1z w c b0 g K2 (X++x.take n) P (uf d' (x.take n)))
    case atStart=>exact⟨_,_,rfl,S8.out,HX.out.1,HX.out.2,rfl⟩
    obtain⟨M9,o,rfl,p,u,I,Q⟩ :=hrel;have Rx:=u.1.facts;rw[Hl]at I;by_cases b:0<bR o.aj
    rotate_left
    · rw[aa b]at I;have O:¬(0:Int)<((bR o.aj:Nat):Int):=ω;obtain⟨F,hF⟩ :=ν (bR o.aj);rw[hF]at O b⊢;have co:¬(0:Int)<(F:Int)/\¬0<F:= ⟨O,b⟩;rw[I]at p u;have HE:=η (⟨p,u⟩ :_/\_);have cl:=dc (P:=Tryz.prog) 22 5 Tryz.underlying22 J.out.1 J.out.2.2.1 C m e Ff;clear b hF I p u Q Rx HX S8 O
      go_wp2_with fail;go_roundg (m-n)
      case measure=>have:=a.out.2.2.2.2.2.2.2.2.1;have:=HN.out;omega
      case rel=>exact⟨dx C e n,m-n,e-n,x.drop n,_,_,_,_,by go_num,ω,a.out.2.2.2.2.1.dx Ff Xu,λh0 ad e=>(by obtain⟨a0,V,e2⟩ :=KG e;rw[e2];exact a.out.2.2.2.2.2.1 ω a0 V),λv hv=>a.out.2.2.2.2.2.2.1 v (aX hv),HE.out.1,HE.out.2,by rw[ak,aM];exact a.out.2.2.1,bv.out,a.out.2.2.2.2.2.2.2.1,rfl⟩
    rw[ae b]at I;have bt:=η (p.lay Rx (by have:=u.size;have:=bv.out;omega) (bR o.aj) (lO _) ((Rx.full b).2) false);have L6:=u.lay b;have PO:(iV o (bR o.aj) false).aj.length<(o.aj.length):=by have:=lO o.aj;rw[show(iV o (bR o.aj) false).aj.length=o.aj.length-bR o.aj from av];omega
    obtain⟨F,hF⟩ :=ν (bR o.aj);have YJ:=lO o.aj;have cp:(0:Int)<(F:Int)/\(F:Int)<=16777216/\0<F:=by have:=Rx.nt;omega
    rw[hF]at bt L6 I PO⊢;have HY:=η (⟨L6,I,PO,Q⟩ :_/\_/\_/\_);clear b hF YJ I p u L6 PO Q Rx HX S8
    go_wp2_with fail;refine bt.out.mono ?_;rintro r JI ⟨rfl,cq,y⟩;have cj:=η (y.full HY.out.1.1.facts);clear y
    go_wp2_with fail;refine cj.out.mono ?_;rintro r ck ⟨rfl,bp⟩;have XN:=η bp;clear bp
    go_wp2_with fail;go_roundg (iV o F false).aj.length
    case measure=>have:=HY.out.2.2.1;have:=HY.out.2.2.2;omega
    case rel=>exact⟨_,_,rfl,XN.out,HY.out.1,HY.out.2.1,rfl⟩
section
variable {w w' w0:World} {b0 g:Nat} {c c0:Nat->Nat} {M:EM} {d:kK} {done:Bool} {K:Nat} {X P:List Int}
theorem DB.FO (h:DB K X P d):bQ (eK d).aj<=16641:=by
 obtain⟨a,b,c,e,f,j,g,i⟩ :=h.1.rest;exact g
theorem ed.align (h:ed w0 c0 w b0 g M d done) (i:d.L.length<=2000000000000):
  Calls Tryz.prog 46 #[.pointer (some ⟨M.gw,0,none⟩)] w λe w'=>e= .returned (.tuple #[])/\∃M',ed w0 c0 w' b0 g M' { d with L:=qy d.L } done:=by
 obtain⟨c,b,f⟩ :=h;refine(qW w b0 M.gw M.nw M.cw M.Aw _ b.Rb ω).mono ?_;rintro e w' ⟨A',n',c',rfl,q1,q2,q3⟩
 exact⟨rfl,_,ed.writer (M:=M) (d:=d) ⟨c,b,f⟩ q2 q1 λk a=>by
  rcases a with a | a
  · exact .inl (.inl a)
  rcases q3 k a with h | h
  · exact .inl (.inr h)
  exact .inr h⟩
theorem ed.end_ (h:ed w0 c0 w b0 g M d done):ed w0 c0 (w.setCell ⟨g,5,none⟩ (.bool true)) b0 g M d true:=by
 obtain⟨c,a,m⟩ :=h;have b:bj w (w.setCell ⟨g,5,none⟩ (.bool true)) (λk=>k=g\/ai M.Ar=some k):=(bj.refl w _).setCell (.inl (.inl rfl)) _
 have f:=ed.Wa (M:=M) (d:=d) (A':=M.Ar) (n':=M.nr) (c':=M.cr) (l':=d.raw) (done':=true) ⟨c,a,m⟩ b
  ((a.cell.bC (i:=5) ω (.bool true)).congr (λj n=>by
    obtain rfl | rfl | rfl | rfl | rfl | rfl:j=0\/j=1\/j=2\/j=3\/j=4\/j=5:=ω;all_goals rfl))
  (a.raw.far (p:= ⟨g,5,none⟩) (λe=>by have o:=a.cr g e;have h4:=a.cg;omega) _) (λk l=> .inl l)
 exact f
end
theorem KJ (w:World) (b0 g:Nat) (c:Nat->Nat) (M:EM) (d:kK) (h:ic w b0 g c M d false) {K:Nat} {X P:List Int} (q:DB K X P d) (t:K+100<=2000000000000):
  Calls Tryz.prog 27 #[.pointer (some ⟨g,0,none⟩)] w λr w'=>r= .returned (.int .i64 0)/\∃M',ed w c w' b0 g M' (na d) true:=by
 obtain⟨c0,c1,c2,A,k,u⟩ :=h.cells;have x:=η (Wb w b0 g c M d false h q ω);have m:=η (⟨q,t⟩ :_/\_);clear h q t c0 c1 c2 A k;go_enter Tryz.func27,Tryz.ntmps27
 go_wp2_with fail;refine x.out.mono ?_;rintro e w1 ⟨rfl,I,p⟩;have j:=m.out.1.rest;have b:=j.1.facts;have k:=p.cells.2.2.2.2.1;rw[p.nt]at k
 have a:(iV (eK d) (eK d).aj.length true).L.length<=2000000000000:=by
  obtain⟨all,kinds,stops,fS,pre,f⟩ :=j.1;have E:=B3 f (eK d).aj.length true (by rw[ay (ag _)];have:=m.out.1.FO;omega);have hf:=(f.first (eK d).aj.length).2;have:=j.2;have:=m.out.2;omega
 obtain⟨N,hN⟩ :=ν ((eK d).aj.length);have s:na d={ iV (eK d) N true with L:=qy (iV (eK d) N true).L }:=by rw[<-hN];rfl
 rw[hN]at k a;have z:(0:Int)<=(N:Int)/\(N:Int)<=16777216:=by have:=b.nt;omega
 have l:=η (p.lay b (by have:=j.size;have:=m.out.2;omega) N ω (by rw[ay ω];have:=m.out.1.FO;omega) true);have v:=η (⟨a,s⟩ :_/\_);clear p j b u x hN a s
 go_wp2_with fail;refine l.out.mono ?_;rintro e w2 ⟨rfl,H,f⟩;have c1:=f.cells.2.1;have n:=η (f.align v.out.1);clear f l k
 go_wp2_with fail;refine n.out.mono ?_;rintro e y ⟨rfl,B,o⟩;have u:=o.cells.2.2.2.2.2;have D:y.frozen? ⟨g,5,none⟩ =false:=by obtain⟨G,h7,F⟩ :=o;exact h7.cell.frozen' (i:=5) ω
 have C:=η o.end_;clear o n c1
 go_wp2_with fail;go_ret;exact⟨rfl,B,by rw[v.out.2];exact C.out⟩
section
variable {w w':World} {b0 g:Nat} {c:Nat->Nat} {M:EM} {d:kK} {done:Bool}
theorem ic.aside {F:Nat->Prop} (h:ic w b0 g c M d done) (b:bj w w' F) (hF:∀k,F k->c k=0):ic w' b0 g c M d done:=
 ⟨b.ar h.cell (λe=>by have:=hF g e;have:=h.cg;omega),h.cg,
   by obtain⟨nm,i,f⟩ :=h.fnd;exact⟨nm,i,f.fz b (λk a e=>by have:=hF k e;have:=h.cf k a;omega)⟩,h.cf,
   h.Rb.fz b (λk a e=>by have:=hF k e;have:=h.cw k a;omega),h.cw,
   b.eH h.raw (λk a e=>by have:=hF k e;have:=h.cr k a;omega),h.cr,
   ⟨h.tok.1,b.own h.tok.2 (λk a e=>by have:=hF k e;have:=h.ct k a;omega)⟩,h.ct,
   λk a=> ⟨(h.cb k a).1,aD (h.cb k a).2 b.size⟩⟩
theorem DB.SP {K:Nat} {X P:List Int} (h:DB K X P d):(na d).L.length<=K+60:=by
 have a:=h.rest;obtain⟨all,kinds,stops,fS,pre,b⟩ :=a.1;have c:=B3 b (eK d).aj.length true (by rw[ay (ag _)];have:=h.FO;omega);have hf:=(b.first (eK d).aj.length).2;have g:=a.2;have e:(na d).L=qy (iV (eK d) (eK d).aj.length true).L:=rfl;have f:=mq (iV (eK d) (eK d).aj.length true).L;rw[e];omega
end
theorem ic.taken {w w':World} {b0 g:Nat} {c:Nat->Nat} {M:EM} {d:kK} {done:Bool} (h:ic w b0 g c M d done) (b:qf w' b0 M.gw none 0 0 (rest d.L)) (e:bj w w' (λk=>k=M.gw)):
  ed w c w' b0 g { M with Aw:=none,nw:=0,cw:=0 } { d with L:=rest d.L } done:=
 h.refl.writer (e.more λk a=> .inl a) b (λk a=>by
  rcases a with a | a
  · exact .inl (.inl a)
  simp [ai]at a)
end Go.Proofs.YtdhmnlpfhfmpfaaGreat
