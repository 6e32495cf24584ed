/-
  part
-/
import Derived.Test.YtdhmnlpfhfmpfaaGreatPk20
import Derived.Test.YtdhmnlpfhfmpfaaGreatPk22
import Derived.Test.YtdhmnlpfhfmpfaaGreatStepT
set_option linter.unusedVariables false
set_option maxRecDepth 100000
set_option maxHeartbeats 4000000
namespace Go.Proofs.YtdhmnlpfhfmpfaaGreat
open Go.RowKit
structure EM where
 gf:Nat
 A:ay
 n:Nat
 c:Nat
 gm:Nat
 Ap:ay
 np:Nat
 cp:Nat
 gw:Nat
 Aw:ay
 nw:Nat
 cw:Nat
 Ar:ay
 nr:Nat
 cr:Nat
 At:ay
 nt:Nat
 ct:Nat
def eF (M:EM) (lev:Int) (done:Bool):Nat->Value
 | 0=> .pointer (some ⟨M.gf,0,none⟩)
 | 1=> .pointer (some ⟨M.gw,0,none⟩)
 | 2=> .int .i64 lev
 | 3=> .slice M.Ar M.nr M.cr
 | 4=> .slice M.At M.nt M.ct
 | _=> .bool done
structure ik (w:World) (b0 g:Nat) (c:Nat->Nat) (M:EM) (d:kM) (done:Bool):Prop where
 cell:Ar w g 6 (eF M d.lev done)
 cg:c g=1
 fnd:∃nm Dm,eG w b0 M.gf (gS d.lev) d.f d.f.at_ M.A M.n M.c M.gm nm Dm M.Ap M.np M.cp
 cf:∀k,FF M.A M.gm M.Ap M.gf k->c k=2
 RI:qw w b0 M.gw M.Aw M.nw M.cw d.L
 cw:∀k,foot M.Aw M.gw k->c k=3
 raw:ba .u8 w b0 5 M.Ar M.nr M.cr d.raw
 cr:∀k,ak M.Ar=some k->c k=4
 tok:kh w b0 M.At M.nt M.ct d.au
 ct:∀k,ak M.At=some k->c k=5
 cb:∀k,c k≠0->b0<=k/\k<w.heap.size
def ek (w0:World) (c0:Nat->Nat) (w:World) (b0 g:Nat) (M:EM) (d:kM) (done:Bool):Prop:=∃c,ik w b0 g c M d done/\DE b0 w0 c0 w c
section
variable {w w' w0:World} {b0 g:Nat} {c c0:Nat->Nat} {M:EM} {d:kM} {done:Bool}
theorem ik.refl (h:ik w b0 g c M d done):ek w c w b0 g M d done:= ⟨c,h,ax _ _,bk.refl _ _,λ_ _=>rfl⟩
theorem ik.lo (h:ik w b0 g c M d done):b0<=w.heap.size:=by have:=h.cb g (by rw[h.cg];decide);omega
theorem ik.AE (h:ik w b0 g c M d done) (o:bk w w' (FF M.A M.gm M.Ap M.gf)) {A' Ap':ay} {n' c' np' cp':Nat} {f':jf} (q:∃nm r,eG w' b0 M.gf (gS d.lev) f' f'.at_ A' n' c' M.gm nm r Ap' np' cp') (hf:∀k,FF A' M.gm Ap' M.gf k->FF M.A M.gm M.Ap M.gf k\/w.heap.size<=k):
  ik w' b0 g (cW c w.heap.size (FF A' M.gm Ap' M.gf) 2) { M with A:=A',n:=n',c:=c',Ap:=Ap',np:=np',cp:=cp' } { d with f:=f' } done:=by
 have hF:∀k,(FF M.A M.gm M.Ap M.gf) k->c k=2:=h.cf;have p:∀k i,c k=i->i≠0->k<w.heap.size:=λk i j b=>(h.cb k ω).2;have l:∀k,k<w.heap.size->cW c w.heap.size (FF A' M.gm Ap' M.gf) 2 k=c k:=λk a=>cC a;have m:∀k i,c k=i->i≠0->cW c w.heap.size (FF A' M.gm Ap' M.gf) 2 k=i:=λk i j b=>(l k (p k i j b)).trans j
 exact⟨o.ar h.cell (λe=>by have:=hF g e;have:=h.cg;omega),
  m _ _ h.cg δ,
  q,
  λk a=>by
   rcases aV k w.heap.size with j | j
   · rcases hf k a with b | b
     · exact m k 2 (h.cf k b) δ
     omega
   exact fO j a,
  h.RI.fC o (λk a e=>by have:=hF k e;have:=h.cw k a;omega),
  λk a=>m k 3 (h.cw k a) δ,
  o.dX h.raw (λk a e=>by have:=hF k e;have:=h.cr k a;omega),
  λk a=>m k 4 (h.cr k a) δ,
  ⟨h.tok.1,o.own h.tok.2 (λk a e=>by have:=hF k e;have:=h.ct k a;omega)⟩,
  λk a=>m k 5 (h.ct k a) δ,
  λk a=>by
   rcases gq a with ⟨j,b⟩ | ⟨j,b⟩
   · exact⟨(h.cb k b).1,aB j o.size⟩
   exact(by obtain⟨nm,r,s⟩ :=q;exact s.eK b)⟩
theorem ek.AE (h:ek w0 c0 w b0 g M d done) (b:bk w w' (FF M.A M.gm M.Ap M.gf)) {A' Ap':ay} {n' c' np' cp':Nat} {f':jf} (e:∃nm i,eG w' b0 M.gf (gS d.lev) f' f'.at_ A' n' c' M.gm nm i Ap' np' cp') (hf:∀k,FF A' M.gm Ap' M.gf k->FF M.A M.gm M.Ap M.gf k\/w.heap.size<=k):
  ek w0 c0 w' b0 g { M with A:=A',n:=n',c:=c',Ap:=Ap',np:=np',cp:=cp' } { d with f:=f' } done:=by
 obtain⟨c,h,hd⟩ :=h;exact⟨_,h.AE b e hf,hd.step h.lo (λk a=>(h.cb k a).1) (b.more λk a=>by rw[h.cf k a];decide) λk a=>cC a⟩
theorem ik.writer (h:ik w b0 g c M d done) (m:bk w w' (foot M.Aw M.gw)) {A':ay} {n' c':Nat} {p:aj} (o:qw w' b0 M.gw A' n' c' p) (hf:∀k,foot A' M.gw k->foot M.Aw M.gw k\/w.heap.size<=k):
  ik w' b0 g (cW c w.heap.size (foot A' M.gw) 3) { M with Aw:=A',nw:=n',cw:=c' } { d with L:=p } done:=by
 have hF:∀k,(foot M.Aw M.gw) k->c k=3:=h.cw;have n:∀k i,c k=i->i≠0->k<w.heap.size:=λk i f b=>(h.cb k ω).2;have j:∀k,k<w.heap.size->cW c w.heap.size (foot A' M.gw) 3 k=c k:=λk a=>cC a;have l:∀k i,c k=i->i≠0->cW c w.heap.size (foot A' M.gw) 3 k=i:=λk i f b=>(j k (n k i f b)).trans f
 exact⟨m.ar h.cell (λe=>by have:=hF g e;have:=h.cg;omega),
  l _ _ h.cg δ,
  by obtain⟨nm,r,q⟩ :=h.fnd;exact⟨nm,r,q.fC m (λk a e=>by have:=hF k e;have:=h.cf k a;omega)⟩,
  λk a=>l k 2 (h.cf k a) δ,
  o,
  λk a=>by
   rcases aV k w.heap.size with f | f
   · rcases hf k a with b | b
     · exact l k 3 (h.cw k b) δ
     omega
   exact fO f a,
  m.dX h.raw (λk a e=>by have:=hF k e;have:=h.cr k a;omega),
  λk a=>l k 4 (h.cr k a) δ,
  ⟨h.tok.1,m.own h.tok.2 (λk a e=>by have:=hF k e;have:=h.ct k a;omega)⟩,
  λk a=>l k 5 (h.ct k a) δ,
  λk a=>by
   rcases gq a with ⟨f,b⟩ | ⟨f,b⟩
   · exact⟨(h.cb k b).1,aB f m.size⟩
   exact o.eK b⟩
theorem ek.writer (h:ek w0 c0 w b0 g M d done) (b:bk w w' (foot M.Aw M.gw)) {A':ay} {n' c':Nat} {e:aj} (f:qw w' b0 M.gw A' n' c' e) (hf:∀k,foot A' M.gw k->foot M.Aw M.gw k\/w.heap.size<=k):
  ek w0 c0 w' b0 g { M with Aw:=A',nw:=n',cw:=c' } { d with L:=e } done:=by
 obtain⟨c,h,hd⟩ :=h;exact⟨_,h.writer b f hf,hd.step h.lo (λk a=>(h.cb k a).1) (b.more λk a=>by rw[h.cw k a];decide) λk a=>cC a⟩
theorem ik.WO (h:ik w b0 g c M d done) (m:bk w w' (λk=>k=g\/ak M.Ar=some k)) {A':ay} {n' c':Nat} {l':aj} {done':Bool} (q:Ar w' g 6 (eF { M with Ar:=A',nr:=n',cr:=c' } d.lev done')) (o:ba .u8 w' b0 5 A' n' c' l') (hf:∀k,ak A'=some k->ak M.Ar=some k\/w.heap.size<=k):
  ik w' b0 g (cW c w.heap.size (λk=>ak A'=some k) 4) { M with Ar:=A',nr:=n',cr:=c' } { d with raw:=l' } done':=by
 have hF:∀k,(λk=>k=g\/ak M.Ar=some k) k->c k=1\/c k=4:=λk a=>by
  rcases a with rfl | a
  · exact .inl h.cg
  exact .inr (h.cr k a)
 have n:∀k i,c k=i->i≠0->k<w.heap.size:=λk i f b=>(h.cb k ω).2;have j:∀k,k<w.heap.size->cW c w.heap.size (λk=>ak A'=some k) 4 k=c k:=λk a=>cC a;have l:∀k i,c k=i->i≠0->cW c w.heap.size (λk=>ak A'=some k) 4 k=i:=λk i f b=>(j k (n k i f b)).trans f
 exact⟨q,
  l _ _ h.cg δ,
  by obtain⟨nm,r,p⟩ :=h.fnd;exact⟨nm,r,p.fC m (λk a e=>by have:=hF k e;have:=h.cf k a;omega)⟩,
  λk a=>l k 2 (h.cf k a) δ,
  h.RI.fC m (λk a e=>by have:=hF k e;have:=h.cw k a;omega),
  λk a=>l k 3 (h.cw k a) δ,
  o,
  λk a=>by
   rcases aV k w.heap.size with f | f
   · rcases hf k a with b | b
     · exact l k 4 (h.cr k b) δ
     omega
   exact fO f a,
  ⟨h.tok.1,m.own h.tok.2 (λk a e=>by have:=hF k e;have:=h.ct k a;omega)⟩,
  λk a=>l k 5 (h.ct k a) δ,
  λk a=>by
   rcases gq a with ⟨f,b⟩ | ⟨f,b⟩
   · exact⟨(h.cb k b).1,aB f m.size⟩
   exact o.2.lt b⟩
theorem ek.WO (h:ek w0 c0 w b0 g M d done) (b:bk w w' (λk=>k=g\/ak M.Ar=some k)) {A':ay} {n' c':Nat} {l':aj} {done':Bool} (f:Ar w' g 6 (eF { M with Ar:=A',nr:=n',cr:=c' } d.lev done')) (e:ba .u8 w' b0 5 A' n' c' l') (hf:∀k,ak A'=some k->ak M.Ar=some k\/w.heap.size<=k):
  ek w0 c0 w' b0 g { M with Ar:=A',nr:=n',cr:=c' } { d with raw:=l' } done':=by
 obtain⟨c,h,hd⟩ :=h
 exact⟨_,h.WO b f e hf,hd.step h.lo (λk a=>(h.cb k a).1) (b.more λk a=>by
  rcases a with rfl | a
  · rw[h.cg];decide
  rw[h.cr k a];decide) λk a=>cC a⟩
theorem ik.tokens (h:ik w b0 g c M d done) (m:bk w w' (λk=>k=g\/ak M.At=some k)) {A':ay} {n' c':Nat} {l':List cy} {done':Bool} (q:Ar w' g 6 (eF { M with At:=A',nt:=n',ct:=c' } d.lev done')) (o:kh w' b0 A' n' c' l') (hf:∀k,ak A'=some k->ak M.At=some k\/w.heap.size<=k):
  ik w' b0 g (cW c w.heap.size (λk=>ak A'=some k) 5) { M with At:=A',nt:=n',ct:=c' } { d with au:=l' } done':=by
 have hF:∀k,(λk=>k=g\/ak M.At=some k) k->c k=1\/c k=5:=λk a=>by
  rcases a with rfl | a
  · exact .inl h.cg
  exact .inr (h.ct k a)
 have n:∀k i,c k=i->i≠0->k<w.heap.size:=λk i f b=>(h.cb k ω).2;have j:∀k,k<w.heap.size->cW c w.heap.size (λk=>ak A'=some k) 5 k=c k:=λk a=>cC a;have l:∀k i,c k=i->i≠0->cW c w.heap.size (λk=>ak A'=some k) 5 k=i:=λk i f b=>(j k (n k i f b)).trans f
 exact⟨q,
  l _ _ h.cg δ,
  by obtain⟨nm,r,p⟩ :=h.fnd;exact⟨nm,r,p.fC m (λk a e=>by have:=hF k e;have:=h.cf k a;omega)⟩,
  λk a=>l k 2 (h.cf k a) δ,
  h.RI.fC m (λk a e=>by have:=hF k e;have:=h.cw k a;omega),
  λk a=>l k 3 (h.cw k a) δ,
  m.dX h.raw (λk a e=>by have:=hF k e;have:=h.cr k a;omega),
  λk a=>l k 4 (h.cr k a) δ,
  o,
  λk a=>by
   rcases aV k w.heap.size with f | f
   · rcases hf k a with b | b
     · exact l k 5 (h.ct k b) δ
     omega
   exact fO f a,
  λk a=>by
   rcases gq a with ⟨f,b⟩ | ⟨f,b⟩
   · exact⟨(h.cb k b).1,aB f m.size⟩
   exact o.2.lt b⟩
theorem ek.tokens (h:ek w0 c0 w b0 g M d done) (b:bk w w' (λk=>k=g\/ak M.At=some k)) {A':ay} {n' c':Nat} {l':List cy} {done':Bool} (f:Ar w' g 6 (eF { M with At:=A',nt:=n',ct:=c' } d.lev done')) (e:kh w' b0 A' n' c' l') (hf:∀k,ak A'=some k->ak M.At=some k\/w.heap.size<=k):
  ek w0 c0 w' b0 g { M with At:=A',nt:=n',ct:=c' } { d with au:=l' } done':=by
 obtain⟨c,h,hd⟩ :=h
 exact⟨_,h.tokens b f e hf,hd.step h.lo (λk a=>(h.cb k a).1) (b.more λk a=>by
  rcases a with rfl | a
  · rw[h.cg];decide
  rw[h.ct k a];decide) λk a=>cC a⟩
theorem kh.keeps {n k:Nat} {A:ay} {l:List cy} (h:kh w b0 A n k l) (b:Below w.heap.size w w'):kh w' b0 A n k l:= ⟨h.1,h.2.below b λ_ a=>(h.2.lt a).2⟩
theorem ik.keeps (h:ik w b0 g c M d done) (a:Below w.heap.size w w'):ik w' b0 g c M d done:=
 ⟨h.cell.keeps a,h.cg,by obtain⟨nm,f,e⟩ :=h.fnd;exact⟨nm,f,e.keeps a⟩,h.cf,h.RI.keeps a,h.cw,h.raw.keeps a,h.cr,h.tok.keeps a,h.ct,
   λk b=> ⟨(h.cb k b).1,aB (h.cb k b).2 a.size⟩⟩
theorem ek.keeps (h:ek w0 c0 w b0 g M d done) (a:Below w.heap.size w w'):ek w0 c0 w' b0 g M d done:=by
 obtain⟨c,h,hd⟩ :=h;exact⟨c,h.keeps a,hd.step h.lo (λk b=>(h.cb k b).1) (bk.bJ a) λ_ _=>rfl⟩
theorem ik.cells (h:ik w b0 g c M d done):w.cell? ⟨g,0,none⟩ =some (.pointer (some ⟨M.gf,0,none⟩))/\w.cell? ⟨g,1,none⟩ =some (.pointer (some ⟨M.gw,0,none⟩))/\w.cell? ⟨g,2,none⟩ =some (.int .i64 d.lev)/\w.cell? ⟨g,3,none⟩ =some (.slice M.Ar M.nr M.cr)/\w.cell? ⟨g,4,none⟩ =some (.slice M.At M.nt M.ct)/\w.cell? ⟨g,5,none⟩ =some (.bool done):=
 ⟨h.cell.cell (i:=0) ω,h.cell.cell (i:=1) ω,h.cell.cell (i:=2) ω,h.cell.cell (i:=3) ω,h.cell.cell (i:=4) ω,h.cell.cell (i:=5) ω⟩
end
theorem Ma {l:List cy} {k:Nat} (h:k<l.length):bO (l.take (k+1))=bO (l.take k)+iu (dV l k):=by rw[wQ h];simp [bO]
theorem W4 {l:List cy} (h:∀t∈l,cF t):bO l<=258*l.length:=by
 induction l with
 | nil=>simp [bO]
 | cons t l a=>
   have d:=wA (h t aH);have c:=a λu b=>h u (aI _ b);have:bO (t::l)=iu t+bO l:=by simp [bO]
   rw[bc];omega
theorem I0 (w:World) (At:ay) (nt ct:Nat) (au:List cy) (u:mn w w.heap.size At nt au) (z:nt<=4000000000000) (b:∀t∈au,cF t):
  Calls Tryz.prog 64 #[.slice At nt ct] w λe w'=>e= .returned (.int .i64 ((bO au:Nat):Int))/\Below w.heap.size w w':=by
 have c:=η (⟨u,u.1,z,b⟩ :_/\_/\_/\_);have K:(0:Int)<=(nt:Int)/\(nt:Int)<=4000000000000:=ω;clear u z b;go_enter Tryz.func64,Tryz.ntmps64
 go_wp2_with fail;go_loopg [3,8] nt (λ(gk:Nat) (v3 v8:Value) wx=>∃k s:Nat,v3= .int .i64 s/\v8= .int .i64 k/\k<=nt/\Hid (s=bO (au.take k))/\Hid (Below w.heap.size w wx)/\Hid (gk=nt-k))
 case atStart=>exact⟨0,0,rfl,rfl,aF _,rfl,ax _ _,rfl⟩
 obtain⟨k,s,rfl,rfl,L,b,h,G⟩ :=hrel;by_cases a:k<nt
 rotate_left
 · obtain rfl:k=nt:=ω;have F:¬(k:Int)<(k:Int):=ω;have x:au.take k=au:=aC (by rw[<-c.out.2.1];exact ai _);have A:=b;rw[x]at A;clear a x b
   go_wp2_with fail;go_ret;exact⟨bZ (by rw[A.out]),h.out⟩
 have F:(k:Int)<(nt:Int)/\(0:Int)<=(k:Int):=ω;obtain⟨f,hA,r,d⟩ :=(c.out.1.below h.out).2 ω;obtain⟨v,j,i⟩ :=d k a;rw[lj _ _ _ ω]at j i;have g:=Ma (l:=au) (k:=k) (by rw[<-c.out.2.1];exact a);have n:=c.out.2.2.2 _ (c.out.1.BP a);have p:=W4 (l:=au.take k) λt ht=>c.out.2.2.2 t (aO ht);have E:(au.take k).length<=k:=by rw[aD];exact eW _ _
 obtain⟨⟨m,N,D⟩,ht⟩ :∃t:cy,dV au k=t:= ⟨_,rfl⟩;rw[ht]at v j i g n;replace v:wr.cell? (f.add (k*3))=some (.int .u8 m):=v;replace j:wr.cell? { block:=(f.add (k*3)).block,off:=(f.add (k*3)).off+1 }=some (.int .i64 N):=j;replace i:wr.cell? { block:=(f.add (k*3)).block,off:=(f.add (k*3)).off+2 }=some (.int .i64 D):=i;obtain⟨q,o⟩ :=ν (iu ⟨m,N,D⟩ :Nat);have C:max N 1=(q:Int):=by rw[<-o,show iu ⟨m,N,D⟩ =(max N 1).toNat from rfl];omega
 have y:=wA n;rw[o]at g y;have I:=η (show bO (au.take (k+1))=s+q by rw[g,b.out]);have J:(s:Int)<=2000000000000000/\(0:Int)<=(s:Int)/\(0:Int)<=(q:Int)/\(q:Int)<=258:=by have:=b.out;have:=c.out.2.2.1;omega
 have B:=η a;have H:=η (h.out.alloc h.out.size (.cells #[.int .u8 m, .int .i64 N, .int .i64 D] 109));subst hA;clear r d ht a g p E n o y
 go_wp2_with fail;go_roundg (nt-(k+1))
 case measure=>have:=G.out;have:=B.out;omega
 case rel=>exact⟨k+1,s+q,by go_num,by go_num,B.out,I.out.symm,H.out,rfl⟩
theorem Lc {l:List cy} {k s q:Nat} (c:k<l.length) (b:iu (dV l k)=q) (h:iJ s k (l.drop k)=bP l):(16384<=s+q->bP l=k+1)/\(¬16384<=s+q->iJ (s+q) (k+1) (l.drop (k+1))=bP l):=by
 rw[mn.ed rfl c]at h;unfold iJ at h;rw[b]at h;constructor
 · intro a;rw[af a]at h;exact h.symm
 intro a;rw[aa a]at h;exact h
theorem PC (w:World) (g:Nat) (At:ay) (nt ct:Nat) (au:List cy) (S:w.cell? ⟨g,4,none⟩ =some (.slice At nt ct)) (A:mn w w.heap.size At nt au) (G:nt<=4000000000000) (f:∀t∈au,cF t):
  Calls Tryz.prog 42 #[.pointer (some ⟨g,0,none⟩)] w λe w'=>e= .returned (.int .i64 ((bP au:Nat):Int))/\Below w.heap.size w w':=by
 have o:=η (⟨A,A.1,G,f⟩ :_/\_/\_/\_);have Q:(0:Int)<=(nt:Int)/\(nt:Int)<=4000000000000:=ω;clear A G f;go_enter Tryz.func42,Tryz.ntmps42
 go_wp2_with fail;go_loopg [3,11] nt (λ(gk:Nat) (v3 v11:Value) wx=>∃k s:Nat,v3= .int .i64 s/\v11= .int .i64 k/\k<=nt/\s<16384/\Hid (iJ s k (au.drop k)=bP au)/\Hid (Below w.heap.size w wx)/\Hid (gk=nt-k))
 case atStart=>exact⟨0,0,rfl,rfl,aF _,ω,rfl,ax _ _,rfl⟩
 obtain⟨k,s,rfl,rfl,R,O,f,p,M⟩ :=hrel;by_cases a:k<nt
 rotate_left
 · obtain rfl:k=nt:=ω;have L:¬(k:Int)<(k:Int):=ω;have E:au.drop k=[]:=dP (by rw[<-o.out.2.1];exact ai _);have I:=f;rw[E]at I;clear a E f
   go_wp2_with fail;go_ret;exact⟨bZ (by rw[<-I.out];rfl),p.out⟩
 have L:(k:Int)<(nt:Int)/\(0:Int)<=(k:Int):=ω;obtain⟨n,hA,z,m⟩ :=(o.out.1.below p.out).2 ω;obtain⟨B,u,r⟩ :=m k a;rw[lj _ _ _ ω]at u r;have x:=o.out.2.2.2 _ (o.out.1.BP a);have c:=λq h=>Lc (l:=au) (k:=k) (s:=s) (q:=q) (by rw[<-o.out.2.1];exact a) h f.out;obtain⟨⟨v,N,D⟩,ht⟩ :∃t:cy,dV au k=t:= ⟨_,rfl⟩;rw[ht]at B u r x c;replace B:wr.cell? (n.add (k*3))=some (.int .u8 v):=B;replace u:wr.cell? { block:=(n.add (k*3)).block,off:=(n.add (k*3)).off+1 }=some (.int .i64 N):=u;replace r:wr.cell? { block:=(n.add (k*3)).block,off:=(n.add (k*3)).off+2 }=some (.int .i64 D):=r;obtain⟨q,h⟩ :=ν (iu ⟨v,N,D⟩ :Nat);have K:max N 1=(q:Int):=by rw[<-h,show iu ⟨v,N,D⟩ =(max N 1).toNat from rfl];omega
 have F:=wA x;have j:=c q h;rw[h]at F;have P:(s:Int)<=16384/\(0:Int)<=(s:Int)/\(0:Int)<=(q:Int)/\(q:Int)<=258:=ω;have J:=η a;have b:=η j;have H:=η (p.out.alloc p.out.size (.cells #[.int .u8 v, .int .i64 N, .int .i64 D] 109));subst hA;clear z m ht a x h F c j;by_cases i:16384<=s+q
 · have y:(16384:Int)<=(s:Int)+(q:Int):=ω;have d:=η (b.out.1 i);clear i b
   go_wp2_with fail;go_ret;exact⟨bZ (by rw[d.out];omega),H.out⟩
 have y:decide ((16384:Int)<=(s:Int)+(q:Int))=false:=ξ;have d:=η (b.out.2 i);have C:=η i;clear i b
 go_wp2_with fail;go_roundg (nt-(k+1))
 case measure=>have:=M.out;have:=J.out;omega
 case rel=>exact⟨k+1,s+q,by go_num,by go_num,J.out,τ C.out,d.out,H.out,rfl⟩
theorem xt:(Tryz.prog.info? 109).map (λi=>(i.zero,i.size,i.bytes))=some (some (.agg #[.int .u8 0, .int .i64 0, .int .i64 0]),3,24):=by kernel_rfl
theorem ow:(Tryz.prog.info? 5).map (λi=>(i.zero,i.size,i.bytes))=some (some (.int .u8 0),1,1):=by kernel_rfl
theorem a0t (w:World) (b0 g:Nat) (c:Nat->Nat) (M:EM) (d:kM) (done:Bool) (h:ik w b0 g c M d done) (hs:∀t∈d.au,cF t) (cQ:∀t∈d.au,0<=t.lit/\t.lit<256) (ae:∀x∈d.raw,0<=x/\x<256) (count:Nat) (hc:count<=d.au.length)
  (hn:bO (d.au.take count)<=65535) (oA:bO (d.au.take count)<=d.raw.length) (hL:d.L.length<=2000000000000) (Bg:d.au.length<=1000000000) (rV:d.raw.length<=900000000000) (last:Bool):
  Calls Tryz.prog 43 #[.pointer (some ⟨g,0,none⟩), .int .i64 count, .bool last] w λe w'=>e= .returned (.tuple #[])/\∃M',ek w c w' b0 g M' (j3 d count last) done:=by
 obtain⟨i0,hi,Z,Y,X⟩ :=aL xt;obtain⟨i1,ki,U,T,S⟩ :=aL ow;obtain⟨c0,c1,c2,c3,c4,c5⟩ :=h.cells;have xC:count<=M.ct:=by have C:=h.tok.1;have n:=h.tok.2.jT;omega
 obtain⟨N,hN⟩ :=ν (bO (d.au.take count));have yV:N<=M.cr:=by have C:=h.raw.1;have n:=h.raw.2.jT;omega
 have QE:∀W,(Instr.slice 65 (.slice M.At M.nt M.ct) none (some (.int .i64 (count:Int))) (some (.int .i64 (count:Int)))).run Tryz.prog W= .ok (.slice M.At count count) W:=λW=>uk (P:=Tryz.prog) 65 109 Tryz.underlying65 hi M.At M.nt M.ct xC W;have Fq:∀W,(Instr.slice 22 (.slice M.Ar M.nr M.cr) none (some (.int .i64 (N:Int))) (some (.int .i64 (N:Int)))).run Tryz.prog W= .ok (.slice M.Ar N N) W:=λW=>uk (P:=Tryz.prog) 22 5 Tryz.underlying22 ki M.Ar M.nr M.cr yV W;have ah:mn w w.heap.size M.At count (d.au.take count):=h.tok.rd.pre (τ h.tok.1);have Zv:=I0 w M.At count count (d.au.take count) ah ω λt ht=>hs t (aO ht);rw[hN]at Zv;have ao:=η Zv;have b:=η (⟨h,hs,cQ,ae,hc,hn,oA,hL,hN⟩ :_/\_/\_/\_/\_/\_/\_/\_/\_);have P3:=η rV;have be:=η Bg;have Hi:=η (⟨hi,Z,Y,X⟩ :_/\_/\_/\_);have Q:=η (⟨ki,U,T,S⟩ :_/\_/\_/\_);have F8:(0:Int)<=(count:Int)/\(count:Int)<=1000000000:=ω;have bp:(0:Int)<=(N:Int)/\(N:Int)<=65535:=ω;clear hi Z Y X ki U T S hs cQ ae hc hn oA hL Bg ah Zv h;go_enter Tryz.func43,Tryz.ntmps43
 go_wp2_with fail;refine ao.out.mono ?_;rintro e w1 ⟨rfl,J⟩;have o:=η (b.out.1.keeps J);obtain⟨d0,d1,d2,d3,d4,d5⟩ :=o.out.cells;have N7:=η J;clear J c0 c1 c2 c3 c4 c5;obtain⟨v,rY⟩ :=ν ((j3 d count last).L)
 have dA:∀(B:ay) (i:Nat),(∀k,ak B=some k->c k=i)->i≠3->∀ad,B=some ad->¬foot M.Aw M.gw ad.block:=λB i hB hi ad e a=>by
  have C:=hB ad.block (by rw[e];rfl);have n:=o.out.cw _ a;omega
 have pd:=o.out.raw.rd.pre (j:=N) (ε o.out.raw.1 b.out);have jJ:=o.out.tok.rd.pre (j:=count) (ε o.out.tok.1 b.out);have E:∀t∈d.au.take count,0<=t.lit/\t.lit<256:=λt ht=>b.out.2.2.1 t (aO ht);have G:∀x∈d.raw.take N,0<=x/\x<256:=λx hx=>b.out.2.2.2.1 x (aO hx);obtain⟨k0,k1,V⟩ :=FA (lev:=d.lev) (l:=d.au.take count) (λt ht=>b.out.2.1 t (aO ht)) E b.out.2.2.2.2.2.1;rw[b.out.2.2.2.2.2.2.2.2]at V
 have K:v=lK (qa d.lev (d.au.take count)) (if d.lev<=0 then [] else d.au.take count) (d.raw.take N) last d.L:=by
  rw[<-rY,<-b.out.2.2.2.2.2.2.2.2];rfl
 have y:∀W,kH w1 W b0 M.gw M.Aw v->∃Aw nw cw,ek w c W b0 g { M with Aw:=Aw,nw:=nw,cw:=cw } { d with L:=v } done:=λW hb=>by
  obtain⟨⟨A',n',c',q1,q2⟩,q3⟩ :=hb
  exact⟨A',n',c',(b.out.1.refl.keeps N7.out).writer q3 q1 λk a=>by
   rcases a with a | a
   · exact .inl (.inl a)
   rcases q2 k a with h | h
   · exact .inl (.inr h)
   exact .inr h⟩
 have an:Hid (d.lev<=0->Calls Tryz.prog 65 #[.pointer (some ⟨M.gw,0,none⟩), .int .i64 0, .slice none 0 0, .slice M.Ar N N, .bool last] w1 λe w'=>e= .returned (.bool true)/\kH w1 w' b0 M.gw M.Aw v):=λz=>by
  have hz:=k0 z;rw[af z]at V K;rw[hz]at V K;rw[K];exact En w1 b0 M.gw M.nw M.cw M.Aw _ o.out.RI 0 none 0 0 [] ⟨rfl,λh=>absurd h δ⟩ δ (λh=>absurd h δ) (λt ht=>by simp at ht) M.Ar N N (d.raw.take N) pd (λ_=>dA M.Ar 4 o.out.cr δ) G last V b.out.2.2.2.2.2.2.2.1
 have am:Hid (¬d.lev<=0->Calls Tryz.prog 66 #[.pointer (some ⟨M.gw,0,none⟩), .slice M.At count count, .slice M.Ar N N, .bool last] w1 λe w'=>(∃q:Int,e= .returned (.int .i64 q))/\kH w1 w' b0 M.gw M.Aw v):=λz=>by
  rw[aa z]at K;have a:qa d.lev (d.au.take count)=(iV (ou (d.au.take count) N) 3).1:=by unfold qa;rw[aa z,b.out.2.2.2.2.2.2.2.2]
  rw[a]at K k1;refine(KH w1 b0 M.gw M.nw M.cw M.Aw _ o.out.RI M.At count count (d.au.take count) jJ ω (λ_=>dA M.At 5 o.out.ct δ) E M.Ar N N (d.raw.take N) pd (λ_=>dA M.Ar 4 o.out.cr δ) G last b.out.2.2.2.2.2.2.2.1).mono λe w' hp=> ?_;obtain⟨C,n⟩ :=hp;refine⟨⟨_,C⟩, ?_⟩;rcases n with ⟨h3,_⟩ | ⟨_,h3⟩
  · omega
  rw[K];exact h3
 have a2l:=η y;have Ew:=η rY;clear dA pd jJ E G k0 k1 V K y rY
 go_upto_if 29 with fail
 go_cut [] (λwx=>Hid (∃Aw nw cw,ek w c wx b0 g { M with Aw:=Aw,nw:=nw,cw:=cw } { d with L:=v } done))
 case first=>
  by_cases z:d.lev<=0
  · have HX:=η (an.out z)
    go_wp2_with fail;refine HX.out.mono ?_;rintro e w2 ⟨rfl,n⟩;have r:=η (a2l.out _ n);clear n
    go_wp2_with fail;go_meet;exact r.out
  have HX:=η (am.out ω);have bo:decide (d.lev<=0)=false:=by simpa using z
  go_wp2_with fail;refine HX.out.mono ?_;rintro e w2 ⟨⟨q,rfl⟩,n⟩;have r:=η (a2l.out _ n);clear n
  go_wp2_with fail;go_meet;exact r.out
 obtain⟨Aw,nw,cw,cc,O,ac⟩ :=hcut.out
 have CG:N<=M.nr/\M.nr<=M.cr/\M.nr<=900000000000:=by
  have C:=O.raw.1;have n:=O.raw.2.jT;have h3:=b.out;have h4:M.nr=d.raw.length:=C;exact⟨ω,n,ε h3.2.2.2.2.2.2.2.2 P3.out⟩
 have H:=(ax wc.heap.size wc).alloc (ai _) (.cells #[] 5);obtain⟨f0,f1,f2,f3,f4,f5⟩ :=(O.keeps H).cells;have aE:=cZ (P:=Tryz.prog) 22 5 Tryz.underlying22 Q.out.1 Q.out.2.2.1 M.Ar M.nr M.cr CG.1;have SA:bT .u8 (wc.alloc (.cells #[] 5)) wc.heap.size (dr M.Ar M.cr N) (M.nr-N) (d.raw.drop N):=((O.raw.rd.dr (j:=N) CG.1 CG.2.1).below H);have r:=η (⟨O,ac⟩ :_/\_);have bl:(N:Int)<=(M.nr:Int):=ω;clear hcut O ac an am a2l ao d0 d1 d2 d3 d4 d5 QE Fq H
 go_upto_region 7 with (at_builtin;(refine bq .u8 wc.heap.size 5 i1 1 rfl (.tmp 46) (.tmp 52) _ rfl Tryz.underlying22 Q.out.1 Q.out.2.1 Q.out.2.2.1 Q.out.2.2.2 rfl (ba.lit rfl [] _ (ai _) σ) rfl SA ξ ω σ ?_)
                        intro A2 q2 w2 jB ab kK;simp only [List.nil_append,Nat.zero_add]at jB;have I:Below wc.heap.size wc w2:=((ax wc.heap.size wc).alloc (ai _) _).grown ab σ (by simp [ak]);have u:=r.out.1.keeps I;have y3:=u.cell.cell (i:=3) ω;have z3:=u.cell.frozen' (i:=3) ω)
 have oX:g<wc.heap.size:=r.out.1.cell.lt;have rS:∀k,ak A2=some k->wc.heap.size<=k:=λk a=>(jB.2.lt a).1;have s:bk wc (w2.setCell ⟨g,3,none⟩ (.slice A2 (M.nr-N) q2)) (λk=>k=g\/ak M.Ar=some k):=(bk.bJ I).setCell (.inl (.inl rfl)) _
 have gu:Ar (w2.setCell ⟨g,3,none⟩ (.slice A2 (M.nr-N) q2)) g 6 (eF { M with Aw:=Aw,nw:=nw,cw:=cw,Ar:=A2,nr:=M.nr-N,cr:=q2 } d.lev done):=(u.cell.bK (i:=3) ω _).congr (λj hj=>by
  obtain rfl | rfl | rfl | rfl | rfl | rfl:j=0\/j=1\/j=2\/j=3\/j=4\/j=5:=ω;all_goals rfl)
 have m:ba .u8 (w2.setCell ⟨g,3,none⟩ (.slice A2 (M.nr-N) q2)) b0 5 A2 (M.nr-N) q2 (d.raw.drop N):=(jB.far (p:= ⟨g,3,none⟩) (λe=>by have:=rS g e;omega) _).more r.out.1.lo;have hS:ek w c wc b0 g { M with Aw:=Aw,nw:=nw,cw:=cw } { d with L:=v } done:= ⟨cc,r.out.1,r.out.2⟩;obtain⟨c3,A,F⟩ :=hS.WO s gu m (λk a=> .inr (rS k a));obtain⟨f,D⟩ :=ν (w2.setCell ⟨g,3,none⟩ (.slice A2 (M.nr-N) q2));rw[D]at A F;rw[D]
 have mU:count<=M.nt/\M.nt<=M.ct:=by
  have C:M.nt=d.au.length:=A.tok.1;exact⟨τ b.out,A.tok.2.jT⟩
 have bi:M.nt<=1000000000:=by have C:M.nt=d.au.length:=A.tok.1;have:=be.out;omega
 have H:=(ax f.heap.size f).alloc (ai _) (.cells #[] 109);have bs:=(A.keeps H).cells.2.2.2.2.1;have ap:=zk (P:=Tryz.prog) 65 109 Tryz.underlying65 Hi.out.1 Hi.out.2.2.1 M.At M.nt M.ct mU.1;have Vx:mn (f.alloc (.cells #[] 109)) f.heap.size (if M.ct=count then M.At else M.At.map (·.add (count*3))) (M.nt-count) (d.au.drop count):=((A.tok.rd.from_ (j:=count) mU.1 mU.2).below H);have H4:=η (⟨A,F⟩ :_/\_);have Qw:(count:Int)<=(M.nt:Int):=ω;obtain⟨AT,al⟩ :=ν ((if M.ct=count then M.At else M.At.map (·.add (count*3))));rw[al]at ap Vx;clear oX rS s gu m hS D jB ab kK I u y3 z3 aE SA f0 f1 f2 f3 f4 f5 A F r H al
 go_wp2_with (at_builtin;(refine nG f.heap.size i0 rfl (.tmp 57) (.tmp 63) rfl Hi.out.1 Hi.out.2.1 Hi.out.2.2.1 Hi.out.2.2.2 rfl (kh.b19 f _ (ai _)) rfl Vx ω σ ?_)
              intro R q5 w5 nV oz jD;simp only [List.nil_append,Nat.zero_add]at nV;have mr:Below f.heap.size f w5:=((ax f.heap.size f).alloc (ai _) _).grown oz σ (by simp [ak]);have Sb:=H4.out.1.keeps mr;have y4:=Sb.cell.cell (i:=4) ω;have z4:=Sb.cell.frozen' (i:=4) ω)
 have oX:g<f.heap.size:=H4.out.1.cell.lt;have rI:∀k,ak R=some k->f.heap.size<=k:=λk a=>(nV.2.lt a).1;have s:bk f (w5.setCell ⟨g,4,none⟩ (.slice R (M.nt-count) q5)) (λk=>k=g\/ak M.At=some k):=(bk.bJ mr).setCell (.inl (.inl rfl)) _
 have gu:Ar (w5.setCell ⟨g,4,none⟩ (.slice R (M.nt-count) q5)) g 6 (eF { M with Aw:=Aw,nw:=nw,cw:=cw,Ar:=A2,nr:=M.nr-N,cr:=q2,At:=R,nt:=M.nt-count,ct:=q5 } d.lev done):=(Sb.cell.bK (i:=4) ω _).congr (λj hj=>by
  obtain rfl | rfl | rfl | rfl | rfl | rfl:j=0\/j=1\/j=2\/j=3\/j=4\/j=5:=ω;all_goals rfl)
 have m:kh (w5.setCell ⟨g,4,none⟩ (.slice R (M.nt-count) q5)) b0 R (M.nt-count) q5 (d.au.drop count):= ⟨nV.1,(nV.2.far (p:= ⟨g,4,none⟩) (λe=>by have:=rI g e;omega) _).more H4.out.1.lo⟩;have hS:ek w c f b0 g { M with Aw:=Aw,nw:=nw,cw:=cw,Ar:=A2,nr:=M.nr-N,cr:=q2 } { d with L:=v,raw:=d.raw.drop N } done:= ⟨c3,H4.out.1,H4.out.2⟩;have hF:=hS.tokens s gu m (λk a=> .inr (rI k a));have he:j3 d count last={ d with L:=v,raw:=d.raw.drop N,au:=d.au.drop count }:=by rw[<-Ew.out,<-b.out.2.2.2.2.2.2.2.2];rfl
 rw[he];go_end0;exact⟨rfl,_,hF⟩
section
variable {X P:aj} {d:kM} {K:Nat}
structure Er (d:kM):Prop where
 snd:∀t∈d.au,cF t
 lit:∀t∈d.au,0<=t.lit/\t.lit<256
 jR:∀x∈d.raw,0<=x/\x<256
 nt:d.au.length<=16777216
 nr:d.raw.length<=16777216
 first:∀count,bO (d.au.take count)<=d.raw.length
 full:0<bP d.au->16384<=bO (d.au.take (bP d.au))/\bO (d.au.take (bP d.au))<=65535
 RZ:d.f.Ok d.f.at_
 nD:d.f.D.length<=16777216
 fby:∀x∈d.f.D,0<=x/\x<256
theorem od.facts (h:od X P d):Er d:=by
 obtain⟨all,kinds,stops,fA,pre,h⟩ :=h;have e:all.length+d.raw.length=X.length:=by rw[<-ag,h.X6]
 have b:=h.big;have f:=J3 h.sound;have c:=(h.first d.au.length).2;rw[aC (ai _)]at c;exact⟨h.sound,h.lit,λx a=>h.jR x (by rw[<-h.X6];exact bD _ a),ω,ω,λcount=>(h.first count).2,λhf=>τ (Ld h hf),h.RZ,by rw[h.fd];exact b,by rw[h.fd];exact h.jR⟩
def DB (K:Nat) (X P:aj) (d:kM):Prop:=od X P d/\d.L.length+100*d.raw.length<=K
theorem DB.lay (h:DB K X P d) (hf:0<bP d.au):DB K X P (j3 d (bP d.au) false):=by
 refine⟨h.1.lay hf, ?_⟩;have hF:=h.1.facts;obtain⟨all,kinds,stops,fA,pre,a⟩ :=h.1;have b:=Bi a (bP d.au) false (hF.full hf).2;have c:(j3 d (bP d.au) false).raw.length=d.raw.length-bO (d.au.take (bP d.au)):=az;have f:=h.2;have e:=hF.first (bP d.au)
 have h4:=hF.full hf;omega
theorem DB.more (h:DB K X P d) {a:Nat} (b:K<=a):DB a X P d:= ⟨h.1,aw h.2 b⟩
theorem DB.size (h:DB K X P d):d.L.length<=K:=by have:=h.2;omega
theorem od.grow (h:od X P d) (x:aj) (b:(X++x).length<=16777216) (a:∀v∈x,0<=v/\v<256):od (X++x) P { d with raw:=d.raw++x,f:=js d.f x }:=by
 obtain⟨all,kinds,stops,fA,pre,h⟩ :=h;exact⟨_,_,_,_,_,h.grow x b a⟩
theorem od.au (h:od X P d) (left:Nat):od X P (jN left d):=by
 obtain⟨all,kinds,stops,fA,pre,h⟩ :=h;exact⟨_,_,_,_,_,(h.jN left).1⟩
theorem DB.grow (h:DB K X P d) (x:aj) (b:(X++x).length<=16777216) (a:∀v∈x,0<=v/\v<256):DB (K+100*x.length) (X++x) P { d with raw:=d.raw++x,f:=js d.f x }:=
 ⟨h.1.grow x b a,by have:=h.2;show d.L.length+100*(d.raw++x).length<=_;rw[ag];omega⟩
theorem DB.au (h:DB K X P d) (left:Nat):DB K X P (jN left d):= ⟨h.1.au left,h.2⟩
theorem DB.drain (h:DB K X P d) (k:Nat):DB K X P (lW k d):=Av (λ_ q hf=>q.lay hf) k d h
theorem DB.fH (h:DB K X P d) (k:Nat):DB K X P (fH k d):=qF (λ_ q hf=>q.lay hf) k d h
theorem DB.chunk (h:DB K X P d) {x:aj} (b:(X++x).length<=16777216) (a:∀v∈x,0<=v/\v<256):DB (K+100*x.length) (X++x) P (uv d x):=((h.grow x b a).au 261).drain _
theorem DB.write:∀(k:Nat) {K:Nat} {X:aj} {d:kM} (b:aj),DB K X P d->b.length<=k->(X++b).length<=16777216->(∀v∈b,0<=v/\v<256)->DB (K+100*b.length) (X++b) P (dZ k d b)
 | 0,K,X,d,b,h,hk,_,_=>by
   have:b=[]:=aG ω;subst this;rw[aA];exact h
 | k+1,K,X,d,b,h,hk,hl,hb=>by
   unfold dZ;split
   · rename_i c
     rw[ag]at hl
     have a:=DB.write k (b.drop (min b.length 16384)) (h.chunk (x:=b.take (min b.length 16384)) (by rw[ag,aD];omega) λv hv=>hb v (aO hv)) (by rw[az];omega)
      (by rw[av,aU,ag];exact hl) λv hv=>hb v (bu hv)
     rw[av,aU,aD,az]at a;exact a.more ω
   have:b=[]:=aG ω;subst this;rw[aA];exact h
theorem DB.rest (h:DB K X P d):DB K X P (eL d):=(h.au 0).fH _
theorem DB.new (lev:Int):DB 0 [] [] (oO lev):= ⟨⟨_,_,_,_,_,se.new lev⟩,ai _⟩
theorem Hw (d:kM):lW d.au.length d=if 0<bP d.au then lW (j3 d (bP d.au) false).au.length (j3 d (bP d.au) false)else d:=by
 have c:∀(k:Nat) (d:kM),d.au.length<=k->∀j,lW (k+j) d=lW k d:=λk=>by
  induction k with
  | zero=>
    intro d hd j;have a:bP d.au=0:=by have:=ma d.au;omega
    cases j with
    | zero=>rfl
    | succ j=>show(if 0<bP d.au then _ else d)=d;rw[aa ω]
  | succ k b=>
    intro d hd j;rw[show k+1+j=(k+j)+1 by omega];show(if 0<bP d.au then lW (k+j) _ else d)=(if 0<bP d.au then lW k _ else d);split
    · exact b _ (by show(d.au.drop _).length<=k;rw[az];omega) j
    rfl
 by_cases a:0<bP d.au
 · rw[af a];have e:=ma d.au;obtain⟨k,f⟩ :∃k,d.au.length=k+1:= ⟨d.au.length-1,ω⟩;have g:(j3 d (bP d.au) false).au.length=d.au.length-bP d.au:=az;rw[f];show(if 0<bP d.au then lW k _ else d)=_;rw[af a];have:=c (j3 d (bP d.au) false).au.length (j3 d (bP d.au) false) (ai _) (k-(j3 d (bP d.au) false).au.length);rw[gR ω]at this;exact this
 rw[aa a];cases d.au.length with
 | zero=>rfl
 | succ k=>show(if 0<bP d.au then _ else d)=d;rw[aa a]
theorem Hx (d:kM):fH d.au.length d=if 0<bP d.au/\bP d.au<d.au.length then fH (j3 d (bP d.au) false).au.length (j3 d (bP d.au) false)else d:=by
 have c:∀(k:Nat) (d:kM),d.au.length<=k->∀j,fH (k+j) d=fH k d:=λk=>by
  induction k with
  | zero=>
    intro d hd j;have a:bP d.au=0:=by have:=ma d.au;omega
    cases j with
    | zero=>rfl
    | succ j=>show(if 0<bP d.au/\_ then _ else d)=d;rw[aa ω]
  | succ k b=>
    intro d hd j;rw[show k+1+j=(k+j)+1 by omega];show(if 0<bP d.au/\bP d.au<d.au.length then fH (k+j) _ else d)=(if 0<bP d.au/\bP d.au<d.au.length then fH k _ else d);split
    · exact b _ (by show(d.au.drop _).length<=k;rw[az];omega) j
    rfl
 by_cases a:0<bP d.au/\bP d.au<d.au.length
 · rw[af a];have f:=ma d.au;obtain⟨k,g⟩ :∃k,d.au.length=k+1:= ⟨d.au.length-1,ω⟩;have i:(j3 d (bP d.au) false).au.length=d.au.length-bP d.au:=az
   have e:fH (k+1) d=fH k (j3 d (bP d.au) false):=by
    show(if 0<bP d.au/\bP d.au<d.au.length then fH k _ else d)=_;rw[af a]
   rw[g,e];have:=c (j3 d (bP d.au) false).au.length (j3 d (bP d.au) false) (ai _) (k-(j3 d (bP d.au) false).au.length);rw[gR ω]at this;exact this
 rw[aa a];cases h:d.au.length with
 | zero=>rfl
 | succ k=>show(if 0<bP d.au/\bP d.au<d.au.length then _ else d)=d;rw[aa a]
theorem JZ (d:kM) (b:aj):dZ b.length d b=if 0<b.length then dZ (b.drop (min b.length 16384)).length (uv d (b.take (min b.length 16384))) (b.drop (min b.length 16384))else d:=by
 have f:∀(k:Nat) (b:aj) (d:kM),b.length<=k->∀j,dZ (k+j) d b=dZ k d b:=λk=>by
  induction k with
  | zero=>
    intro b d hd j;cases j with
    | zero=>rfl
    | succ j=>show(if 0<b.length then _ else d)=d;rw[aa ω]
  | succ k c=>
    intro b d hd j;rw[show k+1+j=(k+j)+1 by omega];show(if 0<b.length then dZ (k+j) _ _ else d)=(if 0<b.length then dZ k _ _ else d);split
    · exact c _ _ (by rw[az];omega) j
    rfl
 by_cases a:0<b.length
 · rw[af a];obtain⟨k,g⟩ :∃k,b.length=k+1:= ⟨b.length-1,ω⟩;have i:(b.drop (min b.length 16384)).length=b.length-min b.length 16384:=az
   have e:dZ (k+1) d b=dZ k (uv d (b.take (min b.length 16384))) (b.drop (min b.length 16384)):=by
    show(if 0<b.length then dZ k _ _ else d)=_;rw[af a]
   rw[show dZ b.length d b=dZ (k+1) d b by rw[g],e];have:=f (b.drop (min b.length 16384)).length (b.drop (min b.length 16384)) (uv d (b.take (min b.length 16384))) (ai _) (k-(b.drop (min b.length 16384)).length);rw[gR ω]at this;exact this
 rw[aa a];cases h:b.length with
 | zero=>rfl
 | succ k=>omega
end
section
variable {w w' w0:World} {b0 g:Nat} {c c0 c':Nat->Nat} {M M':EM} {d d':kM} {done done':Bool}
theorem DE.trans (h:DE b0 w0 c0 w c) (b:DE b0 w c w' c'):DE b0 w0 c0 w' c':=
 ⟨h.1.trans b.1,h.2.1.trans b.2.1 (λk a=>by
   rcases aV k w0.heap.size with d | d
   · exact .inl (by rw[<-h.2.2 k d];exact a)
   exact .inr d),λk a=>(b.2.2 k (aB a h.2.1.size)).trans (h.2.2 k a)⟩
theorem ek.Eg {a:EM} (h:DE b0 w0 c0 w c) (d:ek w c w' b0 g a d' done'):ek w0 c0 w' b0 g a d' done':=by
 obtain⟨c2,b,h4⟩ :=d;exact⟨c2,b,h.trans h4⟩
end
section
variable {w w' w0:World} {b0 g:Nat} {c c0:Nat->Nat} {M:EM} {d:kM} {done:Bool}
theorem JT {left:Nat} {l:List cy} {st':jf} (hF:Er d) (a:zm (gS d.lev) left d.f l st') (b:st'.D.length-st'.at_<=left):jN left d={ d with f:=st',au:=d.au++l }/\l.length<=16777216:=by
 have h:=JP (e:=gS d.lev) (left:=left) (d.f.D.length-d.f.at_) a b hF.RZ (ai _);unfold jN;rw[h];refine⟨rfl, ?_⟩;obtain⟨g,c,i,h4⟩ :=G4 a hF.RZ;have h5:=g.hi;have h6:=hF.nD;rw[<-c]at h6;omega
theorem ik.app {b n:World} {a:ay} {m h:Nat} {l:List cy} (h5:ik b b0 g c M d done) (u:kh n b0 a (M.nt+m) h (d.au++l)) (v:b.grownBy n (ak M.At)) (o:ak a=ak M.At\/ak a=some b.heap.size):
  ek b c (n.setCell ⟨g,4,none⟩ (.slice a (M.nt+m) h)) b0 g { M with At:=a,nt:=M.nt+m,ct:=h } { d with au:=d.au++l } done:=by
 have t:ak a≠some g:=λe=>by
  rcases o with q | q
  · have y:=h5.ct g (by rw[<-q,e]);have x:=h5.cg;omega
  rw[e]at q;injection q with q;have:=h5.cell.lt;omega
 have r:some g≠ak M.At:=λe=>by have y:=h5.ct g e.symm;have x:=h5.cg;omega
 have s:bk b (n.setCell ⟨g,4,none⟩ (.slice a (M.nt+m) h)) (λk=>k=g\/ak M.At=some k):=((bk.refl b _).grown v (λk f=> .inl (.inr f))).setCell (.inl (.inl rfl)) _
 have w:Ar (n.setCell ⟨g,4,none⟩ (.slice a (M.nt+m) h)) g 6 (eF { M with At:=a,nt:=M.nt+m,ct:=h } d.lev done):=((h5.cell.grown v r).bK (i:=4) ω _).congr (λj z=>by
  obtain rfl | rfl | rfl | rfl | rfl | rfl:j=0\/j=1\/j=2\/j=3\/j=4\/j=5:=ω;all_goals rfl)
 exact h5.refl.tokens s w ⟨u.1,u.2.far (p:= ⟨g,4,none⟩) (λe=>t e) _⟩ (λk f=>by
  rcases o with e | e
  · exact .inl (e▸f)
  rw[e]at f;injection f with f;exact .inr ω)
theorem ek.full (h:ek w0 c0 w b0 g M d done) (hF:Er d):Calls Tryz.prog 42 #[.pointer (some ⟨g,0,none⟩)] w λe w'=>e= .returned (.int .i64 ((bP d.au:Nat):Int))/\ek w0 c0 w' b0 g M d done:=by
 obtain⟨c,a,b⟩ :=h;have f:M.nt=d.au.length:=a.tok.1;exact(PC w g M.At M.nt M.ct d.au a.cells.2.2.2.2.1 a.tok.rd (τ hF.nt) hF.snd).mono λe w' hp=> ⟨hp.1,ek.keeps ⟨c,a,b⟩ hp.2⟩
theorem ek.lay (h:ek w0 c0 w b0 g M d done) (hF:Er d) (f:d.L.length<=2000000000000) (count:Nat) (b:count<=d.au.length) (a:bO (d.au.take count)<=65535) (last:Bool):
  Calls Tryz.prog 43 #[.pointer (some ⟨g,0,none⟩), .int .i64 count, .bool last] w λe w'=>e= .returned (.tuple #[])/\∃M',ek w0 c0 w' b0 g M' (j3 d count last) done:=by
 obtain⟨c,j,i⟩ :=h;exact(a0t w b0 g c M d done j hF.snd hF.lit hF.jR count b a (hF.first count) f (τ hF.nt) (τ hF.nr) last).mono λe w' hp=> ⟨hp.1,by obtain⟨M',hp⟩ :=hp.2;exact⟨M',ek.Eg i hp⟩⟩
theorem ek.cells (h:ek w0 c0 w b0 g M d done):w.cell? ⟨g,0,none⟩ =some (.pointer (some ⟨M.gf,0,none⟩))/\w.cell? ⟨g,1,none⟩ =some (.pointer (some ⟨M.gw,0,none⟩))/\w.cell? ⟨g,2,none⟩ =some (.int .i64 d.lev)/\w.cell? ⟨g,3,none⟩ =some (.slice M.Ar M.nr M.cr)/\w.cell? ⟨g,4,none⟩ =some (.slice M.At M.nt M.ct)/\w.cell? ⟨g,5,none⟩ =some (.bool done):=by
 obtain⟨c,a,b⟩ :=h;exact a.cells
theorem ek.nt (h:ek w0 c0 w b0 g M d done):M.nt=d.au.length:=by
 obtain⟨c,a,b⟩ :=h;exact a.tok.1
end
def YH (w:World) (c:Nat->Nat) (b0 g:Nat) (done:Bool) (K:Nat) (X P:aj) (D:kM) (gk:Nat) (v:Value) (wx:World):Prop:=∃M' d',v= .int .i64 ((bP d'.au:Nat):Int)/\ek w c wx b0 g M' d' done/\DB K X P d'/\fH d'.au.length d'=D/\gk=d'.au.length
theorem WQ (w:World) (b0 g:Nat) (c:Nat->Nat) (M:EM) (d:kM) (done:Bool) (h:ik w b0 g c M d done) {K:Nat} {X P:aj} (hB:DB K X P d) (hK:K<=2000000000000):
  Calls Tryz.prog 45 #[.pointer (some ⟨g,0,none⟩)] w λe w'=>e= .returned (.tuple #[])/\∃M',ek w c w' b0 g M' (eL d) done:=by
 obtain⟨i0,hi,v,u,t⟩ :=aL xt;have Hi:=η (⟨hi,v,u,t⟩ :_/\_/\_/\_);obtain⟨c0,c1,c2,c3,c4,c5⟩ :=h.cells;obtain⟨nm,Dm,hf⟩ :=h.fnd;have ac:=η (yC true (hf.keeps (ax _ _).drew));have J:=η (⟨h,hB,hK,hB.1.facts⟩ :_/\_/\_/\_);clear hi v u t hf h hB hK c1 c2 c3 c5;go_enter Tryz.func45,Tryz.ntmps45
 go_wp2_with fail
 go_region_law
  (first
    | (go_simp;go_at_call 41;(refine ac.out.mono ?_)
       rintro e w5 ⟨l,st',At,nt,ct,rfl,n,x,j,z,B⟩;have UW:bk w w5 (FF M.A M.gm M.Ap M.gf):=((bk.refl w _).drew).trans B (λk T=> .inl T);have h5:ek w c w5 b0 g M { d with f:=st' } done:=J.out.1.refl.AE UW z (λk T=> .inl T);have S:=η (JT J.out.2.2.2 n x);clear n x z B UW;obtain⟨c5,h5,zy⟩ :=h5;have e4:=h5.cells.2.2.2.2.1)
    | (have _g:=j;(refine Eb b0 i0 rfl (.tmp 7) (.tmp 12) rfl Hi.out.1 Hi.out.2.1 Hi.out.2.2.1 Hi.out.2.2.2 rfl h5.tok rfl j.rd (by have h1:=h5.tok.1;have h2:=J.out.2.2.2.nt;have h3:=j.1;have h4:=S.out.2;have h6:M.nt=d.au.length:=h1;omega) h5.lo ?_)
       intro A6 c6 w6 kP U iZ;have Z:=h5.cell.grown U (λe=>by have h1:=h5.ct g e.symm;have h2:=h5.cg;omega);have ab:=Z.cell (i:=4) ω;have R:=Z.frozen' (i:=4) ω))
 all_goals
  have h6:=ek.Eg zy (h5.app kP U iZ);have D:=S.out.1;have b:=J.out.2.1.au 0;have L:fH (jN 0 d).au.length (jN 0 d)=eL d:=rfl;have C:jN 0 d={ d with f:=st',au:=d.au++l }:=D;rw[C]at b L;have h7:ek w c (w6.setCell ⟨g,4,none⟩ (.slice A6 (M.nt+nt) c6)) b0 g { M with At:=A6,nt:=M.nt+nt,ct:=c6 } { d with f:=st',au:=d.au++l } done:=h6;clear h6 D C S j h5 zy e4 kP U iZ Z ab R;obtain⟨W,hW⟩ :=ν (w6.setCell ⟨g,4,none⟩ (.slice A6 (M.nt+nt) c6));obtain⟨d2,Y⟩ :∃d2,({ d with f:=st',au:=d.au++l }:kM)=d2:= ⟨_,rfl⟩;rw[hW,Y]at h7;rw[Y]at b L;rw[hW];clear hW Y;have m:=η (h7.full b.1.facts);have I:=η (⟨b,L⟩ :_/\_);clear h7 b L
  go_wp2_with fail;refine m.out.mono ?_;rintro e w8 ⟨rfl,h8⟩;have Q:=η h8;clear h8
  go_wp2_with fail;go_loopg [2] d2.au.length (YH w c b0 g done K X P (eL d))
  case atStart=>exact⟨_,_,rfl,Q.out,I.out.1,I.out.2,rfl⟩
  obtain⟨M',d',rfl,q,s,o,p⟩ :=hrel;have H:=q.cells.2.2.2.2.1;rw[q.nt]at H;have r:=s.1.facts;obtain⟨F,hF⟩ :=ν (bP d'.au);obtain⟨N,hN⟩ :=ν (d'.au.length);rw[hN]at H;have ah:N<=16777216:=by have:=r.nt;omega
  have Zx:=ma d'.au;have al:(0:Int)<=(F:Int)/\(F:Int)<=16777216/\(N:Int)<=16777216:=ω;rw[Hx]at o;by_cases a:0<F/\F<N
  · have y:(0:Int)<(F:Int)/\(F:Int)<(N:Int)/\0<F/\F<N:=ω;rw[hF,hN,af a]at o;have ad:=η (q.lay r (ε s.size J.out.2.2.1) F ω (by rw[<-hF];exact(r.full ω).2) false);have Lk:=s.lay ω;rw[hF]at Lk⊢;have Qn:(j3 d' F false).au.length<gk:=by rw[show(j3 d' F false).au.length=d'.au.length-F from az];omega
    have O:=η (⟨Lk,o,Qn⟩ :_/\_/\_);clear a hF hN Zx o q s Lk Qn p r I Q m
    go_wp2_with fail;refine ad.out.mono ?_;rintro e Gi ⟨rfl,am,G⟩;have ae:=η (G.full O.out.1.1.facts);clear G
    go_wp2_with fail;refine ae.out.mono ?_;rintro e OP ⟨rfl,E⟩;have Kp:=η E;clear E
    go_wp2_with fail;go_roundg (j3 d' F false).au.length
    case measure=>exact O.out.2.2
    case rel=>exact⟨_,_,rfl,Kp.out,O.out.1,O.out.2.1,rfl⟩
  rw[hF,hN,aa a]at o;have V:∃M',ek w c wr b0 g M' (eL d) done:= ⟨M',by rw[<-o];exact q⟩;have OY:=η V;rw[hF];by_cases h0:0<F
  · have y:(0:Int)<(F:Int)/\¬(F:Int)<(N:Int)/\0<F/\¬F<N:=ω;clear a hF hN Zx o q s p r I Q m V
    go_wp2_with fail;go_end0;exact⟨rfl,OY.out⟩
  have y:¬(0:Int)<(F:Int)/\¬0<F:=ω;clear a hF hN Zx o q s p r I Q m V
  go_wp2_with fail;go_end0;exact⟨rfl,OY.out⟩
section
variable {w w' w0:World} {b0 g:Nat} {c c0:Nat->Nat} {M:EM} {d:kM} {done:Bool}
theorem ik.a8R {h:World} {a:ay} {m f:Nat} {l:aj} (h5:ik w b0 g c M d done) (u:ba .u8 h b0 5 a (M.nr+m) f (d.raw++l)) (t:w.grownBy h (ak M.Ar)) (n:ak a=ak M.Ar\/ak a=some w.heap.size):
  ek w c (h.setCell ⟨g,3,none⟩ (.slice a (M.nr+m) f)) b0 g { M with Ar:=a,nr:=M.nr+m,cr:=f } { d with raw:=d.raw++l } done:=by
 have s:ak a≠some g:=λe=>by
  rcases n with o | o
  · have y:=h5.cr g (by rw[<-o,e]);have x:=h5.cg;omega
  rw[e]at o;injection o with o;have:=h5.cell.lt;omega
 have q:some g≠ak M.Ar:=λe=>by have y:=h5.cr g e.symm;have x:=h5.cg;omega
 have r:bk w (h.setCell ⟨g,3,none⟩ (.slice a (M.nr+m) f)) (λk=>k=g\/ak M.Ar=some k):=((bk.refl w _).grown t (λk b=> .inl (.inr b))).setCell (.inl (.inl rfl)) _
 have v:Ar (h.setCell ⟨g,3,none⟩ (.slice a (M.nr+m) f)) g 6 (eF { M with Ar:=a,nr:=M.nr+m,cr:=f } d.lev done):=((h5.cell.grown t q).bK (i:=3) ω _).congr (λj z=>by
  obtain rfl | rfl | rfl | rfl | rfl | rfl:j=0\/j=1\/j=2\/j=3\/j=4\/j=5:=ω;all_goals rfl)
 exact h5.refl.WO r v (u.far (p:= ⟨g,3,none⟩) (λe=>s e) _) (λk b=>by
  rcases n with e | e
  · exact .inl (e▸b)
  rw[e]at b;injection b with b;exact .inr ω)
theorem ek.ri (h:ek w0 c0 w b0 g M d done) {k:IntKind} {B n:Nat} {A:ay} {l:aj} (i:bT k w0 B A n l) (j:B<=w0.heap.size) (b:0<n->∀a,A=some a->c0 a.block=0):bT k w B A n l:=by
 obtain⟨c,p,m⟩ :=h;exact m.2.1.ri i j λo a e f=>f (b o a e)
theorem ek.size (h:ek w0 c0 w b0 g M d done):w0.heap.size<=w.heap.size:=by
 obtain⟨c,b,a⟩ :=h;exact a.2.1.size
theorem KT {A:ay} {c j:Nat} {b:Addr} (h:dr A c j=some b):∃a,A=some a/\b.block=a.block:=by
 unfold dr at h;split at h
 · exact⟨b,h,rfl⟩
 cases A with
 | none=>simp at h
 | some a=>simp at h;exact⟨a,rfl,by rw[<-h,bG]⟩
theorem ik.a2L (h:ik w b0 g c M d done) (hF:d.f.D.length<=16777216) {B m e:Nat} {C:ay} {x:aj} (i:bT .u8 w B C m x) (j:B<=w.heap.size) (b:∀v∈x,0<=v/\v<256) (p:m<=16777216):
  Calls Tryz.prog 40 #[.pointer (some ⟨M.gf,0,none⟩), .slice C m e] w λr w'=>r= .returned (.tuple #[])/\∃M',ek w c w' b0 g M' { d with f:=js d.f x } done:=by
 obtain⟨nm,q,hf⟩ :=h.fnd;refine(Le hf i j b ω).mono ?_;rintro r w' ⟨rfl,A',n',c',Ap',np',cp',a,o,n,l,k⟩;exact⟨rfl,_,h.refl.AE l ⟨a,o,n⟩ k⟩
end
def a2e (w:World) (c:Nat->Nat) (b0 g:Nat) (K:Nat) (X P:aj) (D:kM) (gk:Nat) (v:Value) (wx:World):Prop:=∃M' d',v= .int .i64 ((bP d'.au:Nat):Int)/\ek w c wx b0 g M' d' false/\DB K X P d'/\lW d'.au.length d'=D/\gk=d'.au.length
def Te (w:World) (c:Nat->Nat) (b0 g:Nat) (P:aj) (D:kM) (gk:Nat) (v:Value) (wx:World):Prop:=∃C m e x M' d' K X,v= .slice C m e/\m<=e/\bT .u8 w w.heap.size C m x/\(0<m->∀a,C=some a->c a.block=0)/\(∀v∈x,0<=v/\v<256)/\ek w c wx b0 g M' d' false/\DB K X P d'/\(X++x).length<=16777216/\K+100*m<=2000000000000/\dZ x.length d' x=D/\gk=m
theorem L6 (w:World) (b0 g:Nat) (c:Nat->Nat) (M:EM) (d:kM) (h:ik w b0 g c M d false) {K:Nat} {X P:aj} (hB:DB K X P d) (C:ay) (m e:Nat) (x:aj) (O:bT .u8 w w.heap.size C m x) (Yb:m<=e) (dA:0<m->∀ad,C=some ad->c ad.block=0) (s:∀v∈x,0<=v/\v<256) (hX:(X++x).length<=16777216) (hK:K+100*m<=2000000000000):
  Calls Tryz.prog 25 #[.pointer (some ⟨g,0,none⟩), .slice C m e] w λr w'=>r= .returned (.int .i64 0)/\∃M',ek w c w' b0 g M' (dZ m d x) false:=by
 obtain⟨i0,hi,am,al,ah⟩ :=aL xt;have Hi:=η (⟨hi,am,al,ah⟩ :_/\_/\_/\_);obtain⟨i1,ki,ae,ac,ab⟩ :=aL ow;have L:=η (⟨ki,ae,ac,ab⟩ :_/\_/\_/\_);obtain⟨c0,c1,c2,c3,c4,c5⟩ :=h.cells;have N:Te w c b0 g P (dZ m d x) m (.slice C m e) w:= ⟨C,m,e,x,M,d,K,X,rfl,Yb,O,dA,s,h.refl,hB,hX,hK,by rw[<-O.1],rfl⟩;clear hi am al ah ki ae ac ab h hB hK c0 c1 c2 c3 c4 O Yb dA s hX;obtain⟨D,hD⟩ :=ν (dZ m d x);rw[hD]at N⊢;clear hD;go_enter Tryz.func25,Tryz.ntmps25
 go_wp2_with fail;go_loopg [1] m (Te w c b0 g P D)
 case atStart=>exact N
 clear N c5;obtain⟨C,m,e,x,M',d',K,X,rfl,Yb,O,dA,s,H,Lj,hX,hK,hD,ao⟩ :=hrel;have mf:x.length=m:=O.1.symm;rw[JZ]at hD;by_cases h0:0<m
 rotate_left
 · have Fj:¬(0:Int)<(m:Int):=ω;rw[aa ω]at hD;have HF:=η (⟨M',by rw[<-hD];exact H⟩ :∃M',ek w c wr b0 g M' D false);clear h0 hD H
   go_wp2_with fail;go_ret;exact⟨rfl,HF.out⟩
 rw[af ω]at hD;obtain⟨n,hn⟩ :=ν (min x.length 16384);rw[hn]at hD;have O2:m<=16777216:=by rw[ag]at hX;omega
 have Fj:(0:Int)<(m:Int)/\(m:Int)<=16777216/\(0:Int)<=(n:Int)/\(n:Int)<=(m:Int):=ω;have Fm:n<=m:=ω;have cb:n<=e:=ω;have HN:=η hn;have a:=η (⟨H,Lj,hX,hK,O,dA,s,hD,ao,mf⟩ :_/\_/\_/\_/\_/\_/\_/\_/\_/\_);clear H Lj hX hK O dA s hD ao;rw[mf]at HN;clear hn;go_upto_region 4 with fail
 go_cut [5] (λv5 wx=>v5= .int .i64 n/\wx=wr)
 case first=>
  have cc:m<16384\/m=16384\/16384<m:=ω;rcases cc with hc | hc | hc
  · have Y:n=m:=by have:=HN.out;omega
    have F8:(m:Int)<16384/\¬(16384:Int)<(m:Int):=ω;subst Y;clear hc
    go_wp2_with fail
    all_goals
     go_meet;exact⟨by go_num,rfl⟩
  · have Y:n=m:=by have:=HN.out;omega
    subst Y;subst hc
    go_wp2_with fail
    all_goals
     go_meet;exact⟨by go_num,rfl⟩
  have Y:n=16384:=by have:=HN.out;omega
  have F8:(16384:Int)<(m:Int)/\¬(m:Int)<16384:=ω;subst Y;clear hc
  go_wp2_with fail
  all_goals
   go_meet;exact⟨by go_num,rfl⟩
 case rest=>
 obtain⟨rfl,ca⟩ :=hcut;obtain rfl:=ca.symm;obtain⟨cA,hE,E⟩ :=a.out.1.keeps (ax wr.heap.size wr).drew;have Yg:bT .u8 wr.drew w.heap.size C m x:=ek.ri ⟨cA,hE,E⟩ a.out.2.2.2.2.1 (ai _) a.out.2.2.2.2.2.1;have SB:=Yg.pre Fm;have cl:=dQ (P:=Tryz.prog) 22 5 Tryz.underlying22 L.out.1 L.out.2.2.1 C m e (j:=n) cb;have c3:=a.out.1.cells.2.2.2.1;have CG:M'.nr+n<=1000000000000:=by have H:M'.nr=d'.raw.length:=hE.raw.1;have:=a.out.2.1.1.facts.nr;omega
 have cp:=η Yg;clear Yg
 go_wp2_with fail
 go_region_law
  (first
    | ((refine eN .u8 b0 5 i1 1 rfl (.tmp 25) (.tmp 28) _ rfl Tryz.underlying22 L.out.1 L.out.2.1 L.out.2.2.1 L.out.2.2.2 rfl hE.raw rfl SB CG ω hE.lo ?_)
       intro A6 c6 w6 kP S iZ;have U:=hE.cell.grown S (λe=>by have H:=hE.cr g e.symm;have h2:=hE.cg;omega);have ce:=U.cell (i:=3) ω;have bL:=U.frozen' (i:=3) ω))
 all_goals
  have h6:=ek.Eg E (hE.a8R kP S iZ);clear hE E SB c3 CG kP S iZ U ce bL;obtain⟨W,hW⟩ :=ν (w6.setCell ⟨g,3,none⟩ (.slice A6 (M'.nr+n) c6));rw[hW]at h6⊢;clear hW;obtain⟨M6,Sd⟩ :∃q,({ M' with Ar:=A6,nr:=M'.nr+n,cr:=c6 }:EM)=q:= ⟨_,rfl⟩;rw[Sd]at h6;clear Sd;have c0:=h6.cells.1;obtain⟨c7,hE,E⟩ :=h6.keeps (ax W.heap.size W).drew;have SB:bT .u8 W.drew w.heap.size C n (x.take n):=(ek.ri ⟨c7,hE,E⟩ a.out.2.2.2.2.1 (ai _) a.out.2.2.2.2.2.1).pre Fm;have bv:=η (hE.a2L (e:=e) a.out.2.1.1.facts.nD SB (by have:=h6.size;exact this) (λv hv=>a.out.2.2.2.2.2.2.1 v (aO hv)) ω);have bB:=η E;clear h6 hE E SB
  go_wp2_with fail
  go_region_law
   ((go_simp;go_at_call 40;(refine bv.out.mono ?_))
    rintro r w8 ⟨rfl,B,h8⟩)
  all_goals
   have p:=ek.Eg bB.out h8;have u:=a.out.2.1.grow (x.take n) (by have h:=a.out.2.2.1;rw[ag]at h⊢;rw[aD];omega) (λv hv=>a.out.2.2.2.2.2.2.1 v (aO hv));obtain⟨z,T⟩ :∃q,({ d' with raw:=d'.raw++x.take n,f:=js d'.f (x.take n) }:kM)=q:= ⟨_,rfl⟩;have aE:lW (jN 261 z).au.length (jN 261 z)=uv d' (x.take n):=by rw[<-T];rfl
   replace p:ek w c w8 b0 g B { d' with raw:=d'.raw++x.take n,f:=js d'.f (x.take n) } false:=p;rw[T]at p u;have ci:=p.cells.1;have ch:=p.cells.2.2.2.2.1;obtain⟨cB,hE,E⟩ :=p;obtain⟨nm,Dm,hf⟩ :=hE.fnd;have bp:=η (yC false (hf.keeps (ax _ _).drew));have Z:=η (⟨hE,E,u,aE⟩ :_/\_/\_/\_);clear bv bB h8 hE E u aE hf T c0
   go_wp2_with fail
   go_region_law
    (first
      | (go_simp;go_at_call 41;(refine bp.out.mono ?_)
         rintro r w5 ⟨l,st',At,nt,ct,rfl,I,an,G,ap,be⟩;have UW:bk w8 w5 (FF B.A B.gm B.Ap B.gf):=((bk.refl w8 _).drew).trans be (λk hk=> .inl hk);have h5:ek w8 cB w5 b0 g B { z with f:=st' } false:=Z.out.1.refl.AE UW ap (λk hk=> .inl hk);have Oa:=η (JT Z.out.2.2.1.1.facts I an);clear I an ap be UW;obtain⟨c5,h5,zy⟩ :=h5;have e4:=h5.cells.2.2.2.2.1)
      | (have _g:=G;(refine Eb b0 i0 rfl (.tmp 44) (.tmp 49) rfl Hi.out.1 Hi.out.2.1 Hi.out.2.2.1 Hi.out.2.2.2 rfl h5.tok rfl G.rd (by have H:=h5.tok.1;have h2:=Z.out.2.2.1.1.facts.nt;have h3:=G.1;have h4:=Oa.out.2;have h6:B.nt=z.au.length:=H;omega) h5.lo ?_)
         intro A6 c6 w6 kP S iZ;have U:=h5.cell.grown S (λe=>by have H:=h5.ct g e.symm;have h2:=h5.cg;omega);have cd:=U.cell (i:=4) ω;have bI:=U.frozen' (i:=4) ω))
   all_goals
    have h6:=ek.Eg Z.out.2.1 (ek.Eg zy (h5.app kP S iZ));have bi:jN 261 z={ z with f:=st',au:=z.au++l }:=Oa.out.1;have t:=Z.out.2.2.1.au 261;have ZI:=Z.out.2.2.2;rw[bi]at t ZI;have h7:ek w c (w6.setCell ⟨g,4,none⟩ (.slice A6 (B.nt+nt) c6)) b0 g { B with At:=A6,nt:=B.nt+nt,ct:=c6 } { z with f:=st',au:=z.au++l } false:=h6;clear h6 bi Oa G h5 zy e4 kP S iZ U cd bI ci ch;obtain⟨W2,hW⟩ :=ν (w6.setCell ⟨g,4,none⟩ (.slice A6 (B.nt+nt) c6));obtain⟨d2,sI⟩ :∃d2,({ z with f:=st',au:=z.au++l }:kM)=d2:= ⟨_,rfl⟩;rw[hW,sI]at h7;rw[sI]at t ZI;rw[hW];clear hW sI;have bx:=η (h7.full t.1.facts);have HX:=η (⟨t,ZI⟩ :_/\_);clear h7 t ZI Z bp
    go_wp2_with fail;refine bx.out.mono ?_;rintro r Gi ⟨rfl,y⟩;have RL:=η y;clear y bx;obtain⟨K2,V⟩ :=ν (K+100*(x.take n).length);rw[V]at HX;have bl:K2+100*(m-n)<=2000000000000:=by rw[<-V,aD];have:=a.out.2.2.2.1;have:=a.out.2.2.2.2.2.2.2.2.2;omega
    have bt:=η bl;clear V bl
    go_wp2_with fail;go_loopg [6] d2.au.length (a2e w c b0 g K2 (X++x.take n) P (uv d' (x.take n)))
    case atStart=>exact⟨_,_,rfl,RL.out,HX.out.1,HX.out.2,rfl⟩
    obtain⟨M9,o,rfl,p,u,J,R⟩ :=hrel;have Sc:=u.1.facts;rw[Hw]at J;by_cases b:0<bP o.au
    rotate_left
    · rw[aa b]at J;have Q:¬(0:Int)<((bP o.au:Nat):Int):=ω;obtain⟨F,hF⟩ :=ν (bP o.au);rw[hF]at Q b⊢;have cm:¬(0:Int)<(F:Int)/\¬0<F:= ⟨Q,b⟩;rw[J]at p u;have HE:=η (⟨p,u⟩ :_/\_);have ck:=cZ (P:=Tryz.prog) 22 5 Tryz.underlying22 L.out.1 L.out.2.2.1 C m e Fm;clear b hF J p u R Sc HX RL Q
      go_wp2_with fail;go_roundg (m-n)
      case measure=>have:=a.out.2.2.2.2.2.2.2.2.1;have:=HN.out;omega
      case rel=>exact⟨dr C e n,m-n,e-n,x.drop n,_,_,_,_,by go_num,ω,a.out.2.2.2.2.1.dr Fm Yb,λh0 ad e=>(by obtain⟨a0,Y,e2⟩ :=KT e;rw[e2];exact a.out.2.2.2.2.2.1 ω a0 Y),λv hv=>a.out.2.2.2.2.2.2.1 v (bu hv),HE.out.1,HE.out.2,by rw[av,aU];exact a.out.2.2.1,bt.out,a.out.2.2.2.2.2.2.2.1,rfl⟩
    rw[af b]at J;have bs:=η (p.lay Sc (ε u.size bt.out) (bP o.au) (ma _) ((Sc.full b).2) false);have Lk:=u.lay b;have Qn:(j3 o (bP o.au) false).au.length<(o.au.length):=by have:=ma o.au;rw[show(j3 o (bP o.au) false).au.length=o.au.length-bP o.au from az];omega
    obtain⟨F,hF⟩ :=ν (bP o.au);have Zx:=ma o.au;have cn:(0:Int)<(F:Int)/\(F:Int)<=16777216/\0<F:=by have:=Sc.nt;omega
    rw[hF]at bs Lk J Qn⊢;have HY:=η (⟨Lk,J,Qn,R⟩ :_/\_/\_/\_);clear b hF Zx J p u Lk Qn R Sc HX RL
    go_wp2_with fail;refine bs.out.mono ?_;rintro r Gi ⟨rfl,co,y⟩;have cj:=η (y.full HY.out.1.1.facts);clear y
    go_wp2_with fail;refine cj.out.mono ?_;rintro r OP ⟨rfl,bo⟩;have Kp:=η bo;clear bo
    go_wp2_with fail;go_roundg (j3 o F false).au.length
    case measure=>have:=HY.out.2.2.1;have:=HY.out.2.2.2;omega
    case rel=>exact⟨_,_,rfl,Kp.out,HY.out.1,HY.out.2.1,rfl⟩
section
variable {w w' w0:World} {b0 g:Nat} {c c0:Nat->Nat} {M:EM} {d:kM} {done:Bool} {K:Nat} {X P:aj}
theorem DB.FV (h:DB K X P d):bO (eL d).au<=16641:=by
 obtain⟨a,b,c,e,f,j,g,i⟩ :=h.1.rest;exact g
theorem ek.align (h:ek w0 c0 w b0 g M d done) (i:d.L.length<=2000000000000):
  Calls Tryz.prog 46 #[.pointer (some ⟨M.gw,0,none⟩)] w λe w'=>e= .returned (.tuple #[])/\∃M',ek w0 c0 w' b0 g M' { d with L:=qI d.L } done:=by
 obtain⟨c,b,f⟩ :=h;refine(rA w b0 M.gw M.nw M.cw M.Aw _ b.RI ω).mono ?_;rintro e w' ⟨A',n',c',rfl,q1,q2,q3⟩
 exact⟨rfl,_,ek.writer (M:=M) (d:=d) ⟨c,b,f⟩ q2 q1 λk a=>by
  rcases a with a | a
  · exact .inl (.inl a)
  rcases q3 k a with h | h
  · exact .inl (.inr h)
  exact .inr h⟩
theorem ek.end_ (h:ek w0 c0 w b0 g M d done):ek w0 c0 (w.setCell ⟨g,5,none⟩ (.bool true)) b0 g M d true:=by
 obtain⟨c,a,m⟩ :=h;have b:bk w (w.setCell ⟨g,5,none⟩ (.bool true)) (λk=>k=g\/ak M.Ar=some k):=(bk.refl w _).setCell (.inl (.inl rfl)) _
 have f:=ek.WO (M:=M) (d:=d) (A':=M.Ar) (n':=M.nr) (c':=M.cr) (l':=d.raw) (done':=true) ⟨c,a,m⟩ b
  ((a.cell.bK (i:=5) ω (.bool true)).congr (λj n=>by
    obtain rfl | rfl | rfl | rfl | rfl | rfl:j=0\/j=1\/j=2\/j=3\/j=4\/j=5:=ω;all_goals rfl))
  (a.raw.far (p:= ⟨g,5,none⟩) (λe=>by have o:=a.cr g e;have h4:=a.cg;omega) _) (λk l=> .inl l)
 exact f
end
theorem KW (w:World) (b0 g:Nat) (c:Nat->Nat) (M:EM) (d:kM) (h:ik w b0 g c M d false) {K:Nat} {X P:aj} (q:DB K X P d) (t:K+100<=2000000000000):
  Calls Tryz.prog 27 #[.pointer (some ⟨g,0,none⟩)] w λr w'=>r= .returned (.int .i64 0)/\∃M',ek w c w' b0 g M' (ot d) true:=by
 obtain⟨c0,c1,c2,A,k,u⟩ :=h.cells;have x:=η (WQ w b0 g c M d false h q ω);have m:=η (⟨q,t⟩ :_/\_);clear h q t c0 c1 c2 A k;go_enter Tryz.func27,Tryz.ntmps27
 go_wp2_with fail;refine x.out.mono ?_;rintro e w1 ⟨rfl,I,p⟩;have j:=m.out.1.rest;have b:=j.1.facts;have k:=p.cells.2.2.2.2.1;rw[p.nt]at k
 have a:(j3 (eL d) (eL d).au.length true).L.length<=2000000000000:=by
  obtain⟨all,kinds,stops,fA,pre,f⟩ :=j.1;have E:=Bi f (eL d).au.length true (by rw[aC (ai _)];have:=m.out.1.FV;omega);have hf:=(f.first (eL d).au.length).2;have:=j.2;have:=m.out.2;omega
 obtain⟨N,hN⟩ :=ν ((eL d).au.length);have s:ot d={ j3 (eL d) N true with L:=qI (j3 (eL d) N true).L }:=by rw[<-hN];rfl
 rw[hN]at k a;have z:(0:Int)<=(N:Int)/\(N:Int)<=16777216:=by have:=b.nt;omega
 have l:=η (p.lay b (ε j.size m.out.2) N ω (by rw[aC ω];have:=m.out.1.FV;omega) true);have v:=η (⟨a,s⟩ :_/\_);clear p j b u x hN a s
 go_wp2_with fail;refine l.out.mono ?_;rintro e w2 ⟨rfl,H,f⟩;have c1:=f.cells.2.1;have n:=η (f.align v.out.1);clear f l k
 go_wp2_with fail;refine n.out.mono ?_;rintro e y ⟨rfl,B,o⟩;have u:=o.cells.2.2.2.2.2;have D:y.frozen? ⟨g,5,none⟩ =false:=by obtain⟨G,h7,F⟩ :=o;exact h7.cell.frozen' (i:=5) ω
 have C:=η o.end_;clear o n c1
 go_wp2_with fail;go_ret;exact⟨rfl,B,by rw[v.out.2];exact C.out⟩
section
variable {w w':World} {b0 g:Nat} {c:Nat->Nat} {M:EM} {d:kM} {done:Bool}
theorem ik.aside {F:Nat->Prop} (h:ik w b0 g c M d done) (b:bk w w' F) (hF:∀k,F k->c k=0):ik w' b0 g c M d done:=
 ⟨b.ar h.cell (λe=>by have:=hF g e;have:=h.cg;omega),h.cg,
   by obtain⟨nm,i,f⟩ :=h.fnd;exact⟨nm,i,f.fC b (λk a e=>by have:=hF k e;have:=h.cf k a;omega)⟩,h.cf,
   h.RI.fC b (λk a e=>by have:=hF k e;have:=h.cw k a;omega),h.cw,
   b.dX h.raw (λk a e=>by have:=hF k e;have:=h.cr k a;omega),h.cr,
   ⟨h.tok.1,b.own h.tok.2 (λk a e=>by have:=hF k e;have:=h.ct k a;omega)⟩,h.ct,
   λk a=> ⟨(h.cb k a).1,aB (h.cb k a).2 b.size⟩⟩
theorem DB.a2A {K:Nat} {X P:aj} (h:DB K X P d):(ot d).L.length<=K+60:=by
 have a:=h.rest;obtain⟨all,kinds,stops,fA,pre,b⟩ :=a.1;have c:=Bi b (eL d).au.length true (by rw[aC (ai _)];have:=h.FV;omega);have hf:=(b.first (eL d).au.length).2;have g:=a.2;have e:(ot d).L=qI (j3 (eL d) (eL d).au.length true).L:=rfl;have f:=mF (j3 (eL d) (eL d).au.length true).L;rw[e];omega
end
theorem ik.taken {w w':World} {b0 g:Nat} {c:Nat->Nat} {M:EM} {d:kM} {done:Bool} (h:ik w b0 g c M d done) (b:qw w' b0 M.gw none 0 0 (rest d.L)) (e:bk w w' (λk=>k=M.gw)):
  ek w c w' b0 g { M with Aw:=none,nw:=0,cw:=0 } { d with L:=rest d.L } done:=
 h.refl.writer (e.more λk a=> .inl a) b (λk a=>by
  rcases a with a | a
  · exact .inl (.inl a)
  simp [ak]at a)
end Go.Proofs.YtdhmnlpfhfmpfaaGreat
