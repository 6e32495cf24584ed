/-
  part
-/
import Derived.Test.YtddhegejmkgmjaaGreatPk19
import Derived.Test.YtddhegejmkgmjaaGreatPk21
import Derived.Test.YtddhegejmkgmjaaGreatStepT
set_option linter.unusedVariables false
set_option maxRecDepth 100000
set_option maxHeartbeats 4000000
namespace Go.Proofs.YtddhegejmkgmjaaGreat
open Go.RowKit
structure EM where
 gf:Nat
 A:Option Addr
 n:Nat
 c:Nat
 gm:Nat
 Ap:Option Addr
 np:Nat
 cp:Nat
 gw:Nat
 Aw:Option Addr
 nw:Nat
 cw:Nat
 Ar:Option Addr
 nr:Nat
 cr:Nat
 At:Option Addr
 nt:Nat
 ct:Nat
def eF (M:EM) (lev:Int) (done:Bool):Nat->Value
 | 0=> .pointer (some ⟨M.gf,0,none⟩)
 | 1=> .pointer (some ⟨M.gw,0,none⟩)
 | 2=> .int .i64 lev
 | 3=> .slice M.Ar M.nr M.cr
 | 4=> .slice M.At M.nt M.ct
 | _=> .bool done
structure cW (w:World) (b0 g:Nat) (c:Nat->Nat) (M:EM) (d:eU) (done:Bool):Prop where
 cell:Ar w g 6 (eF M d.lev done)
 cg:c g=1
 TL:∃nm Dm,bF w b0 M.gf (cT d.lev) d.f d.f.at_ M.A M.n M.c M.gm nm Dm M.Ap M.np M.cp
 cf:∀k,FF M.A M.gm M.Ap M.gf k->c k=2
 L8:kv w b0 M.gw M.Aw M.nw M.cw d.L
 cw:∀k,foot M.Aw M.gw k->c k=3
 raw:ag .u8 w b0 5 M.Ar M.nr M.cr d.raw
 cr:∀k,aa M.Ar=some k->c k=4
 tok:fl w b0 M.At M.nt M.ct d.a8
 ct:∀k,aa M.At=some k->c k=5
 cb:∀k,c k≠0->b0<=k/\k<w.heap.size
def bA (w0:World) (c0:Nat->Nat) (w:World) (b0 g:Nat) (M:EM) (d:eU) (done:Bool):Prop:=∃c,cW w b0 g c M d done/\DE b0 w0 c0 w c
section
variable {w w' w0:World} {b0 g:Nat} {c c0:Nat->Nat} {M:EM} {d:eU} {done:Bool}
theorem cW.refl (h:cW w b0 g c M d done):bA w c w b0 g M d done:= ⟨c,h,Below.refl _ _,aq.refl _ _,λ_ _=>rfl⟩
theorem cW.lo (h:cW w b0 g c M d done):b0<=w.heap.size:=by have:=h.cb g (by rw[h.cg];decide);omega
theorem cW.ur (h:cW w b0 g c M d done) (o:aq w w' (FF M.A M.gm M.Ap M.gf)) {A' Ap':Option Addr} {n' c' np' cp':Nat} {f':ed} (r:∃q s,bF w' b0 M.gf (cT d.lev) f' f'.at_ A' n' c' M.gm q s Ap' np' cp') (u:∀k,FF A' M.gm Ap' M.gf k->FF M.A M.gm M.Ap M.gf k\/w.heap.size<=k):
  cW w' b0 g (aN c w.heap.size (FF A' M.gm Ap' M.gf) 2) { M with A:=A',n:=n',c:=c',Ap:=Ap',np:=np',cp:=cp' } { d with f:=f' } done:=by
 have hF:∀k,(FF M.A M.gm M.Ap M.gf) k->c k=2:=h.cf;have p:∀k i,c k=i->i≠0->k<w.heap.size:=λk i j b=>(h.cb k ω).2
 have l:∀k,k<w.heap.size->aN c w.heap.size (FF A' M.gm Ap' M.gf) 2 k=c k:=λk a=>aG a
 have m:∀k i,c k=i->i≠0->aN c w.heap.size (FF A' M.gm Ap' M.gf) 2 k=i:=λk i j b=>(l k (p k i j b)).trans j
 exact⟨o.ar h.cell (λe=>by have:=hF g e;have:=h.cg;omega),
  m _ _ h.cg δ,
  r,
  λk a=>by
   rcases Nat.lt_or_ge k w.heap.size with j | j
   · rcases u k a with b | b
     · exact m k 2 (h.cf k b) δ
     · omega
   · exact bX j a,
  h.L8.cv o (λk a e=>by have:=hF k e;have:=h.cw k a;omega),
  λk a=>m k 3 (h.cw k a) δ,
  o.bf h.raw (λk a e=>by have:=hF k e;have:=h.cr k a;omega),
  λk a=>m k 4 (h.cr k a) δ,
  ⟨h.tok.1,o.own h.tok.2 (λk a e=>by have:=hF k e;have:=h.ct k a;omega)⟩,
  λk a=>m k 5 (h.ct k a) δ,
  λk a=>by
   rcases cJ a with ⟨j,b⟩ | ⟨j,b⟩
   · exact⟨(h.cb k b).1,Nat.lt_of_lt_of_le j o.size⟩
   · exact(by obtain⟨q,s,t⟩ :=r;exact t.bH b)⟩
theorem bA.ur (h:bA w0 c0 w b0 g M d done) (b:aq w w' (FF M.A M.gm M.Ap M.gf)) {A' Ap':Option Addr} {n' c' np' cp':Nat} {f':ed} (i:∃e l,bF w' b0 M.gf (cT d.lev) f' f'.at_ A' n' c' M.gm e l Ap' np' cp') (j:∀k,FF A' M.gm Ap' M.gf k->FF M.A M.gm M.Ap M.gf k\/w.heap.size<=k):
  bA w0 c0 w' b0 g { M with A:=A',n:=n',c:=c',Ap:=Ap',np:=np',cp:=cp' } { d with f:=f' } done:=by
 obtain⟨c,h,hd⟩ :=h;exact⟨_,h.ur b i j,hd.step h.lo (λk a=>(h.cb k a).1) (b.more λk a=>by rw[h.cf k a];decide) λk a=>aG a⟩
theorem cW.writer (h:cW w b0 g c M d done) (m:aq w w' (foot M.Aw M.gw)) {A':Option Addr} {n' c':Nat} {p:List Int} (o:kv w' b0 M.gw A' n' c' p) (s:∀k,foot A' M.gw k->foot M.Aw M.gw k\/w.heap.size<=k):
  cW w' b0 g (aN c w.heap.size (foot A' M.gw) 3) { M with Aw:=A',nw:=n',cw:=c' } { d with L:=p } done:=by
 have hF:∀k,(foot M.Aw M.gw) k->c k=3:=h.cw;have n:∀k i,c k=i->i≠0->k<w.heap.size:=λk i f b=>(h.cb k ω).2
 have j:∀k,k<w.heap.size->aN c w.heap.size (foot A' M.gw) 3 k=c k:=λk a=>aG a
 have l:∀k i,c k=i->i≠0->aN c w.heap.size (foot A' M.gw) 3 k=i:=λk i f b=>(j k (n k i f b)).trans f
 exact⟨m.ar h.cell (λe=>by have:=hF g e;have:=h.cg;omega),
  l _ _ h.cg δ,
  by obtain⟨q,t,r⟩ :=h.TL;exact⟨q,t,r.cv m (λk a e=>by have:=hF k e;have:=h.cf k a;omega)⟩,
  λk a=>l k 2 (h.cf k a) δ,
  o,
  λk a=>by
   rcases Nat.lt_or_ge k w.heap.size with f | f
   · rcases s k a with b | b
     · exact l k 3 (h.cw k b) δ
     · omega
   · exact bX f a,
  m.bf h.raw (λk a e=>by have:=hF k e;have:=h.cr k a;omega),
  λk a=>l k 4 (h.cr k a) δ,
  ⟨h.tok.1,m.own h.tok.2 (λk a e=>by have:=hF k e;have:=h.ct k a;omega)⟩,
  λk a=>l k 5 (h.ct k a) δ,
  λk a=>by
   rcases cJ a with ⟨f,b⟩ | ⟨f,b⟩
   · exact⟨(h.cb k b).1,Nat.lt_of_lt_of_le f m.size⟩
   · exact o.bH b⟩
theorem bA.writer (h:bA w0 c0 w b0 g M d done) (b:aq w w' (foot M.Aw M.gw)) {A':Option Addr} {n' c':Nat} {e:List Int} (f:kv w' b0 M.gw A' n' c' e) (i:∀k,foot A' M.gw k->foot M.Aw M.gw k\/w.heap.size<=k):
  bA w0 c0 w' b0 g { M with Aw:=A',nw:=n',cw:=c' } { d with L:=e } done:=by
 obtain⟨c,h,hd⟩ :=h;exact⟨_,h.writer b f i,hd.step h.lo (λk a=>(h.cb k a).1) (b.more λk a=>by rw[h.cw k a];decide) λk a=>aG a⟩
theorem cW.Pc (h:cW w b0 g c M d done) (m:aq w w' (λk=>k=g\/aa M.Ar=some k)) {A':Option Addr} {n' c':Nat} {l':List Int} {done':Bool} (s:Ar w' g 6 (eF { M with Ar:=A',nr:=n',cr:=c' } d.lev done')) (o:ag .u8 w' b0 5 A' n' c' l') (r:∀k,aa A'=some k->aa M.Ar=some k\/w.heap.size<=k):
  cW w' b0 g (aN c w.heap.size (λk=>aa A'=some k) 4) { M with Ar:=A',nr:=n',cr:=c' } { d with raw:=l' } done':=by
 have hF:∀k,(λk=>k=g\/aa M.Ar=some k) k->c k=1\/c k=4:=λk a=>by
  rcases a with rfl | a
  · exact .inl h.cg
  · exact .inr (h.cr k a)
 have n:∀k i,c k=i->i≠0->k<w.heap.size:=λk i f b=>(h.cb k ω).2
 have j:∀k,k<w.heap.size->aN c w.heap.size (λk=>aa A'=some k) 4 k=c k:=λk a=>aG a
 have l:∀k i,c k=i->i≠0->aN c w.heap.size (λk=>aa A'=some k) 4 k=i:=λk i f b=>(j k (n k i f b)).trans f
 exact⟨s,
  l _ _ h.cg δ,
  by obtain⟨p,t,q⟩ :=h.TL;exact⟨p,t,q.cv m (λk a e=>by have:=hF k e;have:=h.cf k a;omega)⟩,
  λk a=>l k 2 (h.cf k a) δ,
  h.L8.cv m (λk a e=>by have:=hF k e;have:=h.cw k a;omega),
  λk a=>l k 3 (h.cw k a) δ,
  o,
  λk a=>by
   rcases Nat.lt_or_ge k w.heap.size with f | f
   · rcases r k a with b | b
     · exact l k 4 (h.cr k b) δ
     · omega
   · exact bX f a,
  ⟨h.tok.1,m.own h.tok.2 (λk a e=>by have:=hF k e;have:=h.ct k a;omega)⟩,
  λk a=>l k 5 (h.ct k a) δ,
  λk a=>by
   rcases cJ a with ⟨f,b⟩ | ⟨f,b⟩
   · exact⟨(h.cb k b).1,Nat.lt_of_lt_of_le f m.size⟩
   · exact o.2.lt b⟩
theorem bA.Pc (h:bA w0 c0 w b0 g M d done) (b:aq w w' (λk=>k=g\/aa M.Ar=some k)) {A':Option Addr} {n' c':Nat} {l':List Int} {done':Bool} (i:Ar w' g 6 (eF { M with Ar:=A',nr:=n',cr:=c' } d.lev done')) (e:ag .u8 w' b0 5 A' n' c' l') (f:∀k,aa A'=some k->aa M.Ar=some k\/w.heap.size<=k):
  bA w0 c0 w' b0 g { M with Ar:=A',nr:=n',cr:=c' } { d with raw:=l' } done':=by
 obtain⟨c,h,hd⟩ :=h
 exact⟨_,h.Pc b i e f,hd.step h.lo (λk a=>(h.cb k a).1) (b.more λk a=>by
  rcases a with rfl | a
  · rw[h.cg];decide
  · rw[h.cr k a];decide) λk a=>aG a⟩
theorem cW.tokens (h:cW w b0 g c M d done) (m:aq w w' (λk=>k=g\/aa M.At=some k)) {A':Option Addr} {n' c':Nat} {l':List aF} {done':Bool} (s:Ar w' g 6 (eF { M with At:=A',nt:=n',ct:=c' } d.lev done')) (o:fl w' b0 A' n' c' l') (r:∀k,aa A'=some k->aa M.At=some k\/w.heap.size<=k):
  cW w' b0 g (aN c w.heap.size (λk=>aa A'=some k) 5) { M with At:=A',nt:=n',ct:=c' } { d with a8:=l' } done':=by
 have hF:∀k,(λk=>k=g\/aa M.At=some k) k->c k=1\/c k=5:=λk a=>by
  rcases a with rfl | a
  · exact .inl h.cg
  · exact .inr (h.ct k a)
 have n:∀k i,c k=i->i≠0->k<w.heap.size:=λk i f b=>(h.cb k ω).2
 have j:∀k,k<w.heap.size->aN c w.heap.size (λk=>aa A'=some k) 5 k=c k:=λk a=>aG a
 have l:∀k i,c k=i->i≠0->aN c w.heap.size (λk=>aa A'=some k) 5 k=i:=λk i f b=>(j k (n k i f b)).trans f
 exact⟨s,
  l _ _ h.cg δ,
  by obtain⟨p,t,q⟩ :=h.TL;exact⟨p,t,q.cv m (λk a e=>by have:=hF k e;have:=h.cf k a;omega)⟩,
  λk a=>l k 2 (h.cf k a) δ,
  h.L8.cv m (λk a e=>by have:=hF k e;have:=h.cw k a;omega),
  λk a=>l k 3 (h.cw k a) δ,
  m.bf h.raw (λk a e=>by have:=hF k e;have:=h.cr k a;omega),
  λk a=>l k 4 (h.cr k a) δ,
  o,
  λk a=>by
   rcases Nat.lt_or_ge k w.heap.size with f | f
   · rcases r k a with b | b
     · exact l k 5 (h.ct k b) δ
     · omega
   · exact bX f a,
  λk a=>by
   rcases cJ a with ⟨f,b⟩ | ⟨f,b⟩
   · exact⟨(h.cb k b).1,Nat.lt_of_lt_of_le f m.size⟩
   · exact o.2.lt b⟩
theorem bA.tokens (h:bA w0 c0 w b0 g M d done) (b:aq w w' (λk=>k=g\/aa M.At=some k)) {A':Option Addr} {n' c':Nat} {l':List aF} {done':Bool} (i:Ar w' g 6 (eF { M with At:=A',nt:=n',ct:=c' } d.lev done')) (e:fl w' b0 A' n' c' l') (f:∀k,aa A'=some k->aa M.At=some k\/w.heap.size<=k):
  bA w0 c0 w' b0 g { M with At:=A',nt:=n',ct:=c' } { d with a8:=l' } done':=by
 obtain⟨c,h,hd⟩ :=h
 exact⟨_,h.tokens b i e f,hd.step h.lo (λk a=>(h.cb k a).1) (b.more λk a=>by
  rcases a with rfl | a
  · rw[h.cg];decide
  · rw[h.ct k a];decide) λk a=>aG a⟩
theorem fl.keeps {n k:Nat} {A:Option Addr} {l:List aF} (h:fl w b0 A n k l) (b:Below w.heap.size w w'):fl w' b0 A n k l:= ⟨h.1,h.2.below b λ_ a=>(h.2.lt a).2⟩
theorem cW.keeps (h:cW w b0 g c M d done) (a:Below w.heap.size w w'):cW w' b0 g c M d done:=
 ⟨h.cell.keeps a,h.cg,by obtain⟨e,i,f⟩ :=h.TL;exact⟨e,i,f.keeps a⟩,h.cf,h.L8.keeps a,h.cw,h.raw.keeps a,h.cr,h.tok.keeps a,h.ct,
   λk b=> ⟨(h.cb k b).1,Nat.lt_of_lt_of_le (h.cb k b).2 a.size⟩⟩
theorem bA.keeps (h:bA w0 c0 w b0 g M d done) (a:Below w.heap.size w w'):bA w0 c0 w' b0 g M d done:=by
 obtain⟨c,h,hd⟩ :=h;exact⟨c,h.keeps a,hd.step h.lo (λk b=>(h.cb k b).1) (aq.aB a) λ_ _=>rfl⟩
theorem cW.cells (h:cW w b0 g c M d done):w.cell? ⟨g,0,none⟩ =some (.pointer (some ⟨M.gf,0,none⟩))/\w.cell? ⟨g,1,none⟩ =some (.pointer (some ⟨M.gw,0,none⟩))/\w.cell? ⟨g,2,none⟩ =some (.int .i64 d.lev)/\w.cell? ⟨g,3,none⟩ =some (.slice M.Ar M.nr M.cr)/\w.cell? ⟨g,4,none⟩ =some (.slice M.At M.nt M.ct)/\w.cell? ⟨g,5,none⟩ =some (.bool done):=
 ⟨h.cell.cell (i:=0) ω,h.cell.cell (i:=1) ω,h.cell.cell (i:=2) ω,h.cell.cell (i:=3) ω,h.cell.cell (i:=4) ω,h.cell.cell (i:=5) ω⟩
end
theorem Ge {l:List aF} {k:Nat} (h:k<l.length):ay (l.take (k+1))=ay (l.take k)+iC (bq l k):=by rw[qJ h];simp [ay]
theorem OA {l:List aF} (h:∀t∈l,aH t):ay l<=258*l.length:=by
 induction l with
 | nil=>simp [ay]
 | cons t l a=>
   have d:=qw (h t List.mem_cons_self);have c:=a λu b=>h u (List.mem_cons_of_mem _ b)
   have:ay (t::l)=iC t+ay l:=by simp [ay]
   rw[List.length_cons];omega
theorem Cl (w:World) (At:Option Addr) (nt ct:Nat) (a8:List aF) (u:ig w w.heap.size At nt a8) (z:nt<=4000000000000) (b:∀t∈a8,aH t):
  Calls Tryz.prog 50 #[.slice At nt ct] w λe w'=>e= .returned (.int .i64 ((ay a8:Nat):Int))/\Below w.heap.size w w':=by
 have c:=η (⟨u,u.1,z,b⟩ :_/\_/\_/\_);have K:(0:Int)<=(nt:Int)/\(nt:Int)<=4000000000000:=ω;clear u z b;go_enter Tryz.func50,Tryz.ntmps50
 go_wp2_with fail
 go_loopg [3,8] nt (λ(gk:Nat) (v3 v8:Value) wx=>∃k s:Nat,v3= .int .i64 s/\v8= .int .i64 k/\k<=nt/\Hid (s=ay (a8.take k))/\Hid (Below w.heap.size w wx)/\Hid (gk=nt-k))
 case atStart=>exact⟨0,0,rfl,rfl,Nat.zero_le _,rfl,Below.refl _ _,rfl⟩
 case round=>
  obtain⟨k,s,rfl,rfl,L,b,h,F⟩ :=hrel;by_cases a:k<nt
  · have E:(k:Int)<(nt:Int)/\(0:Int)<=(k:Int):=ω;obtain⟨f,hA,r,d⟩ :=(c.out.1.below h.out).2 ω;obtain⟨v,j,i⟩ :=d k a;rw[gp _ _ _ ω]at j i;have g:=Ge (l:=a8) (k:=k) (by rw[<-c.out.2.1];exact a);have n:=c.out.2.2.2 _ (c.out.1.vK a);have p:=OA (l:=a8.take k) λt ht=>c.out.2.2.2 t (List.mem_of_mem_take ht)
    have C:(a8.take k).length<=k:=by rw[List.length_take];exact Nat.min_le_left _ _
    obtain⟨⟨m,N,D⟩,ht⟩ :∃t:aF,bq a8 k=t:= ⟨_,rfl⟩;rw[ht]at v j i g n;replace v:wr.cell? (f.add (k*3))=some (.int .u8 m):=v;replace j:wr.cell? { block:=(f.add (k*3)).block,off:=(f.add (k*3)).off+1 }=some (.int .i64 N):=j;replace i:wr.cell? { block:=(f.add (k*3)).block,off:=(f.add (k*3)).off+2 }=some (.int .i64 D):=i;obtain⟨q,o⟩ :=ν (iC ⟨m,N,D⟩ :Nat);have J:max N 1=(q:Int):=by rw[<-o,show iC ⟨m,N,D⟩ =(max N 1).toNat from rfl];omega
    have y:=qw n;rw[o]at g y;have H:=η (show ay (a8.take (k+1))=s+q by rw[g,b.out]);have I:(s:Int)<=2000000000000000/\(0:Int)<=(s:Int)/\(0:Int)<=(q:Int)/\(q:Int)<=258:=by have:=b.out;have:=c.out.2.2.1;omega
    have B:=η a;have G:=η (h.out.alloc h.out.size (.cells #[.int .u8 m, .int .i64 N, .int .i64 D] 90));subst hA;clear r d ht a g p C n o y
    go_wp2_with fail
    go_roundg (nt-(k+1))
    case measure=>have:=F.out;have:=B.out;omega
    case rel=>exact⟨k+1,s+q,by go_num,by go_num,B.out,H.out.symm,G.out,rfl⟩
  · obtain rfl:k=nt:=ω;have E:¬(k:Int)<(k:Int):=ω;have x:a8.take k=a8:=List.take_of_length_le (by rw[<-c.out.2.1];exact Nat.le_refl _);have A:=b;rw[x]at A;clear a x b
    go_wp2_with fail
    go_ret
    exact⟨aK (by rw[A.out]),h.out⟩
theorem Fu {l:List aF} {k s q:Nat} (c:k<l.length) (b:iC (bq l k)=q) (h:dC s k (l.drop k)=ax l):(16384<=s+q->ax l=k+1)/\(¬16384<=s+q->dC (s+q) (k+1) (l.drop (k+1))=ax l):=by
 rw[ig.bu rfl c]at h;unfold dC at h;rw[b]at h;constructor
 · intro a;rw[if_pos a]at h;exact h.symm
 · intro a;rw[if_neg a]at h;exact h
theorem Jw (w:World) (g:Nat) (At:Option Addr) (nt ct:Nat) (a8:List aF) (S:w.cell? ⟨g,4,none⟩ =some (.slice At nt ct)) (A:ig w w.heap.size At nt a8) (G:nt<=4000000000000) (d:∀t∈a8,aH t):
  Calls Tryz.prog 31 #[.pointer (some ⟨g,0,none⟩)] w λe w'=>e= .returned (.int .i64 ((ax a8:Nat):Int))/\Below w.heap.size w w':=by
 have n:=η (⟨A,A.1,G,d⟩ :_/\_/\_/\_);have Q:(0:Int)<=(nt:Int)/\(nt:Int)<=4000000000000:=ω;clear A G d;go_enter Tryz.func31,Tryz.ntmps31
 go_wp2_with fail
 go_loopg [3,11] nt (λ(gk:Nat) (v3 v11:Value) wx=>∃k s:Nat,v3= .int .i64 s/\v11= .int .i64 k/\k<=nt/\s<16384/\Hid (dC s k (a8.drop k)=ax a8)/\Hid (Below w.heap.size w wx)/\Hid (gk=nt-k))
 case atStart=>exact⟨0,0,rfl,rfl,Nat.zero_le _,ω,rfl,Below.refl _ _,rfl⟩
 case round=>
  obtain⟨k,s,rfl,rfl,R,M,d,o,L⟩ :=hrel;by_cases a:k<nt
  · have K:(k:Int)<(nt:Int)/\(0:Int)<=(k:Int):=ω;obtain⟨m,hA,z,j⟩ :=(n.out.1.below o.out).2 ω;obtain⟨B,r,p⟩ :=j k a;rw[gp _ _ _ ω]at r p;have v:=n.out.2.2.2 _ (n.out.1.vK a);have x:=λq f=>Fu (l:=a8) (k:=k) (s:=s) (q:=q) (by rw[<-n.out.2.1];exact a) f d.out
    obtain⟨⟨u,N,D⟩,ht⟩ :∃t:aF,bq a8 k=t:= ⟨_,rfl⟩;rw[ht]at B r p v x;replace B:wr.cell? (m.add (k*3))=some (.int .u8 u):=B;replace r:wr.cell? { block:=(m.add (k*3)).block,off:=(m.add (k*3)).off+1 }=some (.int .i64 N):=r;replace p:wr.cell? { block:=(m.add (k*3)).block,off:=(m.add (k*3)).off+2 }=some (.int .i64 D):=p;obtain⟨q,f⟩ :=ν (iC ⟨u,N,D⟩ :Nat);have P:max N 1=(q:Int):=by rw[<-f,show iC ⟨u,N,D⟩ =(max N 1).toNat from rfl];omega
    have F:=qw v;have i:=x q f;rw[f]at F;have O:(s:Int)<=16384/\(0:Int)<=(s:Int)/\(0:Int)<=(q:Int)/\(q:Int)<=258:=ω;have J:=η a;have b:=η i;have H:=η (o.out.alloc o.out.size (.cells #[.int .u8 u, .int .i64 N, .int .i64 D] 90));subst hA;clear z j ht a v f F x i;by_cases h:16384<=s+q
    · have y:(16384:Int)<=(s:Int)+(q:Int):=ω;have c:=η (b.out.1 h);clear h b
      go_wp2_with fail
      go_ret
      exact⟨aK (by rw[c.out];omega),H.out⟩
    · have y:decide ((16384:Int)<=(s:Int)+(q:Int))=false:=ξ;have c:=η (b.out.2 h);have C:=η h;clear h b
      go_wp2_with fail
      go_roundg (nt-(k+1))
      case measure=>have:=L.out;have:=J.out;omega
      case rel=>exact⟨k+1,s+q,by go_num,by go_num,J.out,by have:=C.out;omega,c.out,H.out,rfl⟩
  · obtain rfl:k=nt:=ω;have K:¬(k:Int)<(k:Int):=ω;have E:a8.drop k=[]:=List.drop_of_length_le (by rw[<-n.out.2.1];exact Nat.le_refl _);have I:=d;rw[E]at I;clear a E d
    go_wp2_with fail
    go_ret
    exact⟨aK (by rw[<-I.out];rfl),o.out⟩
theorem rj:(Tryz.prog.info? 90).map (λi=>(i.zero,i.size,i.bytes))=some (some (.agg #[.int .u8 0, .int .i64 0, .int .i64 0]),3,24):=by kernel_rfl
theorem jy:(Tryz.prog.info? 5).map (λi=>(i.zero,i.size,i.bytes))=some (some (.int .u8 0),1,1):=by kernel_rfl
theorem SE (w:World) (b0 g:Nat) (c:Nat->Nat) (M:EM) (d:eU) (done:Bool) (h:cW w b0 g c M d done) (hs:∀t∈d.a8,aH t) (aS:∀t∈d.a8,0<=t.lit/\t.lit<256) (an:∀x∈d.raw,0<=x/\x<256) (count:Nat) (hc:count<=d.a8.length)
  (hn:ay (d.a8.take count)<=65535) (jh:ay (d.a8.take count)<=d.raw.length) (hL:d.L.length<=2000000000000) (zY:d.a8.length<=1000000000) (oZ:d.raw.length<=900000000000) (last:Bool):
  Calls Tryz.prog 32 #[.pointer (some ⟨g,0,none⟩), .int .i64 count, .bool last] w λe w'=>e= .returned (.tuple #[])/\∃M',bA w c w' b0 g M' (dJ d count last) done:=by
 obtain⟨i0,hi,ac,ab,Z⟩ :=info_parts rj;obtain⟨i1,ki,X,V,U⟩ :=info_parts jy;obtain⟨c0,c1,c2,c3,c4,c5⟩ :=h.cells;have qP:count<=M.ct:=by have o:=h.tok.1;have n:=h.tok.2.fD;omega
 obtain⟨N,hN⟩ :=ν (ay (d.a8.take count));have Wz:N<=M.cr:=by have o:=h.raw.1;have n:=h.raw.2.fD;omega
 have Oa:∀W,(Instr.slice 53 (.slice M.At M.nt M.ct) none (some (.int .i64 (count:Int))) (some (.int .i64 (count:Int)))).run Tryz.prog W= .ok (.slice M.At count count) W:=λW=>oJ (P:=Tryz.prog) 53 90 Tryz.underlying53 hi M.At M.nt M.ct qP W
 have CQ:∀W,(Instr.slice 26 (.slice M.Ar M.nr M.cr) none (some (.int .i64 (N:Int))) (some (.int .i64 (N:Int)))).run Tryz.prog W= .ok (.slice M.Ar N N) W:=λW=>oJ (P:=Tryz.prog) 26 5 Tryz.underlying26 ki M.Ar M.nr M.cr Wz W
 have ao:ig w w.heap.size M.At count (d.a8.take count):=h.tok.rd.pre (by have o:=h.tok.1;omega);have Rx:=Cl w M.At count count (d.a8.take count) ao ω λt ht=>hs t (List.mem_of_mem_take ht)
 rw[hN]at Rx;have Ym:=η Rx;have b:=η (⟨h,hs,aS,an,hc,hn,jh,hL,hN⟩ :_/\_/\_/\_/\_/\_/\_/\_/\_);have J9:=η oZ;have aE:=η zY;have Hi:=η (⟨hi,ac,ab,Z⟩ :_/\_/\_/\_);have R:=η (⟨ki,X,V,U⟩ :_/\_/\_/\_);have Ex:(0:Int)<=(count:Int)/\(count:Int)<=1000000000:=ω;have Wa:(0:Int)<=(N:Int)/\(N:Int)<=65535:=ω;clear hi ac ab Z ki X V U hs aS an hc hn jh hL zY ao Rx h;go_enter Tryz.func32,Tryz.ntmps32
 go_wp2_with fail
 refine Ym.out.mono ?_;rintro e w1 ⟨rfl,K⟩;have r:=η (b.out.1.keeps K);obtain⟨d0,d1,d2,d3,d4,d5⟩ :=r.out.cells;have En:=η K;clear K c0 c1 c2 c3 c4 c5;obtain⟨z,mG⟩ :=ν ((dJ d count last).L)
 have bb:∀(B:Option Addr) (i:Nat),(∀k,aa B=some k->c k=i)->i≠3->∀ad,B=some ad->¬foot M.Aw M.gw ad.block:=λB i hB hi ad e a=>by
  have o:=hB ad.block (by rw[e];rfl);have n:=r.out.cw _ a;omega
 have rF:=r.out.raw.rd.pre (j:=N) (by have o:=r.out.raw.1;have n:=b.out;omega);have eG:=r.out.tok.rd.pre (j:=count) (by have o:=r.out.tok.1;have n:=b.out;omega);have G:∀t∈d.a8.take count,0<=t.lit/\t.lit<256:=λt ht=>b.out.2.2.1 t (List.mem_of_mem_take ht)
 have H:∀x∈d.raw.take N,0<=x/\x<256:=λx hx=>b.out.2.2.2.1 x (List.mem_of_mem_take hx)
 obtain⟨k0,k1,Y⟩ :=Aq (lev:=d.lev) (l:=d.a8.take count) (λt ht=>b.out.2.1 t (List.mem_of_mem_take ht)) G b.out.2.2.2.2.2.1;rw[b.out.2.2.2.2.2.2.2.2]at Y
 have O:z=gI (km d.lev (d.a8.take count)) (if d.lev<=0 then [] else d.a8.take count) (d.raw.take N) last d.L:=by
  rw[<-mG,<-b.out.2.2.2.2.2.2.2.2];rfl
 have C:∀W,eR w1 W b0 M.gw M.Aw z->∃Aw nw cw,bA w c W b0 g { M with Aw:=Aw,nw:=nw,cw:=cw } { d with L:=z } done:=λW hb=>by
  obtain⟨⟨A',n',c',q1,s⟩,q3⟩ :=hb
  exact⟨A',n',c',(b.out.1.refl.keeps En.out).writer q3 q1 λk a=>by
   rcases a with a | a
   · exact .inl (.inl a)
   · rcases s k a with h | h
     · exact .inl (.inr h)
     · exact .inr h⟩
 have aA:Hid (d.lev<=0->Calls Tryz.prog 51 #[.pointer (some ⟨M.gw,0,none⟩), .int .i64 0, .slice none 0 0, .slice M.Ar N N, .bool last] w1 λe w'=>e= .returned (.bool true)/\eR w1 w' b0 M.gw M.Aw z):=λD=>by
  have hz:=k0 D;rw[if_pos D]at Y O;rw[hz]at Y O;rw[O];exact yB w1 b0 M.gw M.nw M.cw M.Aw _ r.out.L8 0 none 0 0 [] ⟨rfl,λh=>absurd h δ⟩ δ (λh=>absurd h δ) (λt ht=>by simp at ht) M.Ar N N (d.raw.take N) rF (λ_=>bb M.Ar 4 r.out.cr δ) H last Y b.out.2.2.2.2.2.2.2.1
 have Vp:Hid (¬d.lev<=0->Calls Tryz.prog 52 #[.pointer (some ⟨M.gw,0,none⟩), .slice M.At count count, .slice M.Ar N N, .bool last] w1 λe w'=>(∃q:Int,e= .returned (.int .i64 q))/\eR w1 w' b0 M.gw M.Aw z):=λD=>by
  rw[if_neg D]at O;have a:km d.lev (d.a8.take count)=(dR (jw (d.a8.take count) N) 3).1:=by unfold km;rw[if_neg D,b.out.2.2.2.2.2.2.2.2]
  rw[a]at O k1;refine(EY w1 b0 M.gw M.nw M.cw M.Aw _ r.out.L8 M.At count count (d.a8.take count) eG ω (λ_=>bb M.At 5 r.out.ct δ) G M.Ar N N (d.raw.take N) rF (λ_=>bb M.Ar 4 r.out.cr δ) H last b.out.2.2.2.2.2.2.2.1).mono λe w' hp=> ?_
  obtain⟨o,n⟩ :=hp;refine⟨⟨_,o⟩, ?_⟩;rcases n with ⟨h3,_⟩ | ⟨_,h3⟩
  · omega
  · rw[O];exact h3
 have Vi:=η C;have yI:=η mG;clear bb rF eG G H k0 k1 Y O C mG
 go_upto_if 29 with fail
 go_cut [] (λwx=>Hid (∃Aw nw cw,bA w c wx b0 g { M with Aw:=Aw,nw:=nw,cw:=cw } { d with L:=z } done))
 case first=>
  by_cases D:d.lev<=0
  · have HX:=η (aA.out D)
    go_wp2_with fail
    refine HX.out.mono ?_;rintro e w2 ⟨rfl,n⟩;have u:=η (Vi.out _ n);clear n
    go_wp2_with fail
    go_meet
    exact u.out
  · have HX:=η (Vp.out ω);have bd:decide (d.lev<=0)=false:=by simpa using D
    go_wp2_with fail
    refine HX.out.mono ?_;rintro e w2 ⟨⟨q,rfl⟩,n⟩;have u:=η (Vi.out _ n);clear n
    go_wp2_with fail
    go_meet
    exact u.out
 case rest=>
  obtain⟨Aw,nw,cw,cc,Q,am⟩ :=hcut.out
  have wY:N<=M.nr/\M.nr<=M.cr/\M.nr<=900000000000:=by
   have o:=Q.raw.1;have n:=Q.raw.2.fD;have h3:=b.out;have h4:M.nr=d.raw.length:=o;exact⟨ω,n,by have:=h3.2.2.2.2.2.2.2.2;have:=J9.out;omega⟩
  have I:=(Below.refl wc.heap.size wc).alloc (Nat.le_refl _) (.cells #[] 5);obtain⟨f0,f1,f2,f3,f4,f5⟩ :=(Q.keeps I).cells;have Z4:=bE (P:=Tryz.prog) 26 5 Tryz.underlying26 R.out.1 R.out.2.2.1 M.Ar M.nr M.cr wY.1;have Z3:aT .u8 (wc.alloc (.cells #[] 5)) wc.heap.size (bY M.Ar M.cr N) (M.nr-N) (d.raw.drop N):=((Q.raw.rd.bY (j:=N) wY.1 wY.2.1).below I);have u:=η (⟨Q,am⟩ :_/\_);have aI:(N:Int)<=(M.nr:Int):=ω;clear hcut Q am aA Vp Vi Ym d0 d1 d2 d3 d4 d5 Oa CQ I
  go_upto_region 7 with (at_builtin;(refine au .u8 wc.heap.size 5 i1 1 rfl (.tmp 46) (.tmp 52) _ rfl Tryz.underlying26 R.out.1 R.out.2.1 R.out.2.2.1 R.out.2.2.2 rfl (ag.lit rfl [] _ (Nat.le_refl _) σ) rfl Z3 ξ ω σ ?_)
                         intro A s w2 fP al fW;simp only [List.nil_append,Nat.zero_add]at fP;have J:Below wc.heap.size wc w2:=((Below.refl wc.heap.size wc).alloc (Nat.le_refl _) _).grown al σ (by simp [aa]);have y:=u.out.1.keeps J;have y3:=y.cell.cell (i:=3) ω;have z3:=y.cell.frozen' (i:=3) ω)
  have kJ:g<wc.heap.size:=u.out.1.cell.lt;have oT:∀k,aa A=some k->wc.heap.size<=k:=λk a=>(fP.2.lt a).1
  have v:aq wc (w2.setCell ⟨g,3,none⟩ (.slice A (M.nr-N) s)) (λk=>k=g\/aa M.Ar=some k):=(aq.aB J).setCell (.inl (.inl rfl)) _
  have cQ:Ar (w2.setCell ⟨g,3,none⟩ (.slice A (M.nr-N) s)) g 6 (eF { M with Aw:=Aw,nw:=nw,cw:=cw,Ar:=A,nr:=M.nr-N,cr:=s } d.lev done):=(y.cell.aQ (i:=3) ω _).congr (λj hj=>by
   obtain rfl | rfl | rfl | rfl | rfl | rfl:j=0\/j=1\/j=2\/j=3\/j=4\/j=5:=ω
   all_goals rfl)
  have m:ag .u8 (w2.setCell ⟨g,3,none⟩ (.slice A (M.nr-N) s)) b0 5 A (M.nr-N) s (d.raw.drop N):=(fP.far (p:= ⟨g,3,none⟩) (λe=>by have:=oT g e;omega) _).more u.out.1.lo;have hS:bA w c wc b0 g { M with Aw:=Aw,nw:=nw,cw:=cw } { d with L:=z } done:= ⟨cc,u.out.1,u.out.2⟩;obtain⟨c3,E,WC⟩ :=hS.Pc v cQ m (λk a=> .inr (oT k a));obtain⟨f,F⟩ :=ν (w2.setCell ⟨g,3,none⟩ (.slice A (M.nr-N) s));rw[F]at E WC;rw[F]
  have iI:count<=M.nt/\M.nt<=M.ct:=by
   have o:M.nt=d.a8.length:=E.tok.1;exact⟨by have:=b.out;omega,E.tok.2.fD⟩
  have Sg:M.nt<=1000000000:=by have o:M.nt=d.a8.length:=E.tok.1;have:=aE.out;omega
  have I:=(Below.refl f.heap.size f).alloc (Nat.le_refl _) (.cells #[] 90);have be:=(E.keeps I).cells.2.2.2.2.1;have aC:=tz (P:=Tryz.prog) 53 90 Tryz.underlying53 Hi.out.1 Hi.out.2.2.1 M.At M.nt M.ct iI.1;have ah:ig (f.alloc (.cells #[] 90)) f.heap.size (if M.ct=count then M.At else M.At.map (·.add (count*3))) (M.nt-count) (d.a8.drop count):=((E.tok.rd.from_ (j:=count) iI.1 iI.2).below I);have H4:=η (⟨E,WC⟩ :_/\_);have K8:(count:Int)<=(M.nt:Int):=ω;obtain⟨AT,ap⟩ :=ν ((if M.ct=count then M.At else M.At.map (·.add (count*3))));rw[ap]at aC ah;clear kJ oT v cQ m hS F fP al fW J y y3 z3 Z4 Z3 f0 f1 f2 f3 f4 f5 E WC u I ap
  go_wp2_with (at_builtin;(refine iT f.heap.size i0 rfl (.tmp 57) (.tmp 63) rfl Hi.out.1 Hi.out.2.1 Hi.out.2.2.1 Hi.out.2.2.2 rfl (fl.a5w f _ (Nat.le_refl _)) rfl ah ω σ ?_)
               intro S T w5 fF jC eJ;simp only [List.nil_append,Nat.zero_add]at fF;have fN:Below f.heap.size f w5:=((Below.refl f.heap.size f).alloc (Nat.le_refl _) _).grown jC σ (by simp [aa]);have Ll:=H4.out.1.keeps fN;have y4:=Ll.cell.cell (i:=4) ω;have z4:=Ll.cell.frozen' (i:=4) ω)
  have kJ:g<f.heap.size:=H4.out.1.cell.lt;have qO:∀k,aa S=some k->f.heap.size<=k:=λk a=>(fF.2.lt a).1
  have v:aq f (w5.setCell ⟨g,4,none⟩ (.slice S (M.nt-count) T)) (λk=>k=g\/aa M.At=some k):=(aq.aB fN).setCell (.inl (.inl rfl)) _
  have cQ:Ar (w5.setCell ⟨g,4,none⟩ (.slice S (M.nt-count) T)) g 6 (eF { M with Aw:=Aw,nw:=nw,cw:=cw,Ar:=A,nr:=M.nr-N,cr:=s,At:=S,nt:=M.nt-count,ct:=T } d.lev done):=(Ll.cell.aQ (i:=4) ω _).congr (λj hj=>by
   obtain rfl | rfl | rfl | rfl | rfl | rfl:j=0\/j=1\/j=2\/j=3\/j=4\/j=5:=ω
   all_goals rfl)
  have m:fl (w5.setCell ⟨g,4,none⟩ (.slice S (M.nt-count) T)) b0 S (M.nt-count) T (d.a8.drop count):= ⟨fF.1,(fF.2.far (p:= ⟨g,4,none⟩) (λe=>by have:=qO g e;omega) _).more H4.out.1.lo⟩;have hS:bA w c f b0 g { M with Aw:=Aw,nw:=nw,cw:=cw,Ar:=A,nr:=M.nr-N,cr:=s } { d with L:=z,raw:=d.raw.drop N } done:= ⟨c3,H4.out.1,H4.out.2⟩;have hF:=hS.tokens v cQ m (λk a=> .inr (qO k a));have he:dJ d count last={ d with L:=z,raw:=d.raw.drop N,a8:=d.a8.drop count }:=by rw[<-yI.out,<-b.out.2.2.2.2.2.2.2.2];rfl
  rw[he];go_end0
  exact⟨rfl,_,hF⟩
section
variable {X P:List Int} {d:eU} {K:Nat}
structure yG (d:eU):Prop where
 snd:∀t∈d.a8,aH t
 lit:∀t∈d.a8,0<=t.lit/\t.lit<256
 fC:∀x∈d.raw,0<=x/\x<256
 nt:d.a8.length<=16777216
 nr:d.raw.length<=16777216
 first:∀count,ay (d.a8.take count)<=d.raw.length
 full:0<ax d.a8->16384<=ay (d.a8.take (ax d.a8))/\ay (d.a8.take (ax d.a8))<=65535
 Lh:d.f.Ok d.f.at_
 nD:d.f.D.length<=16777216
 fby:∀x∈d.f.D,0<=x/\x<256
theorem eT.facts (h:eT X P d):yG d:=by
 obtain⟨all,kinds,stops,bn,pre,h⟩ :=h;have f:all.length+d.raw.length=X.length:=by rw[<-List.length_append,h.KQ]
 have c:=h.big;have g:=D6 h.sound;have e:=(h.first d.a8.length).2;rw[List.take_of_length_le (Nat.le_refl _)]at e;exact⟨h.sound,h.lit,λx a=>h.fC x (by rw[<-h.KQ];exact List.mem_append_right _ a),ω,ω,λcount=>(h.first count).2,λb=>by have:=zo h b;omega,h.Lh,by rw[h.fd];exact c,by rw[h.fd];exact h.fC⟩
def DB (K:Nat) (X P:List Int) (d:eU):Prop:=eT X P d/\d.L.length+100*d.raw.length<=K
theorem DB.lay (h:DB K X P d) (a:0<ax d.a8):DB K X P (dJ d (ax d.a8) false):=by
 refine⟨h.1.lay a, ?_⟩;have hF:=h.1.facts;obtain⟨all,kinds,stops,bn,pre,b⟩ :=h.1;have c:=nz b (ax d.a8) false (hF.full a).2;have e:(dJ d (ax d.a8) false).raw.length=d.raw.length-ay (d.a8.take (ax d.a8)):=List.length_drop;have g:=h.2;have f:=hF.first (ax d.a8);have h4:=hF.full a;omega
theorem DB.more (h:DB K X P d) {K':Nat} (a:K<=K'):DB K' X P d:= ⟨h.1,Nat.le_trans h.2 a⟩
theorem DB.size (h:DB K X P d):d.L.length<=K:=by have:=h.2;omega
theorem eT.grow (h:eT X P d) (x:List Int) (b:(X++x).length<=16777216) (a:∀v∈x,0<=v/\v<256):eT (X++x) P { d with raw:=d.raw++x,f:=eC d.f x }:=by
 obtain⟨all,kinds,stops,bn,pre,h⟩ :=h;exact⟨_,_,_,_,_,h.grow x b a⟩
theorem eT.a8 (h:eT X P d) (left:Nat):eT X P (dI left d):=by
 obtain⟨all,kinds,stops,bn,pre,h⟩ :=h;exact⟨_,_,_,_,_,(h.dI left).1⟩
theorem DB.grow (h:DB K X P d) (x:List Int) (b:(X++x).length<=16777216) (a:∀v∈x,0<=v/\v<256):DB (K+100*x.length) (X++x) P { d with raw:=d.raw++x,f:=eC d.f x }:=
 ⟨h.1.grow x b a,by have:=h.2;show d.L.length+100*(d.raw++x).length<=_;rw[List.length_append];omega⟩
theorem DB.a8 (h:DB K X P d) (left:Nat):DB K X P (dI left d):= ⟨h.1.a8 left,h.2⟩
theorem DB.drain (h:DB K X P d) (k:Nat):DB K X P (fE k d):=lj (λ_ q a=>q.lay a) k d h
theorem DB.bJ (h:DB K X P d) (k:Nat):DB K X P (bJ k d):=jz (λ_ q a=>q.lay a) k d h
theorem DB.chunk (h:DB K X P d) {x:List Int} (b:(X++x).length<=16777216) (a:∀v∈x,0<=v/\v<256):DB (K+100*x.length) (X++x) P (jv d x):=((h.grow x b a).a8 261).drain _
theorem DB.write:∀(k:Nat) {K:Nat} {X:List Int} {d:eU} (b:List Int),DB K X P d->b.length<=k->(X++b).length<=16777216->(∀v∈b,0<=v/\v<256)->DB (K+100*b.length) (X++b) P (bL k d b)
 | 0,K,X,d,b,h,hk,_,_=>by
   have:b=[]:=List.eq_nil_of_length_eq_zero ω;subst this;rw[List.append_nil];exact h
 | k+1,K,X,d,b,h,hk,hl,hb=>by
   unfold bL
   split
   · rename_i c
     rw[List.length_append]at hl
     have a:=DB.write k (b.drop (min b.length 16384)) (h.chunk (x:=b.take (min b.length 16384)) (by rw[List.length_append,List.length_take];omega) λv hv=>hb v (List.mem_of_mem_take hv)) (by rw[List.length_drop];omega)
      (by rw[List.append_assoc,List.take_append_drop,List.length_append];exact hl) λv hv=>hb v (List.mem_of_mem_drop hv)
     rw[List.append_assoc,List.take_append_drop,List.length_take,List.length_drop]at a;exact a.more ω
   · have:b=[]:=List.eq_nil_of_length_eq_zero ω;subst this;rw[List.append_nil];exact h
theorem DB.rest (h:DB K X P d):DB K X P (aY d):=(h.a8 0).bJ _
theorem DB.new (lev:Int):DB 0 [] [] (vd lev):= ⟨⟨_,_,_,_,_,m8.new lev⟩,Nat.le_refl _⟩
theorem Ch (d:eU):fE d.a8.length d=if 0<ax d.a8 then fE (dJ d (ax d.a8) false).a8.length (dJ d (ax d.a8) false)else d:=by
 have c:∀(k:Nat) (d:eU),d.a8.length<=k->∀j,fE (k+j) d=fE k d:=λk=>by
  induction k with
  | zero=>
    intro d hd j;have a:ax d.a8=0:=by have:=gX d.a8;omega
    cases j with
    | zero=>rfl
    | succ j=>show(if 0<ax d.a8 then _ else d)=d;rw[if_neg ω]
  | succ k b=>
    intro d hd j;rw[show k+1+j=(k+j)+1 by omega];show(if 0<ax d.a8 then fE (k+j) _ else d)=(if 0<ax d.a8 then fE k _ else d)
    split
    · exact b _ (by show(d.a8.drop _).length<=k;rw[List.length_drop];omega) j
    · rfl
 by_cases a:0<ax d.a8
 · rw[if_pos a];have e:=gX d.a8;obtain⟨k,f⟩ :∃k,d.a8.length=k+1:= ⟨d.a8.length-1,ω⟩;have g:(dJ d (ax d.a8) false).a8.length=d.a8.length-ax d.a8:=List.length_drop;rw[f];show(if 0<ax d.a8 then fE k _ else d)=_
   rw[if_pos a];have:=c (dJ d (ax d.a8) false).a8.length (dJ d (ax d.a8) false) (Nat.le_refl _) (k-(dJ d (ax d.a8) false).a8.length);rw[Nat.add_sub_cancel' ω]at this;exact this
 · rw[if_neg a];cases d.a8.length with
   | zero=>rfl
   | succ k=>show(if 0<ax d.a8 then _ else d)=d;rw[if_neg a]
theorem Ci (d:eU):bJ d.a8.length d=if 0<ax d.a8/\ax d.a8<d.a8.length then bJ (dJ d (ax d.a8) false).a8.length (dJ d (ax d.a8) false)else d:=by
 have c:∀(k:Nat) (d:eU),d.a8.length<=k->∀j,bJ (k+j) d=bJ k d:=λk=>by
  induction k with
  | zero=>
    intro d hd j;have a:ax d.a8=0:=by have:=gX d.a8;omega
    cases j with
    | zero=>rfl
    | succ j=>show(if 0<ax d.a8/\_ then _ else d)=d;rw[if_neg ω]
  | succ k b=>
    intro d hd j;rw[show k+1+j=(k+j)+1 by omega];show(if 0<ax d.a8/\ax d.a8<d.a8.length then bJ (k+j) _ else d)=(if 0<ax d.a8/\ax d.a8<d.a8.length then bJ k _ else d)
    split
    · exact b _ (by show(d.a8.drop _).length<=k;rw[List.length_drop];omega) j
    · rfl
 by_cases a:0<ax d.a8/\ax d.a8<d.a8.length
 · rw[if_pos a];have f:=gX d.a8;obtain⟨k,g⟩ :∃k,d.a8.length=k+1:= ⟨d.a8.length-1,ω⟩;have i:(dJ d (ax d.a8) false).a8.length=d.a8.length-ax d.a8:=List.length_drop
   have e:bJ (k+1) d=bJ k (dJ d (ax d.a8) false):=by
    show(if 0<ax d.a8/\ax d.a8<d.a8.length then bJ k _ else d)=_
    rw[if_pos a]
   rw[g,e];have:=c (dJ d (ax d.a8) false).a8.length (dJ d (ax d.a8) false) (Nat.le_refl _) (k-(dJ d (ax d.a8) false).a8.length);rw[Nat.add_sub_cancel' ω]at this;exact this
 · rw[if_neg a];cases h:d.a8.length with
   | zero=>rfl
   | succ k=>show(if 0<ax d.a8/\ax d.a8<d.a8.length then _ else d)=d;rw[if_neg a]
theorem Eg (d:eU) (b:List Int):bL b.length d b=if 0<b.length then bL (b.drop (min b.length 16384)).length (jv d (b.take (min b.length 16384))) (b.drop (min b.length 16384))else d:=by
 have f:∀(k:Nat) (b:List Int) (d:eU),b.length<=k->∀j,bL (k+j) d b=bL k d b:=λk=>by
  induction k with
  | zero=>
    intro b d hd j;cases j with
    | zero=>rfl
    | succ j=>show(if 0<b.length then _ else d)=d;rw[if_neg ω]
  | succ k c=>
    intro b d hd j;rw[show k+1+j=(k+j)+1 by omega];show(if 0<b.length then bL (k+j) _ _ else d)=(if 0<b.length then bL k _ _ else d)
    split
    · exact c _ _ (by rw[List.length_drop];omega) j
    · rfl
 by_cases a:0<b.length
 · rw[if_pos a];obtain⟨k,g⟩ :∃k,b.length=k+1:= ⟨b.length-1,ω⟩;have i:(b.drop (min b.length 16384)).length=b.length-min b.length 16384:=List.length_drop
   have e:bL (k+1) d b=bL k (jv d (b.take (min b.length 16384))) (b.drop (min b.length 16384)):=by
    show(if 0<b.length then bL k _ _ else d)=_
    rw[if_pos a]
   rw[show bL b.length d b=bL (k+1) d b by rw[g],e];have:=f (b.drop (min b.length 16384)).length (b.drop (min b.length 16384)) (jv d (b.take (min b.length 16384))) (Nat.le_refl _) (k-(b.drop (min b.length 16384)).length);rw[Nat.add_sub_cancel' ω]at this;exact this
 · rw[if_neg a];cases h:b.length with
   | zero=>rfl
   | succ k=>omega
end
section
variable {w w' w0:World} {b0 g:Nat} {c c0 c':Nat->Nat} {M M':EM} {d d':eU} {done done':Bool}
theorem DE.trans (h:DE b0 w0 c0 w c) (b:DE b0 w c w' c'):DE b0 w0 c0 w' c':=
 ⟨h.1.trans b.1,h.2.1.trans b.2.1 (λk a=>by
   rcases Nat.lt_or_ge k w0.heap.size with d | d
   · exact .inl (by rw[<-h.2.2 k d];exact a)
   · exact .inr d),λk a=>(b.2.2 k (Nat.lt_of_lt_of_le a h.2.1.size)).trans (h.2.2 k a)⟩
theorem bA.yr {a:EM} (h:DE b0 w0 c0 w c) (d:bA w c w' b0 g a d' done'):bA w0 c0 w' b0 g a d' done':=by
 obtain⟨c2,b,h4⟩ :=d;exact⟨c2,b,h.trans h4⟩
end
section
variable {w w' w0:World} {b0 g:Nat} {c c0:Nat->Nat} {M:EM} {d:eU} {done:Bool}
theorem Ea {left:Nat} {l:List aF} {st':ed} (hF:yG d) (a:tA (cT d.lev) left d.f l st') (b:st'.D.length-st'.at_<=left):dI left d={ d with f:=st',a8:=d.a8++l }/\l.length<=16777216:=by
 have h:=E0 (e:=cT d.lev) (left:=left) (d.f.D.length-d.f.at_) a b hF.Lh (Nat.le_refl _);unfold dI;rw[h];refine⟨rfl, ?_⟩;obtain⟨g,c,i,h4⟩ :=B4 a hF.Lh;have h5:=g.hi;have h6:=hF.nD;rw[<-c]at h6;omega
theorem cW.app {b n:World} {a:Option Addr} {m h:Nat} {l:List aF} (h5:cW b b0 g c M d done) (u:fl n b0 a (M.nt+m) h (d.a8++l)) (v:b.grownBy n (aa M.At)) (o:aa a=aa M.At\/aa a=some b.heap.size):
  bA b c (n.setCell ⟨g,4,none⟩ (.slice a (M.nt+m) h)) b0 g { M with At:=a,nt:=M.nt+m,ct:=h } { d with a8:=d.a8++l } done:=by
 have t:aa a≠some g:=λe=>by
  rcases o with q | q
  · have y:=h5.ct g (by rw[<-q,e]);have x:=h5.cg;omega
  · rw[e]at q;injection q with q;have:=h5.cell.lt;omega
 have r:some g≠aa M.At:=λe=>by have y:=h5.ct g e.symm;have x:=h5.cg;omega
 have s:aq b (n.setCell ⟨g,4,none⟩ (.slice a (M.nt+m) h)) (λk=>k=g\/aa M.At=some k):=((aq.refl b _).grown v (λk f=> .inl (.inr f))).setCell (.inl (.inl rfl)) _
 have w:Ar (n.setCell ⟨g,4,none⟩ (.slice a (M.nt+m) h)) g 6 (eF { M with At:=a,nt:=M.nt+m,ct:=h } d.lev done):=((h5.cell.grown v r).aQ (i:=4) ω _).congr (λj z=>by
  obtain rfl | rfl | rfl | rfl | rfl | rfl:j=0\/j=1\/j=2\/j=3\/j=4\/j=5:=ω
  all_goals rfl)
 exact h5.refl.tokens s w ⟨u.1,u.2.far (p:= ⟨g,4,none⟩) (λe=>t e) _⟩ (λk f=>by
  rcases o with e | e
  · exact .inl (e▸f)
  · rw[e]at f;injection f with f;exact .inr ω)
theorem bA.full (h:bA w0 c0 w b0 g M d done) (hF:yG d):Calls Tryz.prog 31 #[.pointer (some ⟨g,0,none⟩)] w λe w'=>e= .returned (.int .i64 ((ax d.a8:Nat):Int))/\bA w0 c0 w' b0 g M d done:=by
 obtain⟨c,a,b⟩ :=h;have f:M.nt=d.a8.length:=a.tok.1;exact(Jw w g M.At M.nt M.ct d.a8 a.cells.2.2.2.2.1 a.tok.rd (by have:=hF.nt;omega) hF.snd).mono λe w' hp=> ⟨hp.1,bA.keeps ⟨c,a,b⟩ hp.2⟩
theorem bA.lay (h:bA w0 c0 w b0 g M d done) (hF:yG d) (f:d.L.length<=2000000000000) (count:Nat) (b:count<=d.a8.length) (a:ay (d.a8.take count)<=65535) (last:Bool):
  Calls Tryz.prog 32 #[.pointer (some ⟨g,0,none⟩), .int .i64 count, .bool last] w λe w'=>e= .returned (.tuple #[])/\∃M',bA w0 c0 w' b0 g M' (dJ d count last) done:=by
 obtain⟨c,j,i⟩ :=h;exact(SE w b0 g c M d done j hF.snd hF.lit hF.fC count b a (hF.first count) f (by have:=hF.nt;omega) (by have:=hF.nr;omega) last).mono λe w' hp=> ⟨hp.1,by obtain⟨M',hp⟩ :=hp.2;exact⟨M',bA.yr i hp⟩⟩
theorem bA.cells (h:bA w0 c0 w b0 g M d done):w.cell? ⟨g,0,none⟩ =some (.pointer (some ⟨M.gf,0,none⟩))/\w.cell? ⟨g,1,none⟩ =some (.pointer (some ⟨M.gw,0,none⟩))/\w.cell? ⟨g,2,none⟩ =some (.int .i64 d.lev)/\w.cell? ⟨g,3,none⟩ =some (.slice M.Ar M.nr M.cr)/\w.cell? ⟨g,4,none⟩ =some (.slice M.At M.nt M.ct)/\w.cell? ⟨g,5,none⟩ =some (.bool done):=by
 obtain⟨c,a,b⟩ :=h;exact a.cells
theorem bA.nt (h:bA w0 c0 w b0 g M d done):M.nt=d.a8.length:=by
 obtain⟨c,a,b⟩ :=h;exact a.tok.1
end
def QS (w:World) (c:Nat->Nat) (b0 g:Nat) (done:Bool) (K:Nat) (X P:List Int) (D:eU) (gk:Nat) (v:Value) (wx:World):Prop:=∃M' d',v= .int .i64 ((ax d'.a8:Nat):Int)/\bA w c wx b0 g M' d' done/\DB K X P d'/\bJ d'.a8.length d'=D/\gk=d'.a8.length
theorem Pd (w:World) (b0 g:Nat) (c:Nat->Nat) (M:EM) (d:eU) (done:Bool) (h:cW w b0 g c M d done) {K:Nat} {X P:List Int} (hB:DB K X P d) (hK:K<=2000000000000):
  Calls Tryz.prog 35 #[.pointer (some ⟨g,0,none⟩)] w λe w'=>e= .returned (.tuple #[])/\∃M',bA w c w' b0 g M' (aY d) done:=by
 obtain⟨i0,hi,u,t,s⟩ :=info_parts rj;have Hi:=η (⟨hi,u,t,s⟩ :_/\_/\_/\_);obtain⟨c0,c1,c2,c3,c4,c5⟩ :=h.cells;obtain⟨nm,Dm,hf⟩ :=h.TL;have ac:=η (sB true (hf.keeps (Below.refl _ _).drew));have H:=η (⟨h,hB,hK,hB.1.facts⟩ :_/\_/\_/\_);clear hi u t s hf h hB hK c1 c2 c3 c5;go_enter Tryz.func35,Tryz.ntmps35
 go_wp2_with fail
 go_region_law
  (first
    | (go_simp;go_at_call 30;(refine ac.out.mono ?_)
       rintro e w5 ⟨l,st',At,nt,ct,rfl,j,v,I,x,y⟩;have Nv:aq w w5 (FF M.A M.gm M.Ap M.gf):=((aq.refl w _).drew).trans y (λk T=> .inl T);have h5:bA w c w5 b0 g M { d with f:=st' } done:=H.out.1.refl.ur Nv x (λk T=> .inl T);have S:=η (Ea H.out.2.2.2 j v);clear j v x y Nv;obtain⟨c5,h5,Bw⟩ :=h5;have e4:=h5.cells.2.2.2.2.1)
    | (have _g:=I;(refine yj b0 i0 rfl (.tmp 7) (.tmp 12) rfl Hi.out.1 Hi.out.2.1 Hi.out.2.2.1 Hi.out.2.2.2 rfl h5.tok rfl I.rd (by have h1:=h5.tok.1;have h2:=H.out.2.2.2.nt;have h3:=I.1;have h4:=S.out.2;have h6:M.nt=d.a8.length:=h1;omega) h5.lo ?_)
       intro A6 c6 w6 fI V dc;have cQ:=h5.cell.grown V (λe=>by have h1:=h5.ct g e.symm;have h2:=h5.cg;omega);have ab:=cQ.cell (i:=4) ω;have R:=cQ.frozen' (i:=4) ω))
 all_goals
  have h6:=bA.yr Bw (h5.app fI V dc);have B:=S.out.1;have b:=H.out.2.1.a8 0;have J:bJ (dI 0 d).a8.length (dI 0 d)=aY d:=rfl;have z:dI 0 d={ d with f:=st',a8:=d.a8++l }:=B;rw[z]at b J;have h7:bA w c (w6.setCell ⟨g,4,none⟩ (.slice A6 (M.nt+nt) c6)) b0 g { M with At:=A6,nt:=M.nt+nt,ct:=c6 } { d with f:=st',a8:=d.a8++l } done:=h6;clear h6 B z S I h5 Bw e4 fI V dc cQ ab R;obtain⟨W,hW⟩ :=ν (w6.setCell ⟨g,4,none⟩ (.slice A6 (M.nt+nt) c6));obtain⟨d2,Z⟩ :∃d2,({ d with f:=st',a8:=d.a8++l }:eU)=d2:= ⟨_,rfl⟩;rw[hW,Z]at h7;rw[Z]at b J;rw[hW];clear hW Z;have O:=η (h7.full b.1.facts);have G:=η (⟨b,J⟩ :_/\_);clear h7 b J
  go_wp2_with fail
  refine O.out.mono ?_;rintro e w8 ⟨rfl,h8⟩;have Q:=η h8;clear h8
  go_wp2_with fail
  go_loopg [2] d2.a8.length (QS w c b0 g done K X P (aY d))
  case atStart=>exact⟨_,_,rfl,Q.out,G.out.1,G.out.2,rfl⟩
  case round=>
   obtain⟨M',d',rfl,o,r,m,U⟩ :=hrel;have E:=o.cells.2.2.2.2.1;rw[o.nt]at E;have q:=r.1.facts;obtain⟨F,hF⟩ :=ν (ax d'.a8);obtain⟨N,p⟩ :=ν (d'.a8.length);rw[p]at E;have al:N<=16777216:=by have:=q.nt;omega
   have n:=gX d'.a8;have am:(0:Int)<=(F:Int)/\(F:Int)<=16777216/\(N:Int)<=16777216:=ω;rw[Ci]at m;by_cases a:0<F/\F<N
   · have YQ:(0:Int)<(F:Int)/\(F:Int)<(N:Int)/\0<F/\F<N:=ω;rw[hF,p,if_pos a]at m;have Vb:=η (o.lay q (by have:=r.size;have:=H.out.2.2.1;omega) F ω (by rw[<-hF];exact(q.full ω).2) false);have Fx:=r.lay ω;rw[hF]at Fx⊢;have zL:(dJ d' F false).a8.length<gk:=by rw[show(dJ d' F false).a8.length=d'.a8.length-F from List.length_drop];omega
     have L:=η (⟨Fx,m,zL⟩ :_/\_/\_);clear a hF p n m o r Fx zL U q G Q O
     go_wp2_with fail
     refine Vb.out.mono ?_;rintro e GV ⟨rfl,an,D⟩;have ad:=η (D.full L.out.1.1.facts);clear D
     go_wp2_with fail
     refine ad.out.mono ?_;rintro e QB ⟨rfl,C⟩;have ah:=η C;clear C
     go_wp2_with fail
     go_roundg (dJ d' F false).a8.length
     case measure=>exact L.out.2.2
     case rel=>exact⟨_,_,rfl,ah.out,L.out.1,L.out.2.1,rfl⟩
   · rw[hF,p,if_neg a]at m;have Y:∃M',bA w c wr b0 g M' (aY d) done:= ⟨M',by rw[<-m];exact o⟩;have J6:=η Y;rw[hF];by_cases h0:0<F
     · have YQ:(0:Int)<(F:Int)/\¬(F:Int)<(N:Int)/\0<F/\¬F<N:=ω;clear a hF p n m o r U q G Q O Y
       go_wp2_with fail
       go_end0
       exact⟨rfl,J6.out⟩
     · have YQ:¬(0:Int)<(F:Int)/\¬0<F:=ω;clear a hF p n m o r U q G Q O Y
       go_wp2_with fail
       go_end0
       exact⟨rfl,J6.out⟩
section
variable {w w' w0:World} {b0 g:Nat} {c c0:Nat->Nat} {M:EM} {d:eU} {done:Bool}
theorem cW.a3g {h:World} {a:Option Addr} {m f:Nat} {l:List Int} (h5:cW w b0 g c M d done) (u:ag .u8 h b0 5 a (M.nr+m) f (d.raw++l)) (t:w.grownBy h (aa M.Ar)) (n:aa a=aa M.Ar\/aa a=some w.heap.size):
  bA w c (h.setCell ⟨g,3,none⟩ (.slice a (M.nr+m) f)) b0 g { M with Ar:=a,nr:=M.nr+m,cr:=f } { d with raw:=d.raw++l } done:=by
 have s:aa a≠some g:=λe=>by
  rcases n with o | o
  · have y:=h5.cr g (by rw[<-o,e]);have x:=h5.cg;omega
  · rw[e]at o;injection o with o;have:=h5.cell.lt;omega
 have q:some g≠aa M.Ar:=λe=>by have y:=h5.cr g e.symm;have x:=h5.cg;omega
 have r:aq w (h.setCell ⟨g,3,none⟩ (.slice a (M.nr+m) f)) (λk=>k=g\/aa M.Ar=some k):=((aq.refl w _).grown t (λk b=> .inl (.inr b))).setCell (.inl (.inl rfl)) _
 have v:Ar (h.setCell ⟨g,3,none⟩ (.slice a (M.nr+m) f)) g 6 (eF { M with Ar:=a,nr:=M.nr+m,cr:=f } d.lev done):=((h5.cell.grown t q).aQ (i:=3) ω _).congr (λj z=>by
  obtain rfl | rfl | rfl | rfl | rfl | rfl:j=0\/j=1\/j=2\/j=3\/j=4\/j=5:=ω
  all_goals rfl)
 exact h5.refl.Pc r v (u.far (p:= ⟨g,3,none⟩) (λe=>s e) _) (λk b=>by
  rcases n with e | e
  · exact .inl (e▸b)
  · rw[e]at b;injection b with b;exact .inr ω)
theorem bA.oH (h:bA w0 c0 w b0 g M d done) {k:IntKind} {B n:Nat} {A:Option Addr} {l:List Int} (i:aT k w0 B A n l) (j:B<=w0.heap.size) (b:0<n->∀a,A=some a->c0 a.block=0):aT k w B A n l:=by
 obtain⟨c,p,m⟩ :=h;exact m.2.1.oH i j λo a e f=>f (b o a e)
theorem bA.size (h:bA w0 c0 w b0 g M d done):w0.heap.size<=w.heap.size:=by
 obtain⟨c,b,a⟩ :=h;exact a.2.1.size
theorem Fb {A:Option Addr} {c j:Nat} {b:Addr} (h:bY A c j=some b):∃a,A=some a/\b.block=a.block:=by
 unfold bY at h
 split at h
 · exact⟨b,h,rfl⟩
 · cases A with
   | none=>simp at h
   | some a=>simp at h;exact⟨a,rfl,by rw[<-h,aw]⟩
theorem cW.VN (h:cW w b0 g c M d done) (hF:d.f.D.length<=16777216) {B m e:Nat} {C:Option Addr} {x:List Int} (i:aT .u8 w B C m x) (k:B<=w.heap.size) (a:∀v∈x,0<=v/\v<256) (s:m<=16777216):
  Calls Tryz.prog 29 #[.pointer (some ⟨M.gf,0,none⟩), .slice C m e] w λr w'=>r= .returned (.tuple #[])/\∃M',bA w c w' b0 g M' { d with f:=eC d.f x } done:=by
 obtain⟨q,t,j⟩ :=h.TL;refine(Fv j i k a ω).mono ?_;rintro r w' ⟨rfl,A',n',c',Ap',np',cp',b,p,o,n,l⟩;exact⟨rfl,_,h.refl.ur n ⟨b,p,o⟩ l⟩
end
def UT (w:World) (c:Nat->Nat) (b0 g:Nat) (K:Nat) (X P:List Int) (D:eU) (gk:Nat) (v:Value) (wx:World):Prop:=∃M' d',v= .int .i64 ((ax d'.a8:Nat):Int)/\bA w c wx b0 g M' d' false/\DB K X P d'/\fE d'.a8.length d'=D/\gk=d'.a8.length
def M0 (w:World) (c:Nat->Nat) (b0 g:Nat) (P:List Int) (D:eU) (gk:Nat) (v:Value) (wx:World):Prop:=∃C m e x M' d' K X,v= .slice C m e/\m<=e/\aT .u8 w w.heap.size C m x/\(0<m->∀a,C=some a->c a.block=0)/\(∀v∈x,0<=v/\v<256)/\bA w c wx b0 g M' d' false/\DB K X P d'/\(X++x).length<=16777216/\K+100*m<=2000000000000/\bL x.length d' x=D/\gk=m
theorem Fo (w:World) (b0 g:Nat) (c:Nat->Nat) (M:EM) (d:eU) (h:cW w b0 g c M d false) {K:Nat} {X P:List Int} (hB:DB K X P d) (C:Option Addr) (m e:Nat) (x:List Int) (Q:aT .u8 w w.heap.size C m x) (Qq:m<=e) (bb:0<m->∀ad,C=some ad->c ad.block=0) (t:∀v∈x,0<=v/\v<256) (Z:(X++x).length<=16777216) (hK:K+100*m<=2000000000000):
  Calls Tryz.prog 18 #[.pointer (some ⟨g,0,none⟩), .slice C m e] w λr w'=>r= .returned (.int .i64 0)/\∃M',bA w c w' b0 g M' (bL m d x) false:=by
 obtain⟨i0,hi,an,am,al⟩ :=info_parts rj;have Hi:=η (⟨hi,an,am,al⟩ :_/\_/\_/\_);obtain⟨i1,ki,ah,ac,ab⟩ :=info_parts jy;have L:=η (⟨ki,ah,ac,ab⟩ :_/\_/\_/\_);obtain⟨c0,c1,c2,c3,c4,c5⟩ :=h.cells;have N:M0 w c b0 g P (bL m d x) m (.slice C m e) w:= ⟨C,m,e,x,M,d,K,X,rfl,Qq,Q,bb,t,h.refl,hB,Z,hK,by rw[<-Q.1],rfl⟩;clear hi an am al ki ah ac ab h hB hK c0 c1 c2 c3 c4 Q Qq bb t Z;obtain⟨D,hD⟩ :=ν (bL m d x);rw[hD]at N⊢;clear hD;go_enter Tryz.func18,Tryz.ntmps18
 go_wp2_with fail
 go_loopg [1] m (M0 w c b0 g P D)
 case atStart=>exact N
 case round=>
  clear N c5;obtain⟨C,m,e,x,M',d',K,X,rfl,Qq,Q,bb,t,H,Fw,Z,hK,hD,ap⟩ :=hrel;have lH:x.length=m:=Q.1.symm;rw[Eg]at hD;by_cases h0:0<m
  · rw[if_pos ω]at hD;obtain⟨n,hn⟩ :=ν (min x.length 16384);rw[hn]at hD;have uM:m<=16777216:=by rw[List.length_append]at Z;omega
    have K4:(0:Int)<(m:Int)/\(m:Int)<=16777216/\(0:Int)<=(n:Int)/\(n:Int)<=(m:Int):=ω;have zR:n<=m:=ω;have bp:n<=e:=ω;have HN:=η hn;have a:=η (⟨H,Fw,Z,hK,Q,bb,t,hD,ap,lH⟩ :_/\_/\_/\_/\_/\_/\_/\_/\_/\_);clear H Fw Z hK Q bb t hD ap;rw[lH]at HN;clear hn
    go_upto_region 4 with fail
    go_cut [5] (λv5 wx=>v5= .int .i64 n/\wx=wr)
    case first=>
     have bs:m<16384\/m=16384\/16384<m:=ω;rcases bs with hc | hc | hc
     · have V:n=m:=by have:=HN.out;omega
       have Ex:(m:Int)<16384/\¬(16384:Int)<(m:Int):=ω;subst V;clear hc
       go_wp2_with fail
       all_goals
        go_meet
        exact⟨by go_num,rfl⟩
     · have V:n=m:=by have:=HN.out;omega
       subst V;subst hc
       go_wp2_with fail
       all_goals
        go_meet
        exact⟨by go_num,rfl⟩
     · have V:n=16384:=by have:=HN.out;omega
       have Ex:(16384:Int)<(m:Int)/\¬(m:Int)<16384:=ω;subst V;clear hc
       go_wp2_with fail
       all_goals
        go_meet
        exact⟨by go_num,rfl⟩
    case rest=>
    obtain⟨rfl,bo⟩ :=hcut;obtain rfl:=bo.symm;obtain⟨cA,o,G⟩ :=a.out.1.keeps (Below.refl wr.heap.size wr).drew;have O:aT .u8 wr.drew w.heap.size C m x:=bA.oH ⟨cA,o,G⟩ a.out.2.2.2.2.1 (Nat.le_refl _) a.out.2.2.2.2.2.1;have Lz:=O.pre zR;have ca:=dr (P:=Tryz.prog) 26 5 Tryz.underlying26 L.out.1 L.out.2.2.1 C m e (j:=n) bp;have c3:=a.out.1.cells.2.2.2.1;have wY:M'.nr+n<=1000000000000:=by have H:M'.nr=d'.raw.length:=o.raw.1;have:=a.out.2.1.1.facts.nr;omega
    have ce:=η O;clear O
    go_wp2_with fail
    go_region_law
     (first
       | ((refine dv .u8 b0 5 i1 1 rfl (.tmp 25) (.tmp 28) _ rfl Tryz.underlying26 L.out.1 L.out.2.1 L.out.2.2.1 L.out.2.2.2 rfl o.raw rfl Lz wY ω o.lo ?_)
          intro A6 c6 w6 fI R dc;have T:=o.cell.grown R (λe=>by have H:=o.cr g e.symm;have h2:=o.cg;omega);have bx:=T.cell (i:=3) ω;have bn:=T.frozen' (i:=3) ω))
    all_goals
     have h6:=bA.yr G (o.a3g fI R dc);clear o G Lz c3 wY fI R dc T bx bn;obtain⟨W,hW⟩ :=ν (w6.setCell ⟨g,3,none⟩ (.slice A6 (M'.nr+n) c6));rw[hW]at h6⊢;clear hW;obtain⟨M6,zy⟩ :∃q,({ M' with Ar:=A6,nr:=M'.nr+n,cr:=c6 }:EM)=q:= ⟨_,rfl⟩;rw[zy]at h6;clear zy;have c0:=h6.cells.1;obtain⟨c7,o,G⟩ :=h6.keeps (Below.refl W.heap.size W).drew;have Lz:aT .u8 W.drew w.heap.size C n (x.take n):=(bA.oH ⟨c7,o,G⟩ a.out.2.2.2.2.1 (Nat.le_refl _) a.out.2.2.2.2.2.1).pre zR;have bi:=η (o.VN (e:=e) a.out.2.1.1.facts.nD Lz (by have:=h6.size;exact this) (λv hv=>a.out.2.2.2.2.2.2.1 v (List.mem_of_mem_take hv)) ω);have bk:=η G;clear h6 o G Lz
     go_wp2_with fail
     go_region_law
      ((go_simp;go_at_call 29;(refine bi.out.mono ?_))
       rintro r w8 ⟨rfl,E,h8⟩)
     all_goals
      have s:=bA.yr bk.out h8;have y:=a.out.2.1.grow (x.take n) (by have h:=a.out.2.2.1;rw[List.length_append]at h⊢;rw[List.length_take];omega) (λv hv=>a.out.2.2.2.2.2.2.1 v (List.mem_of_mem_take hv));obtain⟨B,S⟩ :∃q,({ d' with raw:=d'.raw++x.take n,f:=eC d'.f (x.take n) }:eU)=q:= ⟨_,rfl⟩;have aC:fE (dI 261 B).a8.length (dI 261 B)=jv d' (x.take n):=by rw[<-S];rfl
      replace s:bA w c w8 b0 g E { d' with raw:=d'.raw++x.take n,f:=eC d'.f (x.take n) } false:=s;rw[S]at s y;have bG:=s.cells.1;have bB:=s.cells.2.2.2.2.1;obtain⟨cB,o,G⟩ :=s;obtain⟨nm,Dm,hf⟩ :=o.TL;have be:=η (sB false (hf.keeps (Below.refl _ _).drew));have Y:=η (⟨o,G,y,aC⟩ :_/\_/\_/\_);clear bi bk h8 o G y aC hf S c0
      go_wp2_with fail
      go_region_law
       (first
         | (go_simp;go_at_call 30;(refine be.out.mono ?_)
            rintro r w5 ⟨l,st',At,nt,ct,rfl,I,ao,Qs,aA,aE⟩;have Nv:aq w8 w5 (FF E.A E.gm E.Ap E.gf):=((aq.refl w8 _).drew).trans aE (λk hk=> .inl hk);have h5:bA w8 cB w5 b0 g E { B with f:=st' } false:=Y.out.1.refl.ur Nv aA (λk hk=> .inl hk);have XB:=η (Ea Y.out.2.2.1.1.facts I ao);clear I ao aA aE Nv;obtain⟨c5,h5,Bw⟩ :=h5;have e4:=h5.cells.2.2.2.2.1)
         | (have _g:=Qs;(refine yj b0 i0 rfl (.tmp 44) (.tmp 49) rfl Hi.out.1 Hi.out.2.1 Hi.out.2.2.1 Hi.out.2.2.2 rfl h5.tok rfl Qs.rd (by have H:=h5.tok.1;have h2:=Y.out.2.2.1.1.facts.nt;have h3:=Qs.1;have h4:=XB.out.2;have h6:E.nt=B.a8.length:=H;omega) h5.lo ?_)
            intro A6 c6 w6 fI R dc;have T:=h5.cell.grown R (λe=>by have H:=h5.ct g e.symm;have h2:=h5.cg;omega);have bv:=T.cell (i:=4) ω;have bl:=T.frozen' (i:=4) ω))
      all_goals
       have h6:=bA.yr Y.out.2.1 (bA.yr Bw (h5.app fI R dc));have aI:dI 261 B={ B with f:=st',a8:=B.a8++l }:=XB.out.1;have u:=Y.out.2.2.1.a8 261;have RG:=Y.out.2.2.2;rw[aI]at u RG;have h7:bA w c (w6.setCell ⟨g,4,none⟩ (.slice A6 (E.nt+nt) c6)) b0 g { E with At:=A6,nt:=E.nt+nt,ct:=c6 } { B with f:=st',a8:=B.a8++l } false:=h6;clear h6 aI XB Qs h5 Bw e4 fI R dc T bv bl bG bB;obtain⟨W2,hW⟩ :=ν (w6.setCell ⟨g,4,none⟩ (.slice A6 (E.nt+nt) c6));obtain⟨d2,mb⟩ :∃d2,({ B with f:=st',a8:=B.a8++l }:eU)=d2:= ⟨_,rfl⟩;rw[hW,mb]at h7;rw[mb]at u RG;rw[hW];clear hW mb;have V9:=η (h7.full u.1.facts);have HX:=η (⟨u,RG⟩ :_/\_);clear h7 u RG Y be
       go_wp2_with fail
       refine V9.out.mono ?_;rintro r GV ⟨rfl,z⟩;have Tm:=η z;clear z V9;obtain⟨K2,U⟩ :=ν (K+100*(x.take n).length);rw[U]at HX;have aS:K2+100*(m-n)<=2000000000000:=by rw[<-U,List.length_take];have:=a.out.2.2.2.1;have:=a.out.2.2.2.2.2.2.2.2.2;omega
       have Tt:=η aS;clear U aS
       go_wp2_with fail
       go_loopg [6] d2.a8.length (UT w c b0 g K2 (X++x.take n) P (jv d' (x.take n)))
       case atStart=>exact⟨_,_,rfl,Tm.out,HX.out.1,HX.out.2,rfl⟩
       case round=>
        obtain⟨M9,p,rfl,s,y,J,WM⟩ :=hrel;have Lm:=y.1.facts;rw[Ch]at J;by_cases b:0<ax p.a8
        · rw[if_pos b]at J;have Vb:=η (s.lay Lm (by have:=y.size;have:=Tt.out;omega) (ax p.a8) (gX _) ((Lm.full b).2) false);have Fx:=y.lay b;have zL:(dJ p (ax p.a8) false).a8.length<(p.a8.length):=by have:=gX p.a8;rw[show(dJ p (ax p.a8) false).a8.length=p.a8.length-ax p.a8 from List.length_drop];omega
          obtain⟨F,hF⟩ :=ν (ax p.a8);have bt:=gX p.a8;have cc:(0:Int)<(F:Int)/\(F:Int)<=16777216/\0<F:=by have:=Lm.nt;omega
          rw[hF]at Vb Fx J zL⊢;have HY:=η (⟨Fx,J,zL,WM⟩ :_/\_/\_/\_);clear b hF bt J s y Fx zL WM Lm HX Tm
          go_wp2_with fail
          refine Vb.out.mono ?_;rintro r GV ⟨rfl,cd,z⟩;have bI:=η (z.full HY.out.1.1.facts);clear z
          go_wp2_with fail
          refine bI.out.mono ?_;rintro r QB ⟨rfl,bd⟩;have bS:=η bd;clear bd
          go_wp2_with fail
          go_roundg (dJ p F false).a8.length
          case measure=>have:=HY.out.2.2.1;have:=HY.out.2.2.2;omega
          case rel=>exact⟨_,_,rfl,bS.out,HY.out.1,HY.out.2.1,rfl⟩
        · rw[if_neg b]at J;have YQ:¬(0:Int)<((ax p.a8:Nat):Int):=ω;obtain⟨F,hF⟩ :=ν (ax p.a8);rw[hF]at YQ b⊢;have cb:¬(0:Int)<(F:Int)/\¬0<F:= ⟨YQ,b⟩;rw[J]at s y;have HE:=η (⟨s,y⟩ :_/\_);have bT:=bE (P:=Tryz.prog) 26 5 Tryz.underlying26 L.out.1 L.out.2.2.1 C m e zR;clear b hF J s y WM Lm HX Tm YQ
          go_wp2_with fail
          go_roundg (m-n)
          case measure=>have:=a.out.2.2.2.2.2.2.2.2.1;have:=HN.out;omega
          case rel=>exact⟨bY C e n,m-n,e-n,x.drop n,_,_,_,_,by go_num,ω,a.out.2.2.2.2.1.bY zR Qq,λh0 ad e=>(by obtain⟨a0,V,e2⟩ :=Fb e;rw[e2];exact a.out.2.2.2.2.2.1 ω a0 V),λv hv=>a.out.2.2.2.2.2.2.1 v (List.mem_of_mem_drop hv),HE.out.1,HE.out.2,by rw[List.append_assoc,List.take_append_drop];exact a.out.2.2.1,Tt.out,a.out.2.2.2.2.2.2.2.1,rfl⟩
  · have K4:¬(0:Int)<(m:Int):=ω;rw[if_neg ω]at hD;have HF:=η (⟨M',by rw[<-hD];exact H⟩ :∃M',bA w c wr b0 g M' D false);clear h0 hD H
    go_wp2_with fail
    go_ret
    exact⟨rfl,HF.out⟩
theorem eM.new (lev:Int):eM [] [] (vd lev):=
 ⟨_,_,_,_,_,m8.new lev, ⟨λi hi=>by simp at hi,rfl,Nat.le_refl _,Nat.le_refl _⟩⟩
section
variable {w w' w0:World} {b0 g:Nat} {c c0:Nat->Nat} {M:EM} {d:eU} {done:Bool} {K:Nat} {X P:List Int}
theorem DB.AU (h:DB K X P d):ay (aY d).a8<=16641:=by
 obtain⟨a,b,c,e,f,j,g,i⟩ :=h.1.rest;exact g
theorem bA.align (h:bA w0 c0 w b0 g M d done) (m:d.L.length<=2000000000000):
  Calls Tryz.prog 36 #[.pointer (some ⟨M.gw,0,none⟩)] w λe w'=>e= .returned (.tuple #[])/\∃M',bA w0 c0 w' b0 g M' { d with L:=kE d.L } done:=by
 obtain⟨c,b,l⟩ :=h;refine(lZ w b0 M.gw M.nw M.cw M.Aw _ b.L8 ω).mono ?_;rintro e w' ⟨A',n',c',rfl,j,i,f⟩
 exact⟨rfl,_,bA.writer (M:=M) (d:=d) ⟨c,b,l⟩ i j λk a=>by
  rcases a with a | a
  · exact .inl (.inl a)
  · rcases f k a with h | h
    · exact .inl (.inr h)
    · exact .inr h⟩
theorem bA.end_ (h:bA w0 c0 w b0 g M d done):bA w0 c0 (w.setCell ⟨g,5,none⟩ (.bool true)) b0 g M d true:=by
 obtain⟨c,a,m⟩ :=h;have b:aq w (w.setCell ⟨g,5,none⟩ (.bool true)) (λk=>k=g\/aa M.Ar=some k):=(aq.refl w _).setCell (.inl (.inl rfl)) _
 have f:=bA.Pc (M:=M) (d:=d) (A':=M.Ar) (n':=M.nr) (c':=M.cr) (l':=d.raw) (done':=true) ⟨c,a,m⟩ b
  ((a.cell.aQ (i:=5) ω (.bool true)).congr (λj n=>by
    obtain rfl | rfl | rfl | rfl | rfl | rfl:j=0\/j=1\/j=2\/j=3\/j=4\/j=5:=ω
    all_goals rfl))
  (a.raw.far (p:= ⟨g,5,none⟩) (λe=>by have o:=a.cr g e;have h4:=a.cg;omega) _) (λk l=> .inl l)
 exact f
end
theorem Ck (w:World) (g:Nat) (v:Value) (h:w.cell? ⟨g,5,none⟩ =some (.bool true)):Calls Tryz.prog 18 #[.pointer (some ⟨g,0,none⟩),v] w λe w'=>e= .returned (.int .i64 8)/\w=w':=by
 go_enter Tryz.func18,Tryz.ntmps18
 go_wp2
 go_ret
 exact⟨rfl,rfl⟩
theorem Ff (w:World) (b0 g:Nat) (c:Nat->Nat) (M:EM) (d:eU) (h:cW w b0 g c M d false) {K:Nat} {X P:List Int} (q:DB K X P d) (t:K+100<=2000000000000):
  Calls Tryz.prog 21 #[.pointer (some ⟨g,0,none⟩)] w λr w'=>r= .returned (.int .i64 0)/\∃M',bA w c w' b0 g M' (cN d) true:=by
 obtain⟨c0,c1,c2,B,k,u⟩ :=h.cells;have x:=η (Pd w b0 g c M d false h q ω);have l:=η (⟨q,t⟩ :_/\_);clear h q t c0 c1 c2 B k;go_enter Tryz.func21,Tryz.ntmps21
 go_wp2_with fail
 refine x.out.mono ?_;rintro e w1 ⟨rfl,O,o⟩;have j:=l.out.1.rest;have b:=j.1.facts;have k:=o.cells.2.2.2.2.1;rw[o.nt]at k
 have a:(dJ (aY d) (aY d).a8.length true).L.length<=2000000000000:=by
  obtain⟨all,kinds,stops,bn,pre,f⟩ :=j.1;have F:=nz f (aY d).a8.length true (by rw[List.take_of_length_le (Nat.le_refl _)];have:=l.out.1.AU;omega);have G:=(f.first (aY d).a8.length).2;have:=j.2;have:=l.out.2;omega
 obtain⟨N,p⟩ :=ν ((aY d).a8.length);have s:cN d={ dJ (aY d) N true with L:=kE (dJ (aY d) N true).L }:=by rw[<-p];rfl
 rw[p]at k a;have A:(0:Int)<=(N:Int)/\(N:Int)<=16777216:=by have:=b.nt;omega
 have y:=η (o.lay b (by have:=j.size;have:=l.out.2;omega) N ω (by rw[List.take_of_length_le ω];have:=l.out.1.AU;omega) true);have v:=η (⟨a,s⟩ :_/\_);clear o j b u x p a s
 go_wp2_with fail
 refine y.out.mono ?_;rintro e w2 ⟨rfl,J,f⟩;have c1:=f.cells.2.1;have m:=η (f.align v.out.1);clear f y k
 go_wp2_with fail
 refine m.out.mono ?_;rintro e z ⟨rfl,C,n⟩;have u:=n.cells.2.2.2.2.2;have E:z.frozen? ⟨g,5,none⟩ =false:=by obtain⟨I,h7,H⟩ :=n;exact h7.cell.frozen' (i:=5) ω
 have D:=η n.end_;clear n m c1
 go_wp2_with fail
 go_ret
 exact⟨rfl,C,by rw[v.out.2];exact D.out⟩
section
variable {w w':World} {b0 g:Nat} {c:Nat->Nat} {M:EM} {d:eU} {done:Bool}
theorem cW.aside {F:Nat->Prop} (h:cW w b0 g c M d done) (b:aq w w' F) (hF:∀k,F k->c k=0):cW w' b0 g c M d done:=
 ⟨b.ar h.cell (λe=>by have:=hF g e;have:=h.cg;omega),h.cg,
   by obtain⟨f,j,i⟩ :=h.TL;exact⟨f,j,i.cv b (λk a e=>by have:=hF k e;have:=h.cf k a;omega)⟩,h.cf,
   h.L8.cv b (λk a e=>by have:=hF k e;have:=h.cw k a;omega),h.cw,
   b.bf h.raw (λk a e=>by have:=hF k e;have:=h.cr k a;omega),h.cr,
   ⟨h.tok.1,b.own h.tok.2 (λk a e=>by have:=hF k e;have:=h.ct k a;omega)⟩,h.ct,
   λk a=> ⟨(h.cb k a).1,Nat.lt_of_lt_of_le (h.cb k a).2 b.size⟩⟩
theorem DB.Mp {K:Nat} {X P:List Int} (h:DB K X P d):(cN d).L.length<=K+60:=by
 have a:=h.rest;obtain⟨all,kinds,stops,bn,pre,b⟩ :=a.1;have c:=nz b (aY d).a8.length true (by rw[List.take_of_length_le (Nat.le_refl _)];have:=h.AU;omega);have f:=(b.first (aY d).a8.length).2;have i:=a.2;have e:(cN d).L=kE (dJ (aY d) (aY d).a8.length true).L:=rfl;have g:=fV (dJ (aY d) (aY d).a8.length true).L;rw[e];omega
end
theorem cW.taken {w w':World} {b0 g:Nat} {c:Nat->Nat} {M:EM} {d:eU} {done:Bool} (h:cW w b0 g c M d done) (b:kv w' b0 M.gw none 0 0 (rest d.L)) (e:aq w w' (λk=>k=M.gw)):
  bA w c w' b0 g { M with Aw:=none,nw:=0,cw:=0 } { d with L:=rest d.L } done:=
 h.refl.writer (e.more λk a=> .inl a) b (λk a=>by
  rcases a with a | a
  · exact .inl (.inl a)
  · simp [aa]at a)
end Go.Proofs.YtddhegejmkgmjaaGreat
