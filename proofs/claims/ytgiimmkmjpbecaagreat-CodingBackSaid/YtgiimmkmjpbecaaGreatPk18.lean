/-
  part
-/
import Derived.Test.YtgiimmkmjpbecaaGreatArr
import Derived.Test.YtgiimmkmjpbecaaGreatFrqW
import Derived.Test.YtgiimmkmjpbecaaGreatPk15
import Derived.Test.YtgiimmkmjpbecaaGreatPk17
import Derived.Test.YtgiimmkmjpbecaaGreatRunV
set_option linter.unusedVariables false
set_option maxRecDepth 100000
set_option maxHeartbeats 8000000
namespace Go.Proofs.YtgiimmkmjpbecaaGreat
open Go.RowKit
def kC:Array Value:=(jI.map (Value.int .i64)).toArray
theorem a0E:∀i,i<19->kC[i]?=some (.int .i64 (ix jI i)):=by
 intro i hi;unfold kC;simp [ix,jI];rcases i with _ | _ | _ | _ | _ | _ | _ | _ | _ | _ | _ | _ | _ | _ | _ | _ | _ | _ | _ | i <;> first | rfl | omega
theorem G9:∀i,i<19->0<=ix jI i/\ix jI i<=18:=δ
theorem Ed (w:World):Calls Tryz.prog 128 #[] w λe w'=>e= .returned (.agg kC)/\w'=w.alloc (.cells kC 189):=by
 go_in
 go_upto_region 1 with fail
 refine wp_region_list ?_;refine wpList_buildFlatArrTo rfl 189 3 19 _ rfl .i64 jI (some 1) rfl Tryz.underlying189 (by kernel_rfl) (by kernel_rfl) rfl ?_;refine wpList_store_rowTo rfl 189 (.tmp 0) (.tmp 1) rfl rfl w.heap.size kC rfl rfl 189 _ (cR w _) (by kernel_rfl) rfl (by simp [kC,jI,Value.oneCell']) ?_;rw[World.setRow_alloc_new]
 go_wp2_with ((with_reducible (show bodyPost _ _ _ _ _ _));exact bS (results_cell_row rfl _ _ w.heap.size _ kC _ _ rfl (cR w _) Tryz.underlying189 rfl (by kernel_rfl)) rfl ⟨rfl,rfl⟩)
theorem Ks {l:ag} {few n:Nat} (h:few<n+1/\ix l n=0):kZ l few (n+1)=kZ l few n:=aa h
theorem BX {l:ag} {few n:Nat} (h:¬(few<n+1/\ix l n=0)):kZ l few (n+1)=n+1:=a8 h
theorem zD:(Tryz.prog.info? 3).map (λi=>(i.zero,i.size,i.bytes))=some (some (.int .i64 0),1,8):=by kernel_rfl
theorem yg (w:World) (A:ax) (n c B few:Nat) (l:ag) (hl:bT .i64 w B A n l) (C:n<=1000) (F:n<=c) (hf:few<=1000):
  Calls Tryz.prog 126 #[.slice A n c, .int .i64 few] w λe w'=>e= .returned (.slice A (kZ l few n) c)/\w=w':=by
 obtain⟨y,hi,k,a,g⟩ :=aL zD;have r:Hid (∀(j:Nat),j<=c->(Instr.slice 80 (.slice A n c) none (some (.int .i64 (j:Int))) none).run Tryz.prog w= .ok (.slice A j c) w):=λj u=>dR (P:=Tryz.prog) 80 3 Tryz.underlying80 hi a A n c u w;have x:=η hl;have z:(0:Int)<=(n:Int)/\(n:Int)<=1000/\(0:Int)<=(few:Int)/\(few:Int)<=1000:=ω;clear hi k a g hl
 go_in
 go_wp2_with fail;go_loopg [5] n (λ(gk:Nat) (v5:Value) wx=>v5= .int .i64 gk/\wx=w/\gk<=n/\Hid (kZ l few gk=kZ l few n))
 case atStart=>exact⟨rfl,rfl,af _,rfl⟩
 obtain⟨rfl,s,E,ht⟩ :=hrel;obtain rfl:=s.symm;have D:(0:Int)<=(gk:Int)/\(gk:Int)<=(n:Int):=ω;by_cases o:few<gk
 rotate_left
 · have t:¬(few:Int)<(gk:Int):=ω;have f:=η ((Ez (l:=l) (show gk<=few by omega)).symm.trans ht.out);have m:=r.out gk ω;clear ht
   go_wp2_with fail;go_ret;exact⟨by rw[<-f.out];rfl,rfl⟩
 obtain⟨q,rfl⟩ :∃q,gk=q+1:= ⟨gk-1,ω⟩;have t:(few:Int)<(q:Int)+1:=ω;obtain⟨G,hA, -,p⟩ :=x.at_ (i:=q) ω;obtain⟨X,b⟩ :=ν (ix l q);rw[b]at p;subst hA;by_cases d:X=0
 · have f:=η ((Ks ⟨o,by rw[b];exact d⟩).symm.trans ht.out);subst d;clear b ht
   go_wp2_with fail;go_roundg q
   case measure=>omega
   case rel=>exact⟨by go_num,rfl,ω,f.out⟩
 have f:=η ((BX (by rw[b];exact λh=>d h.2)).symm.trans ht.out);have v:(X==0)=false:=by simpa using d
 have m:=r.out (q+1) ω;clear b ht d
 go_wp2_with fail;go_ret;exact⟨by rw[<-f.out];rfl,rfl⟩
def D7 (L:ag) (raw:ag):ag:=qu L++dt raw.length 16++dt (4294967295-(raw.length:Int)) 16++dT raw
theorem N9 (L:ag) (a b:Int):qu (qu L++dt a 16++dt b 16)=qu L++dt a 16++dt b 16:=
 Iy (by rw[ae,ae,aR,aR];have:=pE L;omega)
theorem a1X (V:Nat) (h:V<4294967296):bits .xor .u32 IntKind.u32.max (V:Int)=4294967295-(V:Int):=by
 show IntKind.u32.wrap ((BitVec.ofInt 32 IntKind.u32.max ^^^ BitVec.ofInt 32 (V:Int)).toNat:Int)=_;have e:BitVec.ofInt 32 IntKind.u32.max=BitVec.allOnes 32:=δ;rw[e,BitVec.allOnes_xor,BitVec.toNat_not,ofInt_u32 V h,IntKind.wrap_u32'];omega
theorem NF (w:World) (b0 g n c B m d:Nat) (A C:ax) (L raw:ag) (s:pX w b0 g A n c L) (j:bT .u8 w B C m raw) (o:B<=w.heap.size) (i:0<m->∀p,C=some p->¬foot A g p.block) (b:∀x∈raw,0<=x/\x<256) (a:L.length<=3000000000000) (hm:m<=65535):
  Calls Tryz.prog 107 #[.pointer (some ⟨g,0,none⟩), .slice C m d] w λe w'=>e= .returned (.tuple #[])/\ky w w' b0 g A (D7 L raw):=by
 have J7:(0:Int)<=(m:Int)/\(m:Int)<=65535:=ω;have z:(qu L).length<=L.length+7:=by rw[mj];omega
 have J:=j.1;have O:=η (a1X m ω);have v:=η (show qu (qu L++dt (m:Int) 16++dt (4294967295-(m:Int)) 16)++dT raw=D7 L raw by rw[N9];unfold D7;rw[<-J]);have G:=η (⟨s,j,o,i,b,a,z⟩ :_/\_/\_/\_/\_/\_/\_);have HA:=η (qT w b0 g n c A L s ω);clear s j o i b a z J
 go_in
 go_wp2_with fail;refine HA.mono ?_;rintro e w1 ⟨A1,n1,c1,rfl,I,t,wB⟩;have H:=η (ky.next (bb.refl w (foot A g)) (λk l=> .inl l) I t wB);have Z:=η (H.put (m:Int) 16 ω ω (τ G.out));clear I t wB
 go_wp2_with fail;refine Z.mono ?_;rintro e w2 ⟨rfl,N⟩;obtain⟨V,M⟩ :=ν (4294967295-(m:Int));have U:0<=V/\V<4294967296:=ω;rw[M]at O v;have Y:=η (N.put V 16 U ω (by rw[ae,aR];have:=G.out;omega));have R:bits .xor .u32 (if IntKind.u32.signed=true then -1 else IntKind.u32.max) (m:Int)=V:=O.out;clear N M
 go_wp2_with fail;refine Y.mono ?_;rintro e P ⟨rfl,W⟩;obtain⟨s,j,o,i,b,a,z⟩ :=G.out;obtain⟨⟨A3,Q,X,r,wC⟩,f⟩ :=W
 have u:=η (GK P b0 g Q X B m d A3 C _ raw r (f.rp j o i) (aq o f.size) (λF p e l=>by
  have T:p.block<w.heap.size:=by
   obtain⟨PT,D,E,_⟩ :=j.2 F;rw[e]at D;injection D with D;rw[D];exact aB E o
  rcases l with l | l
  · exact i F p e (.inl l)
  rcases wC _ l with h | h
  · exact i F p e (.inr h)
  omega) b (by rw[ae,ae,aR,aR];omega) ω)
 rw[v.out]at u;have y:=η (⟨wC,f⟩ :_/\_);clear s j o i b a z r wC f R
 go_wp2_with fail;refine u.mono ?_;rintro e w4 ⟨A4,n4,c4,rfl,q,K,Ch⟩;have S:=η (ky.next y.2 y.1 q K Ch);clear q K Ch
 go_wp2_with fail;go_end0;exact⟨rfl,S.out⟩
def Yu (a b c d e:Value):Nat->Value
 | 0=>a
 | 1=>b
 | 2=>c
 | 3=>d
 | _=>e
def yJ:Value:= .slice none 0 0
theorem Gd (w:World) (a b c d e:Value) (t:TypeId):Ar (w.alloc (.cells #[a,b,c,d,e] t)) w.heap.size 5 (Yu a b c d e):=
 Ar.new w _ t rfl λi hi=>by
  obtain rfl | rfl | rfl | rfl | rfl:i=0\/i=1\/i=2\/i=3\/i=4:=ω;all_goals rfl
structure ou (w wx:World) (R P:Nat) (a b c d e:Value):Prop where
 res:Ar wx R 5 (Yu yJ yJ yJ yJ (.int .i64 0))
 box:Ar wx P 5 (Yu a b c d e)
 uY:Below w.heap.size w wx
 S3:w.heap.size<=R
 KW:R<P
section
variable {w wx w':World} {R P:Nat} {a b c d e:Value}
theorem ou.drew (h:ou w wx R P a b c d e):ou w wx.drew R P a b c d e:= ⟨h.res,h.box, ⟨h.uY.os,h.uY.tape,h.uY.output,h.uY.size,h.uY.block⟩,h.S3,h.KW⟩
theorem ou.alloc (h:ou w wx R P a b c d e) (o:Obj):ou w (wx.alloc o) R P a b c d e:= ⟨h.res.alloc o,h.box.alloc o,h.uY.alloc h.uY.size o,h.S3,h.KW⟩
theorem ou.keeps (h:ou w wx R P a b c d e) (f:Below wx.heap.size wx w'):ou w w' R P a b c d e:= ⟨h.res.keeps f,h.box.keeps f,h.uY.trans (f.mono h.uY.size),h.S3,h.KW⟩
theorem ou.far (h:ou w wx R P a b c d e) {p:Addr} (g:R≠p.block) (i:P≠p.block) (f:w.heap.size<=p.block) (v:Value):ou w (wx.setCell p v) R P a b c d e:= ⟨h.res.far g v,h.box.far i v,h.uY.setCell f v,h.S3,h.KW⟩
theorem ou.ne (h:ou w wx R P a b c d e):R≠P:=by have:=h.KW;omega
theorem ou.lo (h:ou w wx R P a b c d e):w.heap.size<=P:=by have:=h.KW;have:=h.S3;omega
theorem ou.put (h:ou w wx R P a b c d e) {i:Nat} (hi:i<5) (v:Value) {a' k c' g f:Value} (hf:∀j,j<5->upd (Yu a b c d e) i v j=Yu a' k c' g f j):ou w (wx.setCell ⟨P,i,none⟩ v) R P a' k c' g f:=
 ⟨h.res.far (p:= ⟨P,i,none⟩) h.ne v,(h.box.iz hi v).congr hf,h.uY.setCell (p:= ⟨P,i,none⟩) h.lo v,h.S3,h.KW⟩
theorem ou.a3F (h:ou w wx R P a b c d e) (v:Value):ou w (wx.setCell ⟨P,0,none⟩ v) R P v b c d e:=h.put ω v λj f=>by
 obtain rfl | rfl | rfl | rfl | rfl:j=0\/j=1\/j=2\/j=3\/j=4:=ω;all_goals rfl
theorem ou.a3G (h:ou w wx R P a b c d e) (v:Value):ou w (wx.setCell ⟨P,1,none⟩ v) R P a v c d e:=h.put ω v λj f=>by
 obtain rfl | rfl | rfl | rfl | rfl:j=0\/j=1\/j=2\/j=3\/j=4:=ω;all_goals rfl
theorem ou.a9A (h:ou w wx R P a b c d e) (v:Value):ou w (wx.setCell ⟨P,2,none⟩ v) R P a b v d e:=h.put ω v λj f=>by
 obtain rfl | rfl | rfl | rfl | rfl:j=0\/j=1\/j=2\/j=3\/j=4:=ω;all_goals rfl
theorem ou.a9B (h:ou w wx R P a b c d e) (v:Value):ou w (wx.setCell ⟨P,3,none⟩ v) R P a b c v e:=h.put ω v λj f=>by
 obtain rfl | rfl | rfl | rfl | rfl:j=0\/j=1\/j=2\/j=3\/j=4:=ω;all_goals rfl
theorem ou.a0H (h:ou w wx R P a b c d e) (v:Value):ou w (wx.setCell ⟨P,4,none⟩ v) R P a b c d v:=h.put ω v λj f=>by
 obtain rfl | rfl | rfl | rfl | rfl:j=0\/j=1\/j=2\/j=3\/j=4:=ω;all_goals rfl
theorem ou.cells (h:ou w wx R P a b c d e):(wx.cell? ⟨P,0,none⟩ =some a/\wx.cell? ⟨P,1,none⟩ =some b/\wx.cell? ⟨P,2,none⟩ =some c/\wx.cell? ⟨P,3,none⟩ =some d/\wx.cell? ⟨P,4,none⟩ =some e)/\∀i,i<5->wx.frozen? ⟨P,i,none⟩ =false:=
 ⟨⟨h.box.az 0,h.box.az 1,h.box.az 2,h.box.az 3,h.box.az 4⟩,λi hi=>h.box.frozen' hi⟩
end
theorem Own.pre {w:World} {b0:Nat} {e:TypeId} {k n c:Nat} {A:ax} {f:Nat->Value} (h:Own w b0 e k A n c f) {j:Nat} (m:j<=n):Own w b0 e k A j c f:=by
 rcases h with ⟨b,l,a⟩ | ⟨g,d,b,l,a,h4,h5,h6,h7⟩
 · exact .inl ⟨b,ω,a⟩
 exact .inr ⟨g,d,b,l,a,ω,h5,h6,λi hi=>h7 i (aB hi (eV _ m))⟩
theorem aT.pre {k:IntKind} {w:World} {b0:Nat} {e:TypeId} {n c:Nat} {A:ax} {l:ag} (h:aT k w b0 e A n c l) {j:Nat} (a:j<=n):aT k w b0 e A j c (l.take j):=
 ⟨by rw[aD,<-h.1];omega,(h.2.pre a).congr λi hi=>by rw[kF ω]⟩
theorem aT.cap {k:IntKind} {w:World} {b0:Nat} {e:TypeId} {n c:Nat} {A:ax} {l:ag} (h:aT k w b0 e A n c l):n<=c:=by
 rcases h.2 with ⟨d,b,a⟩ | ⟨g,f,d,b,a,h4,h5,h6,h7⟩
 · omega
 exact h4
structure wL (b:Nat) (wx:World) (P:Nat) (Al Ad:ax) (nl cl nd cd:Nat) (l d:ag):Prop where
 lit:aT .i64 wx b 3 Al nl cl l
 bn:aT .i64 wx b 3 Ad nd cd d
 lp:ai Al≠some P
 dp:ai Ad≠some P
 ld:∀k,ai Al=some k->ai Ad≠some k
section
variable {b:Nat} {wx w':World} {P:Nat} {Al Ad:ax} {nl cl nd cd:Nat} {l d:ag}
theorem wL.drew (h:wL b wx P Al Ad nl cl nd cd l d):wL b wx.drew P Al Ad nl cl nd cd l d:= ⟨h.lit,h.bn,h.lp,h.dp,h.ld⟩
theorem wL.alloc (h:wL b wx P Al Ad nl cl nd cd l d) (o:Obj):wL b (wx.alloc o) P Al Ad nl cl nd cd l d:= ⟨h.lit.alloc o,h.bn.alloc o,h.lp,h.dp,h.ld⟩
theorem wL.keeps (h:wL b wx P Al Ad nl cl nd cd l d) (a:Below wx.heap.size wx w'):wL b w' P Al Ad nl cl nd cd l d:= ⟨h.lit.keeps a,h.bn.keeps a,h.lp,h.dp,h.ld⟩
theorem wL.put (h:wL b wx P Al Ad nl cl nd cd l d) (i:Nat) (v:Value):wL b (wx.setCell ⟨P,i,none⟩ v) P Al Ad nl cl nd cd l d:= ⟨h.lit.far (p:= ⟨P,i,none⟩) h.lp v,h.bn.far (p:= ⟨P,i,none⟩) h.dp v,h.lp,h.dp,h.ld⟩
end
theorem wL.pre {b:Nat} {wx:World} {P:Nat} {Al Ad:ax} {nl cl nd cd c a:Nat} {l d:ag} (h:wL b wx P Al Ad nl cl nd cd l d) (f:c<=nl) (e:a<=nd):wL b wx P Al Ad c cl a cd (l.take c) (d.take a):= ⟨h.lit.pre f,h.bn.pre e,h.lp,h.dp,h.ld⟩
theorem JI {w wx w':World} {R P:Nat} {a b c d e:Value} {Al Ad:ax} {nl cl nd cd:Nat} {l D:ag} {row:Option Nat} (h:ou w wx R P a b c d e) (g:wL (R+1) wx P Al Ad nl cl nd cd l D)
  (f:∀k,row=some k->R<k/\k≠P/\ai Al≠some k/\ai Ad≠some k) (i:wx.grownBy w' row):ou w w' R P a b c d e/\wL (R+1) w' P Al Ad nl cl nd cd l D:=by
 have ne:∀k,¬(R<k/\k≠P/\ai Al≠some k/\ai Ad≠some k)->some k≠row:=λk j e=>j (f k e.symm);refine⟨⟨h.res.grown i (ne _ ω),h.box.grown i (ne _ ω),h.uY.grown i h.uY.size λk j=>by have:=f k j;have:=h.S3;omega,h.S3,h.KW⟩, ⟨g.lit.grown i ?_,g.bn.grown i ?_,g.lp,g.dp,g.ld⟩⟩
 · cases hA:ai Al with
   | none=>exact .inr rfl
   | some k=>exact .inl (ne k λh=>h.2.2.1 hA)
 cases hA:ai Ad with
 | none=>exact .inr rfl
 | some k=>exact .inl (ne k λh=>h.2.2.2 hA)
inductive TrI (AL AD:ax) (cL cD n1 n2:Nat):ax->Nat->Nat->Int->Nat->Prop
 | lit:TrI AL AD cL cD n1 n2 AL 286 cL 257 n1
 | bn:TrI AL AD cL cD n1 n2 AD 30 cD 1 n2
theorem XN {b P:Nat} {f g:ax} {a d:Nat} {t:List bY} (W:World) (h:wL b W P f g 286 a 30 d (xt t) (qp t)) (A:ax) (n c:Nat) (few:Int) (m:Nat) (i:TrI f g a d (fP t) (fX t) A n c few m):
  Calls Tryz.prog 126 #[.slice A n c, .int .i64 few] W λe w'=>e= .returned (.slice A m c)/\W=w':=by
 cases i with
 | lit=>exact yg W f 286 a _ 257 _ h.lit.rd ω h.lit.cap ω
 | bn=>exact yg W g 30 d _ 1 _ h.bn.rd ω h.bn.cap ω
theorem ym.Y8 {w:World} {B n:Nat} {A:ax} {l:List Rn} (h:ym w B A n l) {k:Nat} (f:k<n):∃a,A=some a/\a.block<B/\w.cell? (a.add (k*3))=some (.int .i64 (p9 l k).c)/\w.cell? { block:=(a.add (k*3)).block,off:=(a.add (k*3)).off+1 }=some (.int .i64 (p9 l k).v)/\w.cell? { block:=(a.add (k*3)).block,off:=(a.add (k*3)).off+2 }=some (.int .i64 (p9 l k).e):=by
 obtain⟨a,e,d,b⟩ :=h.2 ω;refine⟨a,e,d, ?_, ?_, ?_⟩
 · rw[b _ ω,a6O]
 · have:=b (k*3+1) ω;rw[kT _ _ _ ω,a6P]at this;exact this
 have:=b (k*3+2) ω;rw[kT _ _ _ ω,a6Q]at this;exact this
theorem Bx {l:List Rn} {k:Nat} (a:k<l.length):p9 l k∈l:=by
 have e:p9 l k=l[k]:=by simp [p9,a]
 rw[e];exact cF a
theorem Gp {l:List Rn} {k:Nat} (h:k<l.length):l.take (k+1)=l.take k++[p9 l k]:=by
 rw[bc h];simp [p9,h]
structure PlH (w wx:World) (R P gh:Nat) (Al Ad:ax) (nl cl nd cd:Nat) (l d:ag) (Ar:ax) (nr cr:Nat) (rs:List Rn) (hl:ag):Prop where
 s:ou w wx R P (.slice Al nl cl) (.slice Ad nd cd) (.slice none 0 0) (.slice Ar nr cr) (.int .i64 0)
 r:wL (R+1) wx P Al Ad nl cl nd cd l d
 o:l4 wx (R+1) Ar nr cr rs
 op:ai Ar≠some P
 h:aT .i64 wx (R+1) 3 (some ⟨gh,0,none⟩) 19 19 hl
 hp:gh≠P
 hA:ai Al≠some gh
 hD:ai Ad≠some gh
 hO:ai Ar≠some gh
section
variable {w wx w':World} {R P gh:Nat} {Al Ad:ax} {nl cl nd cd:Nat} {l d:ag} {Ar:ax} {nr cr:Nat} {rs:List Rn} {hl:ag}
theorem PlH.alloc (h:PlH w wx R P gh Al Ad nl cl nd cd l d Ar nr cr rs hl) (o:Obj):PlH w (wx.alloc o) R P gh Al Ad nl cl nd cd l d Ar nr cr rs hl:= ⟨h.s.alloc o,h.r.alloc o,h.o.alloc o,h.op,h.h.alloc o,h.hp,h.hA,h.hD,h.hO⟩
theorem PlH.set (h:PlH w wx R P gh Al Ad nl cl nd cd l d Ar nr cr rs hl) {i:Nat} (hi:i<19) (v:Int):PlH w (wx.setCell ⟨gh,i,none⟩ (.int .i64 v)) R P gh Al Ad nl cl nd cd l d Ar nr cr rs (hl.set i v):=by
 have a:R+1<=gh:=(h.h.2.lt rfl).1;refine⟨h.s.far (p:= ⟨gh,i,none⟩) (by show R≠gh;omega) (λe=>h.hp e.symm) (by show w.heap.size<=gh;have:=h.s.S3;omega) _, ⟨h.r.lit.far (p:= ⟨gh,i,none⟩) h.hA _,h.r.bn.far (p:= ⟨gh,i,none⟩) h.hD _,h.r.lp,h.r.dp,h.r.ld⟩, ⟨h.o.1,h.o.2.far (p:= ⟨gh,i,none⟩) h.hO _⟩,h.op,h.h.put hi v,h.hp,h.hA,h.hD,h.hO⟩
end
def rN (w:World) (g:Nat):Prop:=w.heap[g]?=some (.cells kC 189 (0,0))
theorem rN.new (w:World):rN (w.alloc (.cells kC 189)) w.heap.size:=cR w _
theorem rN.cell {w:World} {g i:Nat} (h:rN w g) (hi:i<19):w.cell? ⟨g,i,none⟩ =some (.int .i64 (ix jI i)):=by
 rw[ja w g i kC _ _ h,a0E i hi]
theorem rN.far {w:World} {g:Nat} (h:rN w g) {p:Addr} (hp:g≠p.block) (v:Value):rN (w.setCell p v) g:=(cS w p v g hp).trans h
theorem WH:kC.all (·.oneCell')=true:=by simp [kC,jI,Value.oneCell']
theorem uN {b:Array Oper} {rest:List Oper} {o:Oper} {a:Act} {w:World} {Q:Exit->Act->World->Prop} (c:o.guard=none) (x y:Operand) (f:o.op= .store 189 x y) (hd:o.dst=none) (g:Nat) (i:g=w.heap.size) (e:a.eval x= .pointer (some ⟨g,0,none⟩)) (d:a.eval y= .agg kC)
  (zs:Array Value) (hz:zs.size=19) (h:wpList Tryz.prog b Q rest a (w.alloc (.cells kC 189))):wpList Tryz.prog b Q (o::rest) a (w.alloc (.cells zs 189)):=by
 subst i;refine wpList_store_rowTo c 189 x y f hd w.heap.size kC e d 189 zs (cR w _) (by kernel_rfl) hz WH ?_;rw[World.setRow_alloc_new];exact h
structure KH (w wx:World) (R P:Nat) (Al Ad Ah Ar:ax) (nl cl nd cd ch nr cr:Nat) (l d:ag) (rs:List Rn) (hd:ag) (n:Nat):Prop where
 s:ou w wx R P (.slice Al nl cl) (.slice Ad nd cd) (.slice Ah 19 ch) (.slice Ar nr cr) (.int .i64 (n:Int))
 r:wL (R+1) wx P Al Ad nl cl nd cd l d
 o:l4 wx (R+1) Ar nr cr rs
 op:ai Ar≠some P
 h:aT .i64 wx (R+1) 3 Ah 19 ch hd
 hp:ai Ah≠some P
section
variable {w wx w':World} {R P:Nat} {Al Ad Ah Ar:ax} {nl cl nd cd ch nr cr:Nat} {l d:ag} {rs:List Rn} {hd:ag} {n:Nat}
theorem KH.drewN (h:KH w wx R P Al Ad Ah Ar nl cl nd cd ch nr cr l d rs hd n) (q:Nat):KH w (wx.drewN q) R P Al Ad Ah Ar nl cl nd cd ch nr cr l d rs hd n:= ⟨⟨h.s.res,h.s.box, ⟨h.s.uY.os,h.s.uY.tape,h.s.uY.output,h.s.uY.size,h.s.uY.block⟩,h.s.S3,h.s.KW⟩, ⟨h.r.lit,h.r.bn,h.r.lp,h.r.dp,h.r.ld⟩,h.o,h.op,h.h,h.hp⟩
theorem KH.alloc (h:KH w wx R P Al Ad Ah Ar nl cl nd cd ch nr cr l d rs hd n) (o:Obj):KH w (wx.alloc o) R P Al Ad Ah Ar nl cl nd cd ch nr cr l d rs hd n:= ⟨h.s.alloc o,h.r.alloc o,h.o.alloc o,h.op,h.h.alloc o,h.hp⟩
theorem KH.keeps (h:KH w wx R P Al Ad Ah Ar nl cl nd cd ch nr cr l d rs hd n) (a:Below wx.heap.size wx w'):KH w w' R P Al Ad Ah Ar nl cl nd cd ch nr cr l d rs hd n:= ⟨h.s.keeps a,h.r.keeps a,h.o.keeps a,h.op,h.h.keeps a,h.hp⟩
theorem KH.a0H (h:KH w wx R P Al Ad Ah Ar nl cl nd cd ch nr cr l d rs hd n) (m:Nat):KH w (wx.setCell ⟨P,4,none⟩ (.int .i64 (m:Int))) R P Al Ad Ah Ar nl cl nd cd ch nr cr l d rs hd m:= ⟨h.s.a0H _,h.r.put 4 _, ⟨h.o.1,h.o.2.far (p:= ⟨P,4,none⟩) h.op _⟩,h.op,h.h.far (p:= ⟨P,4,none⟩) h.hp _,h.hp⟩
end
def Hi (b:Nat) (A:ax):Prop:=∀k,ai A=some k->b<=k
def zv (w:World) (t:List bY) (e:Ending) (w':World):Prop:=
 ∃Al cl Ad cd Ah ch Ar cr,e= .returned (.agg #[.slice Al (fP t) cl, .slice Ad (fX t) cd, .slice Ah 19 ch, .slice Ar (cY t).length cr, .int .i64 ((oZ t:Nat):Int)])/\
  bT .i64 w' w'.heap.size Al (fP t) (eU t)/\bT .i64 w' w'.heap.size Ad (fX t) (dm t)/\bT .i64 w' w'.heap.size Ah 19 (cU t)/\ym w' w'.heap.size Ar (cY t).length (cY t)/\Below w.heap.size w w'/\(Hi w.heap.size Al/\Hi w.heap.size Ad/\Hi w.heap.size Ah/\Hi w.heap.size Ar)
def a0I (w:World) (R:Nat) (a b c d e:Value):World:=((((w.setCell ⟨R,0,none⟩ a).setCell ⟨R,1,none⟩ b).setCell ⟨R,2,none⟩ c).setCell ⟨R,3,none⟩ d).setCell ⟨R,4,none⟩ e
theorem a0J {w:World} {R:Nat} {a b c d e:Value} {f:Nat->Value} (h:Ar w R 5 f):Ar (a0I w R a b c d e) R 5 (Yu a b c d e):=by
 refine(((((h.cE 0 a).cE 1 b).cE 2 c).cE 3 d).cE 4 e).congr λj g=> ?_;obtain rfl | rfl | rfl | rfl | rfl:j=0\/j=1\/j=2\/j=3\/j=4:=ω;all_goals rfl
theorem WV (w:World) (R:Nat) (a b c d e:Value):bb w (a0I w R a b c d e) (λk=>k=R):=
 (((((bb.refl w (λk=>k=R)).setCell (p:= ⟨R,0,none⟩) (.inl rfl) a).setCell (p:= ⟨R,1,none⟩) (.inl rfl) b).setCell (p:= ⟨R,2,none⟩) (.inl rfl) c).setCell (p:= ⟨R,3,none⟩) (.inl rfl) d).setCell (p:= ⟨R,4,none⟩) (.inl rfl) e
theorem WS {w wx:World} {R P:Nat} {Al Ad Ah Ar:ax} {nl cl nd cd ch nr cr:Nat} {t:List bY} {n:Nat} (h:KH w wx R P Al Ad Ah Ar nl cl nd cd ch nr cr (eU t) (dm t) (cY t) (cU t) n) (v:fP t=nl) (u:fX t=nd) (q:n=oZ t) (a b c d e:Value):
  zv w t (.returned (.agg #[.slice Al nl cl, .slice Ad nd cd, .slice Ah 19 ch, .slice Ar nr cr, .int .i64 (n:Int)])) (a0I wx R a b c d e):=by
 have l:=WV wx R a b c d e;have g:∀(A:ax) (e:TypeId) (i n c:Nat) (f:Nat->Value),Own wx (R+1) e i A n c f->∀k,ai A=some k->¬k=R:=λA e i n c f p k j=>by have:=(p.lt j).1;omega
 have m:∀(A:ax) (e:TypeId) (i n c:Nat) (f:Nat->Value),Own wx (R+1) e i A n c f->Hi w.heap.size A:=λA e i n c f p k j=>by have:=(p.lt j).1;have:=h.s.S3;omega
 subst v u q;refine⟨Al,cl,Ad,cd,Ah,ch,Ar,cr, ?_,(l.dJ h.r.lit (g _ _ _ _ _ _ h.r.lit.2)).rd,(l.dJ h.r.bn (g _ _ _ _ _ _ h.r.bn.2)).rd,(l.dJ h.h (g _ _ _ _ _ _ h.h.2)).rd, ?_,h.s.uY.trans (l.below (λk j=>by rw[j];exact h.s.S3) h.s.uY.size),m _ _ _ _ _ _ h.r.lit.2,m _ _ _ _ _ _ h.r.bn.2,m _ _ _ _ _ _ h.h.2,m _ _ _ _ _ _ h.o.2⟩
 · rw[h.o.1]
 have:=(show l4 (a0I wx R a b c d e) (R+1) Ar nr cr (cY t) from⟨h.o.1,l.own h.o.2 (g _ _ _ _ _ _ h.o.2)⟩).rd;rw[h.o.1]at this;exact this
theorem Gl {w:World} {R:Nat} {a b c d e:Value} {tmps:Array Value} (g:Ar w R 5 (Yu a b c d e)) (m:tmps[2]?.getD undef= .pointer (some ⟨R,0,none⟩)):
  (results Tryz.f110 tmps).run Tryz.prog w= .ok (.agg #[a,b,c,d,e]) w:=by
 have l:=g.az 0;have k:=g.az 1;have j:=g.az 2;have i:=g.az 3;have h:=g.az 4;unfold Yu at l k j i h;simp [results,Tryz.results110,go_sem,m,l,k,j,i,h]
structure Hr (w:World) (G b1 B:Nat) (t:List bY) (Al Ad Ah Ax:ax) (cl cd ch cr:Nat):Prop where
 box:Ar w G 5 (Yu (.slice Al (fP t) cl) (.slice Ad (fX t) cd) (.slice Ah 19 ch) (.slice Ax (cY t).length cr) (.int .i64 ((oZ t:Nat):Int)))
 lit:bT .i64 w B Al (fP t) (eU t)
 bn:bT .i64 w B Ad (fX t) (dm t)
 head:bT .i64 w B Ah 19 (cU t)
 runs:ym w B Ax (cY t).length (cY t)
 OW:Hi b1 Al/\Hi b1 Ad/\Hi b1 Ah/\Hi b1 Ax
 lo:b1<=G
 hi:G<B
section
variable {w w':World} {G b1 B:Nat} {t:List bY} {Al Ad Ah Ax:ax} {cl cd ch cr:Nat}
theorem Hr.below {B':Nat} (h:Hr w G b1 B t Al Ad Ah Ax cl cd ch cr) (a:Below B' w w') (b:B<=B'):Hr w' G b1 B t Al Ad Ah Ax cl cd ch cr:=
 ⟨h.box.below a (aB h.hi b),h.lit.below (a.mono b),h.bn.below (a.mono b),h.head.below (a.mono b),h.runs.below (a.mono b),h.OW,h.lo,h.hi⟩
theorem Hr.dx {S:Nat->Prop} (h:Hr w G b1 B t Al Ad Ah Ax cl cd ch cr) (g:bb w w' S) (q:B<=w.heap.size) (j:∀k,S k->k<b1\/B<=k):Hr w' G b1 B t Al Ad Ah Ax cl cd ch cr:=by
 have d:∀(A:ax) (n:Nat) (l:ag),bT .i64 w B A n l->Hi b1 A->bT .i64 w' B A n l:=λA n l hl hA=>g.rp hl q λs c e a=>by
  have r:=hA c.block (by rw[e];rfl);obtain⟨u,b,o,_⟩ :=hl.2 s;rw[e]at b;injection b with b;subst b;rcases j _ a with h | h <;> omega
 refine⟨g.ar h.box λa=> ?_,d _ _ _ h.lit h.OW.1,d _ _ _ h.bn h.OW.2.1,d _ _ _ h.head h.OW.2.2.1, ⟨h.runs.1,λm=> ?_⟩,h.OW,h.lo,h.hi⟩
 · have:=h.lo;have:=h.hi;rcases j _ a with h | h <;> omega
 obtain⟨c,e,p,f⟩ :=h.runs.2 m;have r:=h.OW.2.2.2 c.block (by rw[e];rfl);exact⟨c,e,p,λi hi=>(g.cell (by rw[bH];omega) (by rw[bH];intro a;rcases j _ a with h | h <;> omega)).trans (f i hi)⟩
theorem Hr.cells (h:Hr w G b1 B t Al Ad Ah Ax cl cd ch cr):w.cell? ⟨G,0,none⟩ =some (.slice Al (fP t) cl)/\w.cell? ⟨G,1,none⟩ =some (.slice Ad (fX t) cd)/\w.cell? ⟨G,2,none⟩ =some (.slice Ah 19 ch)/\w.cell? ⟨G,3,none⟩ =some (.slice Ax (cY t).length cr)/\w.cell? ⟨G,4,none⟩ =some (.int .i64 ((oZ t:Nat):Int)):=
 ⟨h.box.az 0,h.box.az 1,h.box.az 2,h.box.az 3,h.box.az 4⟩
theorem Hr.new {a:World} {v:Value} {w:World} (h:zv a t (.returned v) w):∃Al Ad Ah Ax cl cd ch cr,v= .agg #[.slice Al (fP t) cl, .slice Ad (fX t) cd, .slice Ah 19 ch, .slice Ax (cY t).length cr, .int .i64 ((oZ t:Nat):Int)]/\Below a.heap.size a w/\
  Hr (w.alloc (.cells #[.slice Al (fP t) cl, .slice Ad (fX t) cd, .slice Ah 19 ch, .slice Ax (cY t).length cr, .int .i64 ((oZ t:Nat):Int)] 168)) w.heap.size a.heap.size (w.heap.size+1) t Al Ad Ah Ax cl cd ch cr:=by
 obtain⟨Al,cl,Ad,cd,Ah,ch,Ax,cr,e,i,g,f,h4,c,d⟩ :=h;injection e with e;have b:=(aw w.heap.size w).alloc (af _) (.cells #[.slice Al (fP t) cl, .slice Ad (fX t) cd, .slice Ah 19 ch, .slice Ax (cY t).length cr, .int .i64 ((oZ t:Nat):Int)] 168);exact⟨Al,Ad,Ah,Ax,cl,cd,ch,cr,e,c,Gd w _ _ _ _ _ _,(i.below b).more (ft _),(g.below b).more (ft _),(f.below b).more (ft _),(h4.below b).more (ft _),d,c.size,iR _⟩
end
def sJ (hd:ag) (r:Rn):Int:=ix hd r.c.toNat+r.e
def ju (hd:ag) (rs:List Rn):Int:=(rs.map (sJ hd)).sum
def Th (t:List bY):Int:=14+3*((oZ t:Nat):Int)+ju (cU t) (cY t)
theorem Gr (hd:ag) {rs:List Rn} {k:Nat} (h:k<rs.length):ju hd (rs.take (k+1))=ju hd (rs.take k)+sJ hd (p9 rs k):=by rw[Gp h];simp [ju]
theorem uH {hd:ag} (a:∀i,i<19->0<=ix hd i/\ix hd i<=7):∀rs:List Rn,(∀r∈rs,yo r)->0<=ju hd rs/\ju hd rs<=14*rs.length
 | [],_=>by simp [ju]
 | r::rs,h=>by
   have f:=uH a rs λx d=>h x (aJ _ d);have b:=h r aI;have e:=a r.c.toNat (τ b.1);have h4:=b.2.2.1;show 0<=sJ hd r+ju hd rs/\sJ hd r+ju hd rs<=_;unfold sJ;rw[br];omega
theorem vy (t:List bY):∀i,i<19->0<=ix (cU t) i/\ix (cU t) i<=7:=λi hi=>rP (kv t) i (by rw[mE];exact hi)
theorem Xl (w:World) (G b1 B:Nat) (t:List bY) (Al Ad Ah Ax:ax) (cl cd ch cr:Nat) (hp:Hr w G b1 B t Al Ad Ah Ax cl cd ch cr) (ht:t.length<1048576) (T:B<=w.heap.size):
  Calls Tryz.prog 131 #[.pointer (some ⟨G,0,none⟩)] w λe w'=>e= .returned (.int .i64 (Th t))/\Below w.heap.size w w':=by
 obtain⟨-, -, -,z,S⟩ :=hp.cells;have hN:=uD t;have A:=mF t;have d:=kY ht;have I:=vy t;obtain⟨n,D⟩ :=ν (oZ t);obtain⟨rs,u⟩ :=ν (cY t);obtain⟨hd,y⟩ :=ν (cU t);obtain⟨nr,x⟩ :=ν (rs.length);have h:Th t=14+3*(n:Int)+ju hd rs:=by rw[<-D,<-u,<-y];rfl
 rw[u]at A d z;rw[y]at I;rw[D]at hN S;rw[x]at A z;have YJ:Hid (ym w B Ax nr rs):=by have:=hp.runs;rw[u,x]at this;exact this
 have Q:Hid (bT .i64 w B Ah 19 hd):=by have:=hp.head;rw[y]at this;exact this
 have R:Hid (G<w.heap.size/\w.cell? ⟨G,2,none⟩ =some (.slice Ah 19 ch)):= ⟨hp.box.lt,hp.box.az 2⟩;have b:=η (⟨T,d,I,x⟩ :_/\_/\_/\_);have KG:=η h;have tJ:(4:Int)<=(n:Int)/\(n:Int)<=19/\(0:Int)<=(nr:Int)/\(nr:Int)<=316:=ω;clear hp hN A d I D u y x h T ht
 go_in
 go_wp2_with fail;clear z S;go_loopg [3,17] nr (λ(gk:Nat) (v3 v17:Value) wx=>∃(k:Nat) (s:Int),v3= .int .i64 s/\v17= .int .i64 k/\k<=nr/\Hid (s=14+3*(n:Int)+ju hd (rs.take k))/\Hid (Below w.heap.size w wx)/\Hid (gk=nr-k))
 case atStart=>exact⟨0,14+3*(n:Int),rfl,rfl,aG _,by show _=_;simp [ju],aw _ _,rfl⟩
 obtain⟨k,s,rfl,rfl,hk,q,f,hg⟩ :=hrel;by_cases a:k<nr
 rotate_left
 · obtain rfl:k=nr:=ω;have Z:¬(k:Int)<(k:Int):=ω;have g:rs.take k=rs:=aA (by rw[b.2.2.2];exact af _);have HS:Hid (s=Th t):=by have:=q.out;rw[g]at this;show _=_;rw[this,KG.out]
   clear a g q
   go_wp2_with fail;go_ret;exact⟨bJ HS.out,f.out⟩
 have Z:(k:Int)<(nr:Int)/\(0:Int)<=(k:Int):=ω;have F:k<rs.length:=by rw[b.2.2.2];exact a
 obtain⟨p,hA,J,P,O,N⟩ :=(YJ.below (f.out.mono b.1)).Y8 a;have d:=b.2.1 _ (Bx F);have g:=Gr hd F;have kA:=uH b.2.2.1 (rs.take k) λr v=>b.2.1 r (aN v);have Y:(rs.take k).length<=k:=by rw[aD];exact eR _ _
 obtain⟨⟨C,V,E⟩,v⟩ :∃r,p9 rs k=r:= ⟨_,rfl⟩;rw[v]at P O N d g;have m:0<=C/\C<=18:=d.1;have Hb:0<=E/\E<=7:=d.2.2.1;obtain⟨c,rfl⟩ :=aF m.1;replace P:wr.cell? (p.add (k*3))=some (.int .i64 (c:Int)):=P;replace O:wr.cell? { block:=(p.add (k*3)).block,off:=(p.add (k*3)).off+1 }=some (.int .i64 V):=O;replace N:wr.cell? { block:=(p.add (k*3)).block,off:=(p.add (k*3)).off+2 }=some (.int .i64 E):=N;have l:c<19:=ω;have Ha:(0:Int)<=(c:Int)/\(c:Int)<19:=ω;obtain⟨ah,M,K,j⟩ :=(Q.below (f.out.mono b.1)).at_ l
 have ZU:(wr.alloc (.cells #[.int .i64 (c:Int), .int .i64 V, .int .i64 E] 188)).cell? (ah.add c)=some (.int .i64 (ix hd c)):=by
  rw[dG _ _ _ (by rw[bH];have:=f.out.size;have:=b.1;omega)];exact j
 have ab:(wr.alloc (.cells #[.int .i64 (c:Int), .int .i64 V, .int .i64 E] 188)).cell? ⟨G,2,none⟩ =some (.slice Ah 19 ch):=by
  rw[dG _ _ _ (by have:=f.out.size;have:=R.1;show G<_;omega),f.out.cell (by have:=R.1;exact this)];exact R.2
 have H:=b.2.2.1 c l;obtain⟨X,L⟩ :=ν (ix hd c);rw[L]at ZU H;have i:sJ hd ⟨(c:Int),V,E⟩ =X+E:=by show ix hd (Int.toNat (c:Int))+E=_;rw[aY,L]
 rw[i]at g;have HX:=η (show s+(X+E)=14+3*(n:Int)+ju hd (rs.take (k+1)) by rw[g,q.out];omega);have qD:0<=s/\s<=10000:=by have:=q.out;omega
 have W:0<=X+E/\X+E<=14:=ω;have o:=η (f.out.alloc f.out.size (.cells #[.int .i64 (c:Int), .int .i64 V, .int .i64 E] 188));have U:=η a;subst hA;subst M;clear J d g v m K j i L F a kA Y
 go_wp2_with fail;go_quiet (fail)
 go_wp2_with fail;go_roundg (nr-(k+1))
 case measure=>have:=hg.out;have:=U.out;omega
 case rel=>exact⟨k+1,s+(X+E),by go_num,by go_num,U.out,HX.out, ⟨o.os,o.tape,o.output,o.size,o.block⟩,rfl⟩
def vN (hd:ag) (k:Nat):ag:=(jI.take k).flatMap λ(o:Int)=>dt (ix hd o.toNat) 3
def X9 (hd:ag) (r:Rn):ag:=cN hd r.c.toNat++dt r.v r.e.toNat
def nQ (hd:ag) (rs:List Rn):ag:=rs.flatMap (X9 hd)
def lT (t:List bY):ag:=dt (((fP t-257:Nat):Int)) 5++dt (((fX t-1:Nat):Int)) 5++dt (((oZ t-4:Nat):Int)) 4++vN (cU t) (oZ t)++nQ (cU t) (cY t)
theorem Ec (hd:ag) {k:Nat} (h:k<19):vN hd (k+1)=vN hd k++dt (ix hd (ix jI k).toNat) 3:=by
 have hl:k<jI.length:=h;unfold vN;rw[bc hl,List.flatMap_append];have e:ix jI k=jI[k]:=by simp [ix,hl]
 rw[e];simp
theorem sD (hd:ag):∀k,k<=19->(vN hd k).length=3*k
 | 0,_=>rfl
 | k+1,h=>by rw[Ec hd ω,ae,sD hd k ω,aR];omega
theorem S4 (hd:ag) {rs:List Rn} {k:Nat} (h:k<rs.length):nQ hd (rs.take (k+1))=nQ hd (rs.take k)++X9 hd (p9 rs k):=by rw[Gp h];simp [nQ]
theorem Gq {hd:ag} (a:∀i,i<hd.length->0<=ix hd i/\ix hd i<=15):∀rs:List Rn,(∀r∈rs,yo r)->(nQ hd rs).length<=22*rs.length
 | [],_=>by simp [nQ]
 | r::rs,h=>by
   have f:=Gq a rs λx b=>h x (aJ _ b);have d:=h r aI;have e:=pd a r.c.toNat;have h4:=d.2.2.1;show(X9 hd r++nQ hd rs).length<=_;unfold X9;rw[ae,ae,aR,br];omega
theorem Nq (w:World) (b0 g n c:Nat) (A:ax) (L:ag) (hw:pX w b0 g A n c L) (G b1 B:Nat) (t:List bY) (Al Ad Ah Ax:ax) (cl cd ch cr:Nat) (hp:Hr w G b1 B t Al Ad Ah Ax cl cd ch cr) (ht:t.length<1048576) (hB:B<=w.heap.size)
  (O:∀k,foot A g k->k<b1) (b:L.length<=3000000000000):
  Calls Tryz.prog 111 #[.pointer (some ⟨G,0,none⟩), .pointer (some ⟨g,0,none⟩)] w λe w'=>e= .returned (.tuple #[])/\ky w w' b0 g A (L++lT t):=by
 have P:=kI t;have kA:=lK t;have V3:=uD t;obtain⟨V0,yy⟩ :=ν (fP t-257);obtain⟨V1,al⟩ :=ν (fX t-1);obtain⟨V2,ac⟩ :=ν (oZ t-4);have hI:((fP t:Nat):Int)-257=(V0:Int)/\((fX t:Nat):Int)-1=(V1:Int)/\((oZ t:Nat):Int)-4=(V2:Int):=ω;have GZ:V0<=29/\V1<=29/\V2<=15:=ω;have HP:=η (⟨hp,hw,O,b,ht⟩ :_/\_/\_/\_/\_);have j:Hid (∀W,bb w W (foot A g)->Hr W G b1 B t Al Ad Ah Ax cl cd ch cr):=λW hc=>hp.dx hc hB λk d=> .inl (O k d);have Z:Hid (lT t=dt (V0:Int) 5++dt (V1:Int) 5++dt (V2:Int) 4++vN (cU t) (oZ t)++nQ (cU t) (cY t)):=by show _=_;rw[<-yy,<-al,<-ac];rfl
 obtain⟨k0,k1,k2,k3,k4⟩ :=hp.cells;have Y5:=η (ky.start hw (aw _ w));obtain⟨nl,fG⟩ :=ν (fP t);obtain⟨nd,Cm⟩ :=ν (fX t);obtain⟨nh,I⟩ :=ν (oZ t);obtain⟨nr,CR⟩ :=ν ((cY t).length);rw[fG,Cm,I]at hI;rw[fG]at k0;have cb:(257:Int)<=(nl:Int)/\(nl:Int)<=286/\(1:Int)<=(nd:Int)/\(nd:Int)<=30/\(4:Int)<=(nh:Int)/\(nh:Int)<=19:=ω;obtain⟨ci,cg,ce⟩ :=hI;have o:=η (⟨fG,Cm,I,CR,GZ,hB⟩ :_/\_/\_/\_/\_/\_);have PL:=η (Y5.put (V0:Int) 5 ω ω ω);clear hp hw O P kA V3 yy al ac GZ k1 k2 k3 k4 fG Cm I CR b ht hB
 go_in
 go_wp2_with fail;refine PL.mono ?_;rintro e w1 ⟨rfl,h1⟩;have k1:=(j _ h1.dx).cells.2.1;rw[o.2.1]at k1;have EP:=η (h1.put (V1:Int) 5 (τ o.2.2.2.2.1) ω (by rw[ae,aR];have:=HP.2.2.2.1;omega));clear h1 k0
 go_wp2_with fail;refine EP.mono ?_;rintro e w2 ⟨rfl,h2⟩;have k4:=(j _ h2.dx).cells.2.2.2.2;rw[o.2.2.1]at k4;have bB:=η (h2.put (V2:Int) 4 (τ o.2.2.2.2.1) ω (by rw[ae,ae,aR,aR];have:=HP.2.2.2.1;omega));clear h2 k1
 go_wp2_with fail;refine bB.mono ?_;rintro e f ⟨rfl,h3⟩;obtain⟨R,gV⟩ :=ν (L++dt (V0:Int) 5++dt (V1:Int) 5++dt (V2:Int) 4);rw[gV]at h3
 have Tr:Hid (R.length<=3000000000014):=by
  show _<=_;rw[<-gV];simp only [List.length_append,aR];have:=HP.2.2.2.1;omega
 have O6:Hid (L++lT t=R++vN (cU t) nh++nQ (cU t) (cY t)):=by
  show _=_;rw[Z.out,<-gV,o.2.2.1];simp only [List.append_assoc]
 have bd:=η (Ed f)
 have v:Hid (Cs w ((f.alloc (.cells kC 189)).alloc (.cells kC 189)) ((f.alloc (.cells kC 189)).alloc (.cells kC 189)) (f.heap.size+1) b0 g A R):=by
  have y:=Cs.new (h3.alloc (.cells kC 189)) (.cells kC 189);have e9:(f.alloc (.cells kC 189)).heap.size=f.heap.size+1:=σ;rw[e9]at y;exact y
 have KG:Hid (f.heap.size+1=(f.alloc (.cells kC 189)).heap.size):=by show _=_;simp
 have U:Hid (rN ((f.alloc (.cells kC 189)).alloc (.cells kC 189)) (f.heap.size+1)):=by
  have y:=rN.new (f.alloc (.cells kC 189));rw[<-KG.out]at y;exact y
 have Y:=(j _ v.dx).cells.2.2.2.2;rw[o.2.2.1]at Y;clear gV h3 k4 Z Y5
 go_wp2_with fail;refine bd.mono ?_;rintro e w4 ⟨rfl,rfl⟩
 go_wp2_with (refine uN rfl (.tmp 4) (.tmp 37) rfl rfl (f.heap.size+1) KG.out rfl rfl _ rfl ?_)
 clear Y;obtain⟨go,N⟩ :=ν (f.heap.size+1);obtain⟨wk,D⟩ :=ν ((f.alloc (.cells kC 189)).alloc (.cells kC 189));rw[D,N]at v U;rw[D,N];clear D N KG bd;clear f;obtain⟨hd,uo⟩ :=ν (cU t);have KT:Hid (∀i,i<19->0<=ix hd i/\ix hd i<=7):=λi hi=>by rw[<-uo];exact vy t i hi
 have x:=η uo;rw[uo]at O6;clear uo;go_loopg [44] nh (λ(gk:Nat) (v44:Value) wx=>∃k:Nat,v44= .int .i64 k/\k<=nh/\Hid (Cs w wk wx go b0 g A (R++vN hd k))/\Hid (gk=nh-k))
 case atStart=>exact⟨0,rfl,aG _,by show Cs _ _ _ _ _ _ _ (R++[]);rw[ak];exact v,rfl⟩
 clear v;obtain⟨k,rfl,d,m,hg⟩ :=hrel;by_cases a:k<nh
 · have qB:(k:Int)<(nh:Int)/\(0:Int)<=(k:Int):=ω;have J:k<19:=ω;have sg:rN wr go:=m.out.kp.trans U.out;have Yn:=G9 k J;obtain⟨K,hK⟩ :=aF Yn.1;have c1:=sg.cell J;have Zz:K<19:=ω;have H:=j.out _ m.out.dx;have c2:=H.cells.2.2.1;obtain⟨ah,bv,bs,c3⟩ :=H.head.at_ Zz;rw[x.out]at c3;have Mk:=KT.out K Zz;have iu:=Ec hd J;rw[hK,aY]at iu;rw[hK]at c1;obtain⟨X,hX⟩ :=ν (ix hd K);rw[hX]at c3 Mk iu;have T:=η (m.out.put X 3 ω ω (by rw[ae,sD hd k ω];have:=Tr.out;omega));have pj:=η iu;have ot:=η a;have cc:(0:Int)<=(K:Int)/\(K:Int)<19:=ω;subst bv;clear sg Yn hK bs iu hX H m a
   go_wp2_with fail;refine T.mono ?_;rintro e l ⟨rfl,h5⟩;have H5:=η h5;clear h5 c1 c2 c3
   go_wp2_with fail;go_roundg (nh-(k+1))
   case measure=>have:=hg.out;have:=ot.out;omega
   case rel=>exact⟨k+1,by go_num,ot.out,by have h6:=H5.out;rw[av,<-pj.out]at h6;exact h6,rfl⟩
 obtain rfl:k=nh:=ω;have qB:¬(k:Int)<(k:Int):=ω;have Yr:=m.out.old;have H:=j.out _ Yr.dx;have bt:B<=wr.heap.size:=aq o.2.2.2.2.2 Yr.dx.size;have c2:=H.cells.2.2.1;have M:=H.head;rw[x.out]at M;have tH:=kv t;rw[x.out]at tH;have bi:=η (nY wr Ah 19 ch B hd 7 M bt ω tH);have S:=η Yr;obtain⟨Q,s⟩ :=ν (R++vN hd k);have bI:Hid (Q.length<=3000000000080/\R++vN hd k=Q):= ⟨by rw[<-s,ae,sD hd k (τ HP.out)];have:=Tr.out;omega,s⟩;rw[s]at S O6;have Vi:Hid (∀i,i<hd.length->0<=ix hd i/\ix hd i<=15):=λi hi=>by have:=rP tH i hi;omega
 have bo:Hid (hd.length=19):=by show _=_;rw[<-x.out];exact mE t
 clear m Yr H M tH s a hg U
 go_wp2_with fail;refine bi.mono ?_;rintro e l ⟨gt,rfl,CH,lZ⟩;obtain⟨⟨A1,n1,c1,mM,wB⟩,q⟩ :=S.out;have Jc:Hr l G b1 B t Al Ad Ah Ax cl cd ch cr:=j.out _ (q.trans (S':=λ_=>False) (bb.bC lZ) λk d=>d.elim);have an:B<=l.heap.size:=aq o.2.2.2.2.2 (aq q.size lZ.size)
 have bx:Hid (∀W,bb l W (foot A1 g)->Hr W G b1 B t Al Ad Ah Ax cl cd ch cr):=λW hc=>Jc.dx hc an λk d=>by
  rcases d with d | d
  · exact .inl (HP.2.2.1 k (.inl d))
  rcases wB k d with h | h
  · exact .inl (HP.2.2.1 k (.inr h))
  exact .inr (aq o.2.2.2.2.2 h)
 have ap:Hid (yq l wr.heap.size l.heap.size gt hd/\∀k,wr.heap.size<=k->k<l.heap.size->¬foot A1 g k):= ⟨CH,λk h1 _ d=>by have:=(mM.eG d).2;omega⟩;have aE:=η (show ky l l b0 g A1 Q from⟨⟨A1,n1,c1,mM.keeps lZ,λk d=> .inl d⟩,bb.refl _ _⟩);have be:Hid (bb w l (foot A g)/\∀k,ai A1=some k->ai A=some k\/w.heap.size<=k):= ⟨q.trans (S':=λ_=>False) (bb.bC lZ) λk d=>d.elim,wB⟩;have k3:=Jc.cells.2.2.2.1;rw[o.2.2.2.1]at k3;obtain⟨rs,rJ⟩ :=ν (cY t);have xm:=mF t;have p:=kY HP.2.2.2.2;rw[rJ]at xm p O6;have CR:rs.length=nr:=by rw[<-rJ];exact o.2.2.2.1
 have z:=η (⟨rJ,CR,p,xm⟩ :_/\_/\_/\_);have ca:(0:Int)<=(nr:Int)/\(nr:Int)<=316:=ω;clear CH lZ mM wB q Jc an rJ CR p xm c2 bi S j
 go_wp2_with fail;clear k3;go_loopg [72] nr (λ(gk:Nat) (v72:Value) wx=>∃k:Nat,v72= .int .i64 k/\k<=nr/\Hid (ky l wx b0 g A1 (Q++nQ hd (rs.take k)))/\Hid (gk=nr-k))
 case atStart=>exact⟨0,rfl,aG _,by show ky _ _ _ _ _ (Q++[]);rw[ak];exact aE,rfl⟩
 clear aE
 rename World=>wz
 obtain⟨k,rfl,d,m,hg⟩ :=hrel;by_cases a:k<nr
 rotate_left
 · obtain rfl:k=nr:=ω;have qB:¬(k:Int)<(k:Int):=ω;have F:rs.take k=rs:=aA (by rw[z.2.1];exact af _)
   have bG:Hid (ky w wz b0 g A (L++lT t)):=by
    have y:=m.out;rw[F]at y;obtain⟨⟨A2,n2,c2,q1,q2⟩,q3⟩ :=y;have ao:=ky.next be.1 be.2 q1 q3 q2
    rw[<-O6.out]at ao;exact ao
   clear a F m
   go_wp2_with fail;go_end0;exact⟨rfl,bG.out⟩
 have qB:(k:Int)<(nr:Int)/\(0:Int)<=(k:Int):=ω;have rI:k<rs.length:=by rw[z.2.1];exact a
 have KV:=(bx _ m.out.dx).runs;rw[z.1,z.2.1]at KV;obtain⟨ad,hA,P,a0,a1,a2⟩ :=KV.Y8 a;have p:=z.2.2.1 _ (Bx rI);have F:=S4 hd rI;have bp:=Gq Vi.out (rs.take k) λr hr=>z.2.2.1 r (aN hr);have AW:(rs.take k).length<=k:=by rw[aD];exact eR _ _
 obtain⟨⟨C,V,E⟩,hr⟩ :∃r,p9 rs k=r:= ⟨_,rfl⟩;rw[hr]at a0 a1 a2 p F;have ab:0<=C/\C<=18:=p.1;have bl:0<=V/\V<128:=p.2.1;have Hb:0<=E/\E<=7:=p.2.2.1;obtain⟨c,rfl⟩ :=aF ab.1;obtain⟨u,rfl⟩ :=aF Hb.1;replace a0:wz.cell? (ad.add (k*3))=some (.int .i64 (c:Int)):=a0;replace a1:wz.cell? { block:=(ad.add (k*3)).block,off:=(ad.add (k*3)).off+1 }=some (.int .i64 V):=a1;replace a2:wz.cell? { block:=(ad.add (k*3)).block,off:=(ad.add (k*3)).off+2 }=some (.int .i64 (u:Int)):=a2;have tM:X9 hd ⟨(c:Int),V,(u:Int)⟩ =cN hd c++dt V u:=rfl;rw[tM]at F;have am:=Cs.new m.out (.cells #[.int .i64 (c:Int), .int .i64 V, .int .i64 (u:Int)] 188);have sY:=Pu wz ⟨(c:Int),V,(u:Int)⟩ 188;have b:(Q++nQ hd (rs.take k)).length<=3000000010000:=by rw[ae];have:=bI.1;have:=z.2.2.2;have:=z.2.1;omega
 have oB:=pd Vi.out c;have HY:=η (am.sym ap.1 (af _) ap.2 c (by rw[bo.out];omega) Vi.out ω);have pj:=η F;have HLEN:=η (⟨b,oB⟩ :_/\_);have SD:=η sY;have ot:=η a;have bM:(0:Int)<=(c:Int)/\(c:Int)<=18/\0<=V/\V<128/\(0:Int)<=(u:Int)/\(u:Int)<=7:=ω;subst hA;clear rI KV P p F bp AW hr ab bl Hb tM am sY b oB m a
 go_wp2_with fail;refine HY.mono ?_;rintro e w6 ⟨⟨b6,rfl⟩,h6⟩;have d1:w6.cell? ⟨wz.heap.size,1,none⟩ =some (.int .i64 V):=h6.cell SD.out (i:=1) ω;have d2:w6.cell? ⟨wz.heap.size,2,none⟩ =some (.int .i64 (u:Int)):=h6.cell SD.out (i:=2) ω;have T:=η (h6.put V u ω ω (by rw[ae];have:=HLEN.out;omega));clear h6 a0 a1 a2
 go_wp2_with fail;refine T.mono ?_;rintro e w7 ⟨rfl,h7⟩
 have H7:=η (show ky l w7 b0 g A1 (Q++nQ hd (rs.take (k+1))) from by
  have h8:=h7.old;rw[pj.out]
  simpa [List.append_assoc] using h8)
 clear h7 d1 d2
 go_wp2_with fail;go_roundg (nr-(k+1))
 case measure=>have:=hg.out;have:=ot.out;omega
 case rel=>exact⟨k+1,by go_num,ot.out,H7.out,rfl⟩
structure L6 (t t':IS):Prop where
 last:t'.last=t.last
 all:t'.all=t.all
 rem:t'.rem=t.rem
 kinds:t'.kinds=t.kinds
 stops:t'.stops=t.stops
 aj:t'.aj=t.aj
theorem L6.rfl' (t:IS):L6 t t:= ⟨rfl,rfl,rfl,rfl,rfl,rfl⟩
theorem L6.trans {a b c:IS} (h:L6 a b) (h':L6 b c):L6 a c:= ⟨h'.1.trans h.1,h'.2.trans h.2,h'.3.trans h.3,h'.4.trans h.4,h'.5.trans h.5,h'.6.trans h.6⟩
section
variable {t:IS} {y hd:ag}
theorem a3A {a b c:Nat} (i:a<32) (h:b<32) (g:c<16) (z:ag):num (dt (a:Int) 5++(dt (b:Int) 5++(dt (c:Int) 4++z))) 14=a+32*(b+32*c):=by
 have e:dt (a:Int) 5++(dt (b:Int) 5++(dt (c:Int) 4++z))=(dt (a:Int) 5++(dt (b:Int) 5++dt (c:Int) 4))++z:=by simp only [List.append_assoc]
 rw[e,sB (by simp only [List.length_append,aR]),jf,jf,aR,aR,gJ,gJ,gJ];have d:(2:Int) ^ 5=32:=δ;have f:(2:Int) ^ 4=16:=δ;rw[d,f];omega
theorem Ny {a b c:Nat} (d:t.st=3) (f:t.x=dt (a:Int) 5++(dt (b:Int) 5++(dt (c:Int) 4++y))) (j:a<=29) (i:b<=29) (h:c<16):
  t.step=({ t with x:=y,c0:=a+257,c1:=b+1,c2:=c+4,lens:=[],st:=4 },0):=by
 unfold IS.step;rw[a8 ω,a8 ω,a8 ω,aa d];unfold IS.sizes;have g:=a3A (show a<32 by omega) (show b<32 by omega) h y
 have hd:(dt (a:Int) 5++(dt (b:Int) 5++(dt (c:Int) 4++y))).drop 14=y:=by
  have e:dt (a:Int) 5++(dt (b:Int) 5++(dt (c:Int) 4++y))=(dt (a:Int) 5++(dt (b:Int) 5++dt (c:Int) 4))++y:=by simp only [List.append_assoc]
  rw[e,lJ (by simp only [List.length_append,aR])]
 rw[f,g,hd,a8 (by simp only [List.length_append,aR];omega),a8 ω,show(a+32*(b+32*c))%32=a by omega,show(a+32*(b+32*c))/32%32=b by omega,show(a+32*(b+32*c))/1024=c by omega]
def sG (hd:ag) (k:Nat):ag:=(jI.take k).map λo=>ix hd o.toNat
theorem vO (hd:ag) {k:Nat} (h:k<=19):(sG hd k).length=k:=by
 unfold sG;rw[jw,aD];show min k 19=k;omega
theorem RF (hd:ag) {k:Nat} (h:k<19):sG hd (k+1)=sG hd k++[ix hd (ix jI k).toNat]:=by
 have hl:k<jI.length:=h;unfold sG;rw[bc hl,eQ];have e:ix jI k=jI[k]:=by simp [ix,hl]
 rw[e];rfl
theorem Nb (hd:ag) {k n:Nat} (b:k<n) (a:n<=19):(jI.take n).drop k=ix jI k::(jI.take n).drop (k+1):=by
 have hl:k<(jI.take n).length:=by rw[aD];show k<min n 19;omega
 rw[bQ hl];congr 1;have:k<jI.length:=by show k<19;omega
 simp [ix,this]
def Bk (hd:ag) (k n:Nat):ag:=((jI.take n).drop k).flatMap λ(o:Int)=>dt (ix hd o.toNat) 3
theorem RD (hd:ag) (n:Nat):Bk hd 0 n=vN hd n:=rfl
theorem RB (hd:ag) {k n:Nat} (b:k<n) (a:n<=19):Bk hd k n=dt (ix hd (ix jI k).toNat) 3++Bk hd (k+1) n:=by
 unfold Bk;rw[Nb hd b a];rfl
theorem WI (hd:ag) (n:Nat) (a:n<=19):Bk hd n n=[]:=by
 unfold Bk;rw[cV (by rw[aD];show min n 19<=n;omega)];rfl
theorem xY {n:Nat} (b:n<=19) (f:∀i,i<19->0<=ix hd i/\ix hd i<=7):∀(j k:Nat) (t:IS),j=n-k->k<=n->t.st=4->t.c2=n->t.lens=sG hd k->t.x=Bk hd k n++y->
  ∃a,IS.Steps t a/\L6 t a/\a.st=4/\a.c2=n/\a.lens=sG hd n/\a.x=y/\a.c0=t.c0/\a.c1=t.c1
 | 0,k,t,hj,hk,hst,hc,hl,hx=>by
   obtain rfl:k=n:=ω;rw[WI hd k b,ba]at hx;exact⟨t, .refl t,L6.rfl' t,hst,hc,hl,hx,rfl,rfl⟩
 | j+1,k,t,hj,hk,hst,hc,hl,hx=>by
   have d:k<n:=ω;rw[RB hd d b,av]at hx;have p:=G9 k ω;have l:=f (ix jI k).toNat ω;obtain⟨v,hv⟩ :=aF l.1
   have h:num t.x 3=v:=by
    rw[hx,sB (aR _ _),gJ,hv];have o:(2:Int) ^ 3=8:=δ;rw[o];omega
   have e:t.step=({ t with x:=Bk hd (k+1) n++y,lens:=sG hd (k+1) },0):=by
    unfold IS.step;rw[a8 ω,a8 ω,a8 ω,a8 ω,aa hst];unfold IS.heads;rw[hl,vO hd ω,hc,aa d,a8 (by rw[hx,ae,aR];omega),h,hx,lJ (aR _ _),RF hd ω,hv]
   have c:=IS.Steps.one (s:=t) (by rw[e]);rw[e]at c;obtain⟨a,g,m,r⟩ :=xY b f j (k+1) { t with x:=Bk hd (k+1) n++y,lens:=sG hd (k+1) } ω ω hst hc rfl rfl;exact⟨a,c.trans g,(show L6 t { t with x:=Bk hd (k+1) n++y,lens:=sG hd (k+1) } from⟨rfl,rfl,rfl,rfl,rfl,rfl⟩).trans m,r⟩
theorem OO:∀s,s<19->l8.idxOf s<19/\(ix jI (l8.idxOf s)).toNat=s:=by decide+kernel
theorem UC {n:Nat} (j:n<=19) (b:hd.length=19) (hz:∀i,n<=i->i<19->ix hd (ix jI i).toNat=0):iH (sG hd n)=hd:=by
 refine Pr (by unfold iH;rw[jw,List.length_range,b]) λs c=> ?_;have a:s<19:=by unfold iH at c;rw[jw,List.length_range]at c;exact c
 unfold iH;rw[MM _ a];obtain⟨f,d⟩ :=OO s a;by_cases h:l8.idxOf s<n
 · have k:∀(L:ag) (g:Int->Int) (i:Nat),i<L.length->ix (L.map g) i=g (ix L i):=λL g i hi=>by simp [ix,hi]
   unfold sG;rw[k _ _ _ (by rw[aD];show _<min n 19;omega),kF h,d]
 have e:ix (sG hd n) (l8.idxOf s)=0:=by
  unfold ix;rw[au,bq (by rw[vO hd j];omega)];rfl
 rw[e,<-hz _ ω f,d]
theorem QQ (a:t.st=4) (d:t.lens.length=t.c2) (hA:iH t.lens=hd) (c:bg hd 7=0) (b:gS t.lens=false):t.step=({ t with hd:=hd,lens:=[],st:=5 },0):=by
 unfold IS.step;rw[a8 ω,a8 ω,a8 ω,a8 ω,aa a];unfold IS.heads;rw[a8 ω,hA,a8 (by rw[c,b];simp)]
theorem Xe {r:Rn} {d:ag} (l:t.st=5) (B:t.hd=hd) (K:bg hd 7=0) (j:t.lens=d) (I:t.x=X9 hd r++y) (J:yo r) (D:r.c=16->0<d.length) (e:1<=ix hd r.c.toNat) (n:d.length<t.c0+t.c1) (f:(l7 d r).length<=t.c0+t.c1):
  t.step=({ t with x:=y,lens:=l7 d r },0):=by
 obtain⟨C,V,E⟩ :=r;obtain⟨z,w,F,u,s,q,p,o⟩ :=J;dsimp only at z w F u s q p o D e;obtain⟨c,rfl⟩ :=aF z.1;obtain⟨v,rfl⟩ :=aF w.1;rw[aY]at e;have k:t.x=cN hd c++(dt (v:Int) E.toNat++y):=by rw[I];unfold X9;rw[av];rfl
 obtain⟨H,G⟩ :=MZ K e (dt (v:Int) E.toNat++y);unfold IS.step;rw[a8 ω,a8 ω,a8 ω,a8 ω,a8 ω,aa l];unfold IS.lengths;rw[j,aa n];unfold IS.length;rw[B,k,H];simp only;rw[a8 δ,G];by_cases i:(c:Int)<16
 · obtain⟨rfl,rfl⟩ :v=0/\E=0:=by obtain⟨a,b⟩ :=s ω;exact⟨ω,b⟩
   rw[aa i,j];unfold l7;rw[aa i];rfl
 have A:IS.rW (c:Int)=E.toNat:=by
  unfold IS.rW;obtain h | h | h:(c:Int)=16\/(c:Int)=17\/(c:Int)=18:=ω
  · rw[a8 ω,a8 ω,q h];rfl
  · rw[aa h,p h];rfl
  rw[a8 ω,aa h,o h];rfl
 have m:num (dt (v:Int) E.toNat++y) E.toNat=v:=by
  rw[sB (aR _ _),gJ,bu ω u];rfl
 have g:l7 d ⟨(c:Int),(v:Int),E⟩ =d++List.replicate (IS.rB (c:Int)+v) (if(c:Int)=16 then ix d (d.length-1)else 0):=by
  unfold l7;rw[a8 i];simp only [Int.toNat_natCast]
 rw[g]at f⊢;rw[ae,aS]at f;rw[a8 i,j,a8 (by rintro⟨L,M⟩;have:=D L;omega),A,a8 (by rw[ae,aR];omega)];unfold IS.kx;rw[A,m,j,a8 ω,lJ (aR _ _),B]
theorem Oy (a:ag) {r:Rn} (h:yo r):a.length<(l7 a r).length:=by
 unfold l7;split
 · simp
 rw[ae,aS];unfold IS.rB;split <;> omega
theorem Zn (rs:List Rn):∀a:ag,okR a rs->a.length<=(rs.foldl l7 a).length:=by
 induction rs with
 | nil=>intro a _;exact af _
 | cons r rs b=>
   intro a h;have:=b (l7 a r) h.2.2;have:=Oy a h.1;rw[i7];omega
theorem BC (h:bg hd 7=0):∀(rs:List Rn) (t:IS) (acc:ag),t.st=5->t.hd=hd->t.lens=acc->t.x=nQ hd rs++y->okR acc rs->(∀r∈rs,1<=ix hd r.c.toNat)->(rs.foldl l7 acc).length=t.c0+t.c1->
  ∃a,IS.Steps t a/\L6 t a/\a.st=5/\a.lens=rs.foldl l7 acc/\a.x=y/\a.c0=t.c0/\a.c1=t.c1
 | [],t,acc,hst,uo,CI,hx,_,_,_=> ⟨t, .refl t,L6.rfl' t,hst,CI,by rw[hx];rfl,rfl,rfl⟩
 | r::rs,t,acc,hst,uo,CI,hx,jT,hs,hlen=>by
   obtain⟨g,k,f⟩ :=jT
   have b:t.x=X9 hd r++(nQ hd rs++y):=by
    rw[hx];show(X9 hd r++nQ hd rs)++y=_;rw[av]
   rw[i7]at hlen;have n:=Zn rs (l7 acc r) f;have m:=Oy acc g;have e:=Xe hst uo h CI b g k (hs r aI) ω ω;have d:=IS.Steps.one (s:=t) (by rw[e]);rw[e]at d;obtain⟨a,i,q2,j⟩ :=BC h rs { t with x:=nQ hd rs++y,lens:=l7 acc r } (l7 acc r) hst uo rfl rfl f (λr l=>hs r (aJ _ l)) hlen;exact⟨a,d.trans i,(show L6 t { t with x:=nQ hd rs++y,lens:=l7 acc r } from⟨rfl,rfl,rfl,rfl,rfl,rfl⟩).trans q2,j⟩
theorem WR {l d:ag} (a:t.st=5) (hl:t.lens=l++d) (g:t.c0=l.length) (f:t.c1=d.length) (c:bg l 15=0) (e:bg d 15=0) (b:1<=ix l 256):t.step=({ t with lt:=l,ds:=d,st:=6 },0):=by
 unfold IS.step;rw[a8 ω,a8 ω,a8 ω,a8 ω,a8 ω,aa a];unfold IS.lengths;have j:(l++d).take l.length=l:=gB;have i:(l++d).drop l.length=d:=gy;have h:ix (l++d) 256=ix l 256:=by rw[dy,aa (GC b)]
 rw[hl,g,f,a8 (by rw[ae];omega),j,i,h,c,e,a8 ω]
end
end Go.Proofs.YtgiimmkmjpbecaaGreat
