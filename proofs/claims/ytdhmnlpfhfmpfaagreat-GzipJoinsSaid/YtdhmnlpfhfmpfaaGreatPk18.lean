/-
  part
-/
import Derived.Test.YtdhmnlpfhfmpfaaGreatArr
import Derived.Test.YtdhmnlpfhfmpfaaGreatFrqW
import Derived.Test.YtdhmnlpfhfmpfaaGreatPk15
import Derived.Test.YtdhmnlpfhfmpfaaGreatPk17
import Derived.Test.YtdhmnlpfhfmpfaaGreatRunV
set_option linter.unusedVariables false
set_option maxRecDepth 100000
set_option maxHeartbeats 8000000
namespace Go.Proofs.YtdhmnlpfhfmpfaaGreat
open Go.RowKit
def kA:Array Value:=(jB.map (Value.int .i64)).toArray
theorem a0f:∀i,i<19->kA[i]?=some (.int .i64 (ix jB i)):=by
 intro i hi;unfold kA;simp [ix,jB];rcases i with _ | _ | _ | _ | _ | _ | _ | _ | _ | _ | _ | _ | _ | _ | _ | _ | _ | _ | _ | i <;> first | rfl | omega
theorem FH:∀i,i<19->0<=ix jB i/\ix jB i<=18:=δ
theorem DJ (w:World):Calls Tryz.prog 118 #[] w λe w'=>e= .returned (.agg kA)/\w'=w.alloc (.cells kA 167):=by
 go_enter Tryz.func118,Tryz.ntmps118;go_upto_region 1 with fail
 refine wp_region_list ?_;refine wpList_buildFlatArrTo rfl 167 3 19 _ rfl .i64 jB (some 1) rfl Tryz.underlying167 (by kernel_rfl) (by kernel_rfl) rfl ?_;refine wpList_store_rowTo rfl 167 (.tmp 0) (.tmp 1) rfl rfl w.heap.size kA rfl rfl 167 _ (dr w _) (by kernel_rfl) rfl (by simp [kA,jB,Value.oneCell']) ?_;rw[World.setRow_alloc_new]
 go_wp2_with ((with_reducible (show bodyPost _ _ _ _ _ _));exact bh (results_cell_row rfl _ _ w.heap.size _ kA _ _ rfl (dr w _) Tryz.underlying167 rfl (by kernel_rfl)) rfl ⟨rfl,rfl⟩)
theorem JG {l:List Int} {few n:Nat} (h:few<n+1/\ix l n=0):l8 l few (n+1)=l8 l few n:=ae h
theorem BU {l:List Int} {few n:Nat} (h:¬(few<n+1/\ix l n=0)):l8 l few (n+1)=n+1:=aa h
theorem zH:(Tryz.prog.info? 3).map (λi=>(i.zero,i.size,i.bytes))=some (some (.int .i64 0),1,8):=by kernel_rfl
theorem ym (w:World) (A:Option Addr) (n c B few:Nat) (l:List Int) (hl:bU .i64 w B A n l) (C:n<=1000) (F:n<=c) (hf:few<=1000):
  Calls Tryz.prog 116 #[.slice A n c, .int .i64 few] w λe w'=>e= .returned (.slice A (l8 l few n) c)/\w=w':=by
 obtain⟨y,hi,k,a,g⟩ :=aJ zH;have r:Hid (∀(j:Nat),j<=c->(Instr.slice 63 (.slice A n c) none (some (.int .i64 (j:Int))) none).run Tryz.prog w= .ok (.slice A j c) w):=λj u=>dV (P:=Tryz.prog) 63 3 Tryz.underlying63 hi a A n c u w;have x:=η hl;have z:(0:Int)<=(n:Int)/\(n:Int)<=1000/\(0:Int)<=(few:Int)/\(few:Int)<=1000:=ω;clear hi k a g hl;go_enter Tryz.func116,Tryz.ntmps116
 go_wp2_with fail;go_loopg [5] n (λ(gk:Nat) (v5:Value) wx=>v5= .int .i64 gk/\wx=w/\gk<=n/\Hid (l8 l few gk=l8 l few n))
 case atStart=>exact⟨rfl,rfl,ag _,rfl⟩
 obtain⟨rfl,s,E,ht⟩ :=hrel;obtain rfl:=s.symm;have D:(0:Int)<=(gk:Int)/\(gk:Int)<=(n:Int):=ω;by_cases o:few<gk
 rotate_left
 · have t:¬(few:Int)<(gk:Int):=ω;have f:=η ((Ei (l:=l) (show gk<=few by omega)).symm.trans ht.out);have m:=r.out gk ω;clear ht
   go_wp2_with fail;go_ret;exact⟨by rw[<-f.out];rfl,rfl⟩
 obtain⟨q,rfl⟩ :∃q,gk=q+1:= ⟨gk-1,ω⟩;have t:(few:Int)<(q:Int)+1:=ω;obtain⟨G,hA, -,p⟩ :=x.out.at_ (i:=q) ω;obtain⟨X,b⟩ :=ν (ix l q);rw[b]at p;subst hA;by_cases d:X=0
 · have f:=η ((JG ⟨o,by rw[b];exact d⟩).symm.trans ht.out);subst d;clear b ht
   go_wp2_with fail;go_roundg q
   case measure=>omega
   case rel=>exact⟨by go_num,rfl,ω,f.out⟩
 have f:=η ((BU (by rw[b];exact λh=>d h.2)).symm.trans ht.out);have v:(X==0)=false:=by simpa using d
 have m:=r.out (q+1) ω;clear b ht d
 go_wp2_with fail;go_ret;exact⟨by rw[<-f.out];rfl,rfl⟩
def CN (L:List Int) (raw:List Int):List Int:=qy L++dv raw.length 16++dv (4294967295-(raw.length:Int)) 16++gG raw
theorem M4 (L:List Int) (a b:Int):qy (qy L++dv a 16++dv b 16)=qy L++dv a 16++dv b 16:=
 Hs (by rw[af,af,aP,aP];have:=pK L;omega)
theorem a1R (V:Nat) (h:V<4294967296):bits .xor .u32 IntKind.u32.max (V:Int)=4294967295-(V:Int):=by
 show IntKind.u32.wrap ((BitVec.ofInt 32 IntKind.u32.max ^^^ BitVec.ofInt 32 (V:Int)).toNat:Int)=_;have e:BitVec.ofInt 32 IntKind.u32.max=BitVec.allOnes 32:=δ;rw[e,BitVec.allOnes_xor,BitVec.toNat_not,ofInt_u32 V h,IntKind.wrap_u32'];omega
theorem Mw (w:World) (b0 g n c B m d:Nat) (A C:Option Addr) (L raw:List Int) (s:qf w b0 g A n c L) (j:bU .u8 w B C m raw) (o:B<=w.heap.size) (i:0<m->∀p,C=some p->¬foot A g p.block) (b:∀x∈raw,0<=x/\x<256) (a:L.length<=3000000000000) (hm:m<=65535):
  Calls Tryz.prog 88 #[.pointer (some ⟨g,0,none⟩), .slice C m d] w λe w'=>e= .returned (.tuple #[])/\kv w w' b0 g A (CN L raw):=by
 have Gu:(0:Int)<=(m:Int)/\(m:Int)<=65535:=ω;have z:(qy L).length<=L.length+7:=by rw[mq];omega
 have J:=j.1;have O:=η (a1R m ω);have v:=η (show qy (qy L++dv (m:Int) 16++dv (4294967295-(m:Int)) 16)++gG raw=CN L raw by rw[M4];unfold CN;rw[<-J]);have G:=η (⟨s,j,o,i,b,a,z⟩ :_/\_/\_/\_/\_/\_/\_);have HA:=η (qW w b0 g n c A L s ω);clear s j o i b a z J;go_enter Tryz.func88,Tryz.ntmps88
 go_wp2_with fail;refine HA.out.mono ?_;rintro e w1 ⟨A1,n1,c1,rfl,I,t,wF⟩;have H:=η (kv.next (bj.refl w (foot A g)) (λk l=> .inl l) I t wF);have Z:=η (H.out.put (m:Int) 16 ω ω (by have:=G.out;omega));clear I t wF
 go_wp2_with fail;refine Z.out.mono ?_;rintro e w2 ⟨rfl,N⟩;obtain⟨V,M⟩ :=ν (4294967295-(m:Int));have U:0<=V/\V<4294967296:=ω;rw[M]at O v;have Y:=η (N.put V 16 U ω (by rw[af,aP];have:=G.out;omega));have R:bits .xor .u32 (if IntKind.u32.signed=true then -1 else IntKind.u32.max) (m:Int)=V:=O.out;clear N M
 go_wp2_with fail;refine Y.out.mono ?_;rintro e P ⟨rfl,W⟩;obtain⟨s,j,o,i,b,a,z⟩ :=G.out;obtain⟨⟨A3,Q,X,r,wG⟩,f⟩ :=W
 have u:=η (Ge P b0 g Q X B m d A3 C _ raw r (f.rA j o i) (au o f.size) (λF p e l=>by
  have T:p.block<w.heap.size:=by
   obtain⟨MT,D,E,_⟩ :=j.2 F;rw[e]at D;injection D with D;rw[D];exact aD E o
  rcases l with l | l
  · exact i F p e (.inl l)
  rcases wG _ l with h | h
  · exact i F p e (.inr h)
  omega) b (by rw[af,af,aP,aP];omega) ω)
 rw[v.out]at u;have y:=η (⟨wG,f⟩ :_/\_);clear s j o i b a z r wG f R
 go_wp2_with fail;refine u.out.mono ?_;rintro e w4 ⟨A4,n4,c4,rfl,q,K,Cb⟩;have S:=η (kv.next y.out.2 y.out.1 q K Cb);clear q K Cb
 go_wp2_with fail;go_end0;exact⟨rfl,S.out⟩
def XF (a b c d e:Value):Nat->Value
 | 0=>a
 | 1=>b
 | 2=>c
 | 3=>d
 | _=>e
def yN:Value:= .slice none 0 0
theorem FI (w:World) (a b c d e:Value) (t:TypeId):Ar (w.alloc (.cells #[a,b,c,d,e] t)) w.heap.size 5 (XF a b c d e):=
 Ar.new w _ t rfl λi hi=>by
  obtain rfl | rfl | rfl | rfl | rfl:i=0\/i=1\/i=2\/i=3\/i=4:=ω;all_goals rfl
structure oy (w wx:World) (R P:Nat) (a b c d e:Value):Prop where
 res:Ar wx R 5 (XF yN yN yN yN (.int .i64 0))
 box:Ar wx P 5 (XF a b c d e)
 vp:Below w.heap.size w wx
 QJ:w.heap.size<=R
 K8:R<P
section
variable {w wx w':World} {R P:Nat} {a b c d e:Value}
theorem oy.drew (h:oy w wx R P a b c d e):oy w wx.drew R P a b c d e:= ⟨h.res,h.box, ⟨h.vp.os,h.vp.tape,h.vp.output,h.vp.size,h.vp.block⟩,h.QJ,h.K8⟩
theorem oy.alloc (h:oy w wx R P a b c d e) (o:Obj):oy w (wx.alloc o) R P a b c d e:= ⟨h.res.alloc o,h.box.alloc o,h.vp.alloc h.vp.size o,h.QJ,h.K8⟩
theorem oy.keeps (h:oy w wx R P a b c d e) (f:Below wx.heap.size wx w'):oy w w' R P a b c d e:= ⟨h.res.keeps f,h.box.keeps f,h.vp.trans (f.mono h.vp.size),h.QJ,h.K8⟩
theorem oy.far (h:oy w wx R P a b c d e) {p:Addr} (g:R≠p.block) (i:P≠p.block) (f:w.heap.size<=p.block) (v:Value):oy w (wx.setCell p v) R P a b c d e:= ⟨h.res.far g v,h.box.far i v,h.vp.setCell f v,h.QJ,h.K8⟩
theorem oy.ne (h:oy w wx R P a b c d e):R≠P:=by have:=h.K8;omega
theorem oy.lo (h:oy w wx R P a b c d e):w.heap.size<=P:=by have:=h.K8;have:=h.QJ;omega
theorem oy.put (h:oy w wx R P a b c d e) {i:Nat} (hi:i<5) (v:Value) {a' k c' g f:Value} (hf:∀j,j<5->upd (XF a b c d e) i v j=XF a' k c' g f j):oy w (wx.setCell ⟨P,i,none⟩ v) R P a' k c' g f:=
 ⟨h.res.far (p:= ⟨P,i,none⟩) h.ne v,(h.box.bC hi v).congr hf,h.vp.setCell (p:= ⟨P,i,none⟩) h.lo v,h.QJ,h.K8⟩
theorem oy.a4d (h:oy w wx R P a b c d e) (v:Value):oy w (wx.setCell ⟨P,0,none⟩ v) R P v b c d e:=h.put ω v λj f=>by
 obtain rfl | rfl | rfl | rfl | rfl:j=0\/j=1\/j=2\/j=3\/j=4:=ω;all_goals rfl
theorem oy.a4e (h:oy w wx R P a b c d e) (v:Value):oy w (wx.setCell ⟨P,1,none⟩ v) R P a v c d e:=h.put ω v λj f=>by
 obtain rfl | rfl | rfl | rfl | rfl:j=0\/j=1\/j=2\/j=3\/j=4:=ω;all_goals rfl
theorem oy.b0I (h:oy w wx R P a b c d e) (v:Value):oy w (wx.setCell ⟨P,2,none⟩ v) R P a b v d e:=h.put ω v λj f=>by
 obtain rfl | rfl | rfl | rfl | rfl:j=0\/j=1\/j=2\/j=3\/j=4:=ω;all_goals rfl
theorem oy.b0J (h:oy w wx R P a b c d e) (v:Value):oy w (wx.setCell ⟨P,3,none⟩ v) R P a b c v e:=h.put ω v λj f=>by
 obtain rfl | rfl | rfl | rfl | rfl:j=0\/j=1\/j=2\/j=3\/j=4:=ω;all_goals rfl
theorem oy.a0i (h:oy w wx R P a b c d e) (v:Value):oy w (wx.setCell ⟨P,4,none⟩ v) R P a b c d v:=h.put ω v λj f=>by
 obtain rfl | rfl | rfl | rfl | rfl:j=0\/j=1\/j=2\/j=3\/j=4:=ω;all_goals rfl
theorem oy.cells (h:oy w wx R P a b c d e):(wx.cell? ⟨P,0,none⟩ =some a/\wx.cell? ⟨P,1,none⟩ =some b/\wx.cell? ⟨P,2,none⟩ =some c/\wx.cell? ⟨P,3,none⟩ =some d/\wx.cell? ⟨P,4,none⟩ =some e)/\∀i,i<5->wx.frozen? ⟨P,i,none⟩ =false:=
 ⟨⟨h.box.cell (i:=0) ω,h.box.cell (i:=1) ω,h.box.cell (i:=2) ω,h.box.cell (i:=3) ω,h.box.cell (i:=4) ω⟩,λi hi=>h.box.frozen' hi⟩
end
theorem Own.pre {w:World} {b0:Nat} {e:TypeId} {k n c:Nat} {A:Option Addr} {f:Nat->Value} (h:Own w b0 e k A n c f) {j:Nat} (m:j<=n):Own w b0 e k A j c f:=by
 rcases h with ⟨b,l,a⟩ | ⟨g,d,b,l,a,h4,h5,h6,h7⟩
 · exact .inl ⟨b,ω,a⟩
 exact .inr ⟨g,d,b,l,a,ω,h5,h6,λi hi=>h7 i (aD hi (fc _ m))⟩
theorem aW.pre {k:IntKind} {w:World} {b0:Nat} {e:TypeId} {n c:Nat} {A:Option Addr} {l:List Int} (h:aW k w b0 e A n c l) {j:Nat} (a:j<=n):aW k w b0 e A j c (l.take j):=
 ⟨by rw[aA,<-h.1];omega,(h.2.pre a).congr λi hi=>by rw[kD ω]⟩
theorem aW.cap {k:IntKind} {w:World} {b0:Nat} {e:TypeId} {n c:Nat} {A:Option Addr} {l:List Int} (h:aW k w b0 e A n c l):n<=c:=by
 rcases h.2 with ⟨d,b,a⟩ | ⟨g,f,d,b,a,h4,h5,h6,h7⟩
 · omega
 exact h4
structure wM (b:Nat) (wx:World) (P:Nat) (Al Ad:Option Addr) (nl cl nd cd:Nat) (l d:List Int):Prop where
 lit:aW .i64 wx b 3 Al nl cl l
 bk:aW .i64 wx b 3 Ad nd cd d
 lp:ai Al≠some P
 dp:ai Ad≠some P
 ld:∀k,ai Al=some k->ai Ad≠some k
section
variable {b:Nat} {wx w':World} {P:Nat} {Al Ad:Option Addr} {nl cl nd cd:Nat} {l d:List Int}
theorem wM.drew (h:wM b wx P Al Ad nl cl nd cd l d):wM b wx.drew P Al Ad nl cl nd cd l d:= ⟨h.lit,h.bk,h.lp,h.dp,h.ld⟩
theorem wM.alloc (h:wM b wx P Al Ad nl cl nd cd l d) (o:Obj):wM b (wx.alloc o) P Al Ad nl cl nd cd l d:= ⟨h.lit.alloc o,h.bk.alloc o,h.lp,h.dp,h.ld⟩
theorem wM.keeps (h:wM b wx P Al Ad nl cl nd cd l d) (a:Below wx.heap.size wx w'):wM b w' P Al Ad nl cl nd cd l d:= ⟨h.lit.keeps a,h.bk.keeps a,h.lp,h.dp,h.ld⟩
theorem wM.put (h:wM b wx P Al Ad nl cl nd cd l d) (i:Nat) (v:Value):wM b (wx.setCell ⟨P,i,none⟩ v) P Al Ad nl cl nd cd l d:= ⟨h.lit.far (p:= ⟨P,i,none⟩) h.lp v,h.bk.far (p:= ⟨P,i,none⟩) h.dp v,h.lp,h.dp,h.ld⟩
end
theorem wM.pre {b:Nat} {wx:World} {P:Nat} {Al Ad:Option Addr} {nl cl nd cd c a:Nat} {l d:List Int} (h:wM b wx P Al Ad nl cl nd cd l d) (f:c<=nl) (e:a<=nd):wM b wx P Al Ad c cl a cd (l.take c) (d.take a):= ⟨h.lit.pre f,h.bk.pre e,h.lp,h.dp,h.ld⟩
theorem J2 {w wx w':World} {R P:Nat} {a b c d e:Value} {Al Ad:Option Addr} {nl cl nd cd:Nat} {l D:List Int} {row:Option Nat} (h:oy w wx R P a b c d e) (g:wM (R+1) wx P Al Ad nl cl nd cd l D)
  (f:∀k,row=some k->R<k/\k≠P/\ai Al≠some k/\ai Ad≠some k) (i:wx.grownBy w' row):oy w w' R P a b c d e/\wM (R+1) w' P Al Ad nl cl nd cd l D:=by
 have ne:∀k,¬(R<k/\k≠P/\ai Al≠some k/\ai Ad≠some k)->some k≠row:=λk j e=>j (f k e.symm);refine⟨⟨h.res.grown i (ne _ ω),h.box.grown i (ne _ ω),h.vp.grown i h.vp.size λk j=>by have:=f k j;have:=h.QJ;omega,h.QJ,h.K8⟩, ⟨g.lit.grown i ?_,g.bk.grown i ?_,g.lp,g.dp,g.ld⟩⟩
 · cases hA:ai Al with
   | none=>exact .inr rfl
   | some k=>exact .inl (ne k λh=>h.2.2.1 hA)
 cases hA:ai Ad with
 | none=>exact .inr rfl
 | some k=>exact .inl (ne k λh=>h.2.2.2 hA)
inductive TrI (AL AD:Option Addr) (cL cD n1 n2:Nat):Option Addr->Nat->Nat->Int->Nat->Prop
 | lit:TrI AL AD cL cD n1 n2 AL 286 cL 257 n1
 | bk:TrI AL AD cL cD n1 n2 AD 30 cD 1 n2
theorem WX {b P:Nat} {f g:Option Addr} {a d:Nat} {t:List cu} (W:World) (h:wM b W P f g 286 a 30 d (xv t) (qw t)) (A:Option Addr) (n c:Nat) (few:Int) (m:Nat) (i:TrI f g a d (fJ t) (fT t) A n c few m):
  Calls Tryz.prog 116 #[.slice A n c, .int .i64 few] W λe w'=>e= .returned (.slice A m c)/\W=w':=by
 cases i with
 | lit=>exact ym W f 286 a _ 257 _ h.lit.rd ω h.lit.cap ω
 | bk=>exact ym W g 30 d _ 1 _ h.bk.rd ω h.bk.cap ω
theorem yt.Xk {w:World} {B n:Nat} {A:Option Addr} {l:List Rn} (h:yt w B A n l) {k:Nat} (f:k<n):∃a,A=some a/\a.block<B/\w.cell? (a.add (k*3))=some (.int .i64 (px l k).c)/\w.cell? { block:=(a.add (k*3)).block,off:=(a.add (k*3)).off+1 }=some (.int .i64 (px l k).v)/\w.cell? { block:=(a.add (k*3)).block,off:=(a.add (k*3)).off+2 }=some (.int .i64 (px l k).e):=by
 obtain⟨a,e,d,b⟩ :=h.2 ω;refine⟨a,e,d, ?_, ?_, ?_⟩
 · rw[b _ ω,a80]
 · have:=b (k*3+1) ω;rw[kV _ _ _ ω,a81]at this;exact this
 have:=b (k*3+2) ω;rw[kV _ _ _ ω,a82]at this;exact this
theorem Bv {l:List Rn} {k:Nat} (a:k<l.length):px l k∈l:=by
 have e:px l k=l[k]:=by simp [px,a]
 rw[e];exact cF a
theorem FT {l:List Rn} {k:Nat} (h:k<l.length):l.take (k+1)=l.take k++[px l k]:=by
 rw[aY h];simp [px,h]
structure PlH (w wx:World) (R P gh:Nat) (Al Ad:Option Addr) (nl cl nd cd:Nat) (l d:List Int) (Ar:Option Addr) (nr cr:Nat) (rs:List Rn) (hl:List Int):Prop where
 s:oy w wx R P (.slice Al nl cl) (.slice Ad nd cd) (.slice none 0 0) (.slice Ar nr cr) (.int .i64 0)
 r:wM (R+1) wx P Al Ad nl cl nd cd l d
 o:l9 wx (R+1) Ar nr cr rs
 op:ai Ar≠some P
 h:aW .i64 wx (R+1) 3 (some ⟨gh,0,none⟩) 19 19 hl
 hp:gh≠P
 hA:ai Al≠some gh
 hD:ai Ad≠some gh
 hO:ai Ar≠some gh
section
variable {w wx w':World} {R P gh:Nat} {Al Ad:Option Addr} {nl cl nd cd:Nat} {l d:List Int} {Ar:Option Addr} {nr cr:Nat} {rs:List Rn} {hl:List Int}
theorem PlH.alloc (h:PlH w wx R P gh Al Ad nl cl nd cd l d Ar nr cr rs hl) (o:Obj):PlH w (wx.alloc o) R P gh Al Ad nl cl nd cd l d Ar nr cr rs hl:= ⟨h.s.alloc o,h.r.alloc o,h.o.alloc o,h.op,h.h.alloc o,h.hp,h.hA,h.hD,h.hO⟩
theorem PlH.set (h:PlH w wx R P gh Al Ad nl cl nd cd l d Ar nr cr rs hl) {i:Nat} (hi:i<19) (v:Int):PlH w (wx.setCell ⟨gh,i,none⟩ (.int .i64 v)) R P gh Al Ad nl cl nd cd l d Ar nr cr rs (hl.set i v):=by
 have a:R+1<=gh:=(h.h.2.lt rfl).1;refine⟨h.s.far (p:= ⟨gh,i,none⟩) (by show R≠gh;omega) (λe=>h.hp e.symm) (by show w.heap.size<=gh;have:=h.s.QJ;omega) _, ⟨h.r.lit.far (p:= ⟨gh,i,none⟩) h.hA _,h.r.bk.far (p:= ⟨gh,i,none⟩) h.hD _,h.r.lp,h.r.dp,h.r.ld⟩, ⟨h.o.1,h.o.2.far (p:= ⟨gh,i,none⟩) h.hO _⟩,h.op,h.h.put hi v,h.hp,h.hA,h.hD,h.hO⟩
end
def rT (w:World) (g:Nat):Prop:=w.heap[g]?=some (.cells kA 167 (0,0))
theorem rT.new (w:World):rT (w.alloc (.cells kA 167)) w.heap.size:=dr w _
theorem rT.cell {w:World} {g i:Nat} (h:rT w g) (hi:i<19):w.cell? ⟨g,i,none⟩ =some (.int .i64 (ix jB i)):=by
 rw[iT w g i kA _ _ h,a0f i hi]
theorem rT.far {w:World} {g:Nat} (h:rT w g) {p:Addr} (hp:g≠p.block) (v:Value):rT (w.setCell p v) g:=(cR w p v g hp).trans h
theorem VP:kA.all (·.oneCell')=true:=by simp [kA,jB,Value.oneCell']
theorem uU {b:Array Oper} {rest:List Oper} {o:Oper} {a:Act} {w:World} {Q:Exit->Act->World->Prop} (c:o.guard=none) (x y:Operand) (f:o.op= .store 167 x y) (hd:o.dst=none) (g:Nat) (i:g=w.heap.size) (e:a.eval x= .pointer (some ⟨g,0,none⟩)) (d:a.eval y= .agg kA)
  (zs:Array Value) (hz:zs.size=19) (h:wpList Tryz.prog b Q rest a (w.alloc (.cells kA 167))):wpList Tryz.prog b Q (o::rest) a (w.alloc (.cells zs 167)):=by
 subst i;refine wpList_store_rowTo c 167 x y f hd w.heap.size kA e d 167 zs (dr w _) (by kernel_rfl) hz VP ?_;rw[World.setRow_alloc_new];exact h
structure JQ (w wx:World) (R P:Nat) (Al Ad Ah Ar:Option Addr) (nl cl nd cd ch nr cr:Nat) (l d:List Int) (rs:List Rn) (hd:List Int) (n:Nat):Prop where
 s:oy w wx R P (.slice Al nl cl) (.slice Ad nd cd) (.slice Ah 19 ch) (.slice Ar nr cr) (.int .i64 (n:Int))
 r:wM (R+1) wx P Al Ad nl cl nd cd l d
 o:l9 wx (R+1) Ar nr cr rs
 op:ai Ar≠some P
 h:aW .i64 wx (R+1) 3 Ah 19 ch hd
 hp:ai Ah≠some P
section
variable {w wx w':World} {R P:Nat} {Al Ad Ah Ar:Option Addr} {nl cl nd cd ch nr cr:Nat} {l d:List Int} {rs:List Rn} {hd:List Int} {n:Nat}
theorem JQ.drewN (h:JQ w wx R P Al Ad Ah Ar nl cl nd cd ch nr cr l d rs hd n) (q:Nat):JQ w (wx.drewN q) R P Al Ad Ah Ar nl cl nd cd ch nr cr l d rs hd n:= ⟨⟨h.s.res,h.s.box, ⟨h.s.vp.os,h.s.vp.tape,h.s.vp.output,h.s.vp.size,h.s.vp.block⟩,h.s.QJ,h.s.K8⟩, ⟨h.r.lit,h.r.bk,h.r.lp,h.r.dp,h.r.ld⟩,h.o,h.op,h.h,h.hp⟩
theorem JQ.alloc (h:JQ w wx R P Al Ad Ah Ar nl cl nd cd ch nr cr l d rs hd n) (o:Obj):JQ w (wx.alloc o) R P Al Ad Ah Ar nl cl nd cd ch nr cr l d rs hd n:= ⟨h.s.alloc o,h.r.alloc o,h.o.alloc o,h.op,h.h.alloc o,h.hp⟩
theorem JQ.keeps (h:JQ w wx R P Al Ad Ah Ar nl cl nd cd ch nr cr l d rs hd n) (a:Below wx.heap.size wx w'):JQ w w' R P Al Ad Ah Ar nl cl nd cd ch nr cr l d rs hd n:= ⟨h.s.keeps a,h.r.keeps a,h.o.keeps a,h.op,h.h.keeps a,h.hp⟩
theorem JQ.a0i (h:JQ w wx R P Al Ad Ah Ar nl cl nd cd ch nr cr l d rs hd n) (m:Nat):JQ w (wx.setCell ⟨P,4,none⟩ (.int .i64 (m:Int))) R P Al Ad Ah Ar nl cl nd cd ch nr cr l d rs hd m:= ⟨h.s.a0i _,h.r.put 4 _, ⟨h.o.1,h.o.2.far (p:= ⟨P,4,none⟩) h.op _⟩,h.op,h.h.far (p:= ⟨P,4,none⟩) h.hp _,h.hp⟩
end
def Hi (b:Nat) (A:Option Addr):Prop:=∀k,ai A=some k->b<=k
def zA (w:World) (t:List cu) (e:Ending) (w':World):Prop:=
 ∃Al cl Ad cd Ah ch Ar cr,e= .returned (.agg #[.slice Al (fJ t) cl, .slice Ad (fT t) cd, .slice Ah 19 ch, .slice Ar (cY t).length cr, .int .i64 ((po t:Nat):Int)])/\
  bU .i64 w' w'.heap.size Al (fJ t) (eY t)/\bU .i64 w' w'.heap.size Ad (fT t) (dm t)/\bU .i64 w' w'.heap.size Ah 19 (cV t)/\yt w' w'.heap.size Ar (cY t).length (cY t)/\Below w.heap.size w w'/\(Hi w.heap.size Al/\Hi w.heap.size Ad/\Hi w.heap.size Ah/\Hi w.heap.size Ar)
def a0j (w:World) (R:Nat) (a b c d e:Value):World:=((((w.setCell ⟨R,0,none⟩ a).setCell ⟨R,1,none⟩ b).setCell ⟨R,2,none⟩ c).setCell ⟨R,3,none⟩ d).setCell ⟨R,4,none⟩ e
theorem a0k {w:World} {R:Nat} {a b c d e:Value} {f:Nat->Value} (h:Ar w R 5 f):Ar (a0j w R a b c d e) R 5 (XF a b c d e):=by
 refine(((((h.bC (i:=0) ω a).bC (i:=1) ω b).bC (i:=2) ω c).bC (i:=3) ω d).bC (i:=4) ω e).congr λj g=> ?_;obtain rfl | rfl | rfl | rfl | rfl:j=0\/j=1\/j=2\/j=3\/j=4:=ω;all_goals rfl
theorem W8 (w:World) (R:Nat) (a b c d e:Value):bj w (a0j w R a b c d e) (λk=>k=R):=
 (((((bj.refl w (λk=>k=R)).setCell (p:= ⟨R,0,none⟩) (.inl rfl) a).setCell (p:= ⟨R,1,none⟩) (.inl rfl) b).setCell (p:= ⟨R,2,none⟩) (.inl rfl) c).setCell (p:= ⟨R,3,none⟩) (.inl rfl) d).setCell (p:= ⟨R,4,none⟩) (.inl rfl) e
theorem W5 {w wx:World} {R P:Nat} {Al Ad Ah Ar:Option Addr} {nl cl nd cd ch nr cr:Nat} {t:List cu} {n:Nat} (h:JQ w wx R P Al Ad Ah Ar nl cl nd cd ch nr cr (eY t) (dm t) (cY t) (cV t) n) (v:fJ t=nl) (u:fT t=nd) (q:n=po t) (a b c d e:Value):
  zA w t (.returned (.agg #[.slice Al nl cl, .slice Ad nd cd, .slice Ah 19 ch, .slice Ar nr cr, .int .i64 (n:Int)])) (a0j wx R a b c d e):=by
 have l:=W8 wx R a b c d e;have g:∀(A:Option Addr) (e:TypeId) (i n c:Nat) (f:Nat->Value),Own wx (R+1) e i A n c f->∀k,ai A=some k->¬k=R:=λA e i n c f p k j=>by have:=(p.lt j).1;omega
 have m:∀(A:Option Addr) (e:TypeId) (i n c:Nat) (f:Nat->Value),Own wx (R+1) e i A n c f->Hi w.heap.size A:=λA e i n c f p k j=>by have:=(p.lt j).1;have:=h.s.QJ;omega
 subst v u q;refine⟨Al,cl,Ad,cd,Ah,ch,Ar,cr, ?_,(l.eH h.r.lit (g _ _ _ _ _ _ h.r.lit.2)).rd,(l.eH h.r.bk (g _ _ _ _ _ _ h.r.bk.2)).rd,(l.eH h.h (g _ _ _ _ _ _ h.h.2)).rd, ?_,h.s.vp.trans (l.below (λk j=>by rw[j];exact h.s.QJ) h.s.vp.size),m _ _ _ _ _ _ h.r.lit.2,m _ _ _ _ _ _ h.r.bk.2,m _ _ _ _ _ _ h.h.2,m _ _ _ _ _ _ h.o.2⟩
 · rw[h.o.1]
 have:=(show l9 (a0j wx R a b c d e) (R+1) Ar nr cr (cY t) from⟨h.o.1,l.own h.o.2 (g _ _ _ _ _ _ h.o.2)⟩).rd;rw[h.o.1]at this;exact this
theorem FP {w:World} {R:Nat} {a b c d e:Value} {tmps:Array Value} (g:Ar w R 5 (XF a b c d e)) (n:tmps[2]?.getD undef= .pointer (some ⟨R,0,none⟩)):
  (results Tryz.f91 tmps).run Tryz.prog w= .ok (.agg #[a,b,c,d,e]) w:=by
 have m:=g.cell (i:=0) ω;have l:=g.cell (i:=1) ω;have k:=g.cell (i:=2) ω;have j:=g.cell (i:=3) ω;have h:=g.cell (i:=4) ω;unfold XF at m l k j h;simp [results,Tryz.results91,go_sem,n,m,l,k,j,h]
structure GJ (w:World) (G b1 B:Nat) (t:List cu) (Al Ad Ah Ax:Option Addr) (cl cd ch cr:Nat):Prop where
 box:Ar w G 5 (XF (.slice Al (fJ t) cl) (.slice Ad (fT t) cd) (.slice Ah 19 ch) (.slice Ax (cY t).length cr) (.int .i64 ((po t:Nat):Int)))
 lit:bU .i64 w B Al (fJ t) (eY t)
 bk:bU .i64 w B Ad (fT t) (dm t)
 head:bU .i64 w B Ah 19 (cV t)
 runs:yt w B Ax (cY t).length (cY t)
 NA:Hi b1 Al/\Hi b1 Ad/\Hi b1 Ah/\Hi b1 Ax
 lo:b1<=G
 hi:G<B
section
variable {w w':World} {G b1 B:Nat} {t:List cu} {Al Ad Ah Ax:Option Addr} {cl cd ch cr:Nat}
theorem GJ.below {B':Nat} (h:GJ w G b1 B t Al Ad Ah Ax cl cd ch cr) (a:Below B' w w') (b:B<=B'):GJ w' G b1 B t Al Ad Ah Ax cl cd ch cr:=
 ⟨h.box.below a (aD h.hi b),h.lit.below (a.mono b),h.bk.below (a.mono b),h.head.below (a.mono b),h.runs.below (a.mono b),h.NA,h.lo,h.hi⟩
theorem GJ.fz {S:Nat->Prop} (h:GJ w G b1 B t Al Ad Ah Ax cl cd ch cr) (g:bj w w' S) (q:B<=w.heap.size) (j:∀k,S k->k<b1\/B<=k):GJ w' G b1 B t Al Ad Ah Ax cl cd ch cr:=by
 have d:∀(A:Option Addr) (n:Nat) (l:List Int),bU .i64 w B A n l->Hi b1 A->bU .i64 w' B A n l:=λA n l hl hA=>g.rA hl q λs c e a=>by
  have r:=hA c.block (by rw[e];rfl);obtain⟨u,b,o,_⟩ :=hl.2 s;rw[e]at b;injection b with b;subst b;rcases j _ a with h | h <;> omega
 refine⟨g.ar h.box λa=> ?_,d _ _ _ h.lit h.NA.1,d _ _ _ h.bk h.NA.2.1,d _ _ _ h.head h.NA.2.2.1, ⟨h.runs.1,λm=> ?_⟩,h.NA,h.lo,h.hi⟩
 · have:=h.lo;have:=h.hi;rcases j _ a with h | h <;> omega
 obtain⟨c,e,p,f⟩ :=h.runs.2 m;have r:=h.NA.2.2.2 c.block (by rw[e];rfl);exact⟨c,e,p,λi hi=>(g.cell (by rw[bH];omega) (by rw[bH];intro a;rcases j _ a with h | h <;> omega)).trans (f i hi)⟩
theorem GJ.cells (h:GJ w G b1 B t Al Ad Ah Ax cl cd ch cr):w.cell? ⟨G,0,none⟩ =some (.slice Al (fJ t) cl)/\w.cell? ⟨G,1,none⟩ =some (.slice Ad (fT t) cd)/\w.cell? ⟨G,2,none⟩ =some (.slice Ah 19 ch)/\w.cell? ⟨G,3,none⟩ =some (.slice Ax (cY t).length cr)/\w.cell? ⟨G,4,none⟩ =some (.int .i64 ((po t:Nat):Int)):=
 ⟨h.box.cell (i:=0) ω,h.box.cell (i:=1) ω,h.box.cell (i:=2) ω,h.box.cell (i:=3) ω,h.box.cell (i:=4) ω⟩
theorem GJ.new {a:World} {v:Value} {w:World} (h:zA a t (.returned v) w):∃Al Ad Ah Ax cl cd ch cr,v= .agg #[.slice Al (fJ t) cl, .slice Ad (fT t) cd, .slice Ah 19 ch, .slice Ax (cY t).length cr, .int .i64 ((po t:Nat):Int)]/\Below a.heap.size a w/\
  GJ (w.alloc (.cells #[.slice Al (fJ t) cl, .slice Ad (fT t) cd, .slice Ah 19 ch, .slice Ax (cY t).length cr, .int .i64 ((po t:Nat):Int)] 135)) w.heap.size a.heap.size (w.heap.size+1) t Al Ad Ah Ax cl cd ch cr:=by
 obtain⟨Al,cl,Ad,cd,Ah,ch,Ax,cr,e,i,g,f,h4,c,d⟩ :=h;injection e with e;have b:=(aw w.heap.size w).alloc (ag _) (.cells #[.slice Al (fJ t) cl, .slice Ad (fT t) cd, .slice Ah 19 ch, .slice Ax (cY t).length cr, .int .i64 ((po t:Nat):Int)] 135);exact⟨Al,Ad,Ah,Ax,cl,cd,ch,cr,e,c,FI w _ _ _ _ _ _,(i.below b).more (fu _),(g.below b).more (fu _),(f.below b).more (fu _),(h4.below b).more (fu _),d,c.size,iL _⟩
end
def sP (hd:List Int) (r:Rn):Int:=ix hd r.c.toNat+r.e
def jn (hd:List Int) (rs:List Rn):Int:=(rs.map (sP hd)).sum
def RZ (t:List cu):Int:=14+3*((po t:Nat):Int)+jn (cV t) (cY t)
theorem FV (hd:List Int) {rs:List Rn} {k:Nat} (h:k<rs.length):jn hd (rs.take (k+1))=jn hd (rs.take k)+sP hd (px rs k):=by rw[FT h];simp [jn]
theorem uN {hd:List Int} (a:∀i,i<19->0<=ix hd i/\ix hd i<=7):∀rs:List Rn,(∀r∈rs,yu r)->0<=jn hd rs/\jn hd rs<=14*rs.length
 | [],_=>by simp [jn]
 | r::rs,h=>by
   have f:=uN a rs λx d=>h x (aB _ d);have b:=h r az;have e:=a r.c.toNat (by have:=b.1;omega);have h4:=b.2.2.1;show 0<=sP hd r+jn hd rs/\sP hd r+jn hd rs<=_;unfold sP;rw[bc];omega
theorem vG (t:List cu):∀i,i<19->0<=ix (cV t) i/\ix (cV t) i<=7:=λi hi=>rV (kt t) i (by rw[mG];exact hi)
theorem Ws (w:World) (G b1 B:Nat) (t:List cu) (Al Ad Ah Ax:Option Addr) (cl cd ch cr:Nat) (hp:GJ w G b1 B t Al Ad Ah Ax cl cd ch cr) (ht:t.length<1048576) (U:B<=w.heap.size):
  Calls Tryz.prog 121 #[.pointer (some ⟨G,0,none⟩)] w λe w'=>e= .returned (.int .i64 (RZ t))/\Below w.heap.size w w':=by
 obtain⟨-, -, -,A,T⟩ :=hp.cells;have hN:=uI t;have D:=mH t;have d:=l7 ht;have J:=vG t;obtain⟨n,F⟩ :=ν (po t);obtain⟨rs,v⟩ :=ν (cY t);obtain⟨hd,z⟩ :=ν (cV t);obtain⟨nr,y⟩ :=ν (rs.length);have h:RZ t=14+3*(n:Int)+jn hd rs:=by rw[<-F,<-v,<-z];rfl
 rw[v]at D d A;rw[z]at J;rw[F]at hN T;rw[y]at D A;have XU:Hid (yt w B Ax nr rs):=by have:=hp.runs;rw[v,y]at this;exact this
 have R:Hid (bU .i64 w B Ah 19 hd):=by have:=hp.head;rw[z]at this;exact this
 have S:Hid (G<w.heap.size/\w.cell? ⟨G,2,none⟩ =some (.slice Ah 19 ch)):= ⟨hp.box.lt,hp.box.cell (i:=2) ω⟩;have b:=η (⟨U,d,J,y⟩ :_/\_/\_/\_);have JP:=η h;have xj:(4:Int)<=(n:Int)/\(n:Int)<=19/\(0:Int)<=(nr:Int)/\(nr:Int)<=316:=ω;clear hp hN D d J F v z y h U ht;go_enter Tryz.func121,Tryz.ntmps121
 go_wp2_with fail;clear A T;go_loopg [3,17] nr (λ(gk:Nat) (v3 v17:Value) wx=>∃(k:Nat) (s:Int),v3= .int .i64 s/\v17= .int .i64 k/\k<=nr/\Hid (s=14+3*(n:Int)+jn hd (rs.take k))/\Hid (Below w.heap.size w wx)/\Hid (gk=nr-k))
 case atStart=>exact⟨0,14+3*(n:Int),rfl,rfl,aF _,by show _=_;simp [jn],aw _ _,rfl⟩
 obtain⟨k,s,rfl,rfl,hk,u,f,hg⟩ :=hrel;by_cases a:k<nr
 rotate_left
 · obtain rfl:k=nr:=ω;have qh:¬(k:Int)<(k:Int):=ω;have g:rs.take k=rs:=ay (by rw[b.out.2.2.2];exact ag _);have HS:Hid (s=RZ t):=by have:=u.out;rw[g]at this;show _=_;rw[this,JP.out]
   clear a g u
   go_wp2_with fail;go_ret;exact⟨cn HS.out,f.out⟩
 have qh:(k:Int)<(nr:Int)/\(0:Int)<=(k:Int):=ω;have H:k<rs.length:=by rw[b.out.2.2.2];exact a
 obtain⟨q,hA,K,Q,P,O⟩ :=(XU.out.below (f.out.mono b.out.1)).Xk a;have d:=b.out.2.1 _ (Bv H);have g:=FV hd H;have kf:=uN b.out.2.2.1 (rs.take k) λr x=>b.out.2.1 r (aH x);have Z:(rs.take k).length<=k:=by rw[aA];exact eX _ _
 obtain⟨⟨C,V,E⟩,x⟩ :∃r,px rs k=r:= ⟨_,rfl⟩;rw[x]at Q P O d g;have o:0<=C/\C<=18:=d.1;have JZ:0<=E/\E<=7:=d.2.2.1;obtain⟨c,rfl⟩ :=aG o.1;replace Q:wr.cell? (q.add (k*3))=some (.int .i64 (c:Int)):=Q;replace P:wr.cell? { block:=(q.add (k*3)).block,off:=(q.add (k*3)).off+1 }=some (.int .i64 V):=P;replace O:wr.cell? { block:=(q.add (k*3)).block,off:=(q.add (k*3)).off+2 }=some (.int .i64 E):=O;have m:c<19:=ω;have JY:(0:Int)<=(c:Int)/\(c:Int)<19:=ω;obtain⟨ah,N,L,l⟩ :=(R.out.below (f.out.mono b.out.1)).at_ m
 have Zd:(wr.alloc (.cells #[.int .i64 (c:Int), .int .i64 V, .int .i64 E] 166)).cell? (ah.add c)=some (.int .i64 (ix hd c)):=by
  rw[dH _ _ _ (by rw[bH];have:=f.out.size;have:=b.out.1;omega)];exact l
 have ab:(wr.alloc (.cells #[.int .i64 (c:Int), .int .i64 V, .int .i64 E] 166)).cell? ⟨G,2,none⟩ =some (.slice Ah 19 ch):=by
  rw[dH _ _ _ (by have:=f.out.size;have:=S.out.1;show G<_;omega),f.out.cell (by have:=S.out.1;exact this)];exact S.out.2
 have I:=b.out.2.2.1 c m;obtain⟨X,M⟩ :=ν (ix hd c);rw[M]at Zd I;have j:sP hd ⟨(c:Int),V,E⟩ =X+E:=by show ix hd (Int.toNat (c:Int))+E=_;rw[aU,M]
 rw[j]at g;have HX:=η (show s+(X+E)=14+3*(n:Int)+jn hd (rs.take (k+1)) by rw[g,u.out];omega);have rJ:0<=s/\s<=10000:=by have:=u.out;omega
 have Y:0<=X+E/\X+E<=14:=ω;have p:=η (f.out.alloc f.out.size (.cells #[.int .i64 (c:Int), .int .i64 V, .int .i64 E] 166));have W:=η a;subst hA;subst N;clear K d g x o L l j M H a kf Z
 go_wp2_with fail;go_quiet (fail)
 go_wp2_with fail;go_roundg (nr-(k+1))
 case measure=>have:=hg.out;have:=W.out;omega
 case rel=>exact⟨k+1,s+(X+E),by go_num,by go_num,W.out,HX.out, ⟨p.out.os,p.out.tape,p.out.output,p.out.size,p.out.block⟩,rfl⟩
def vU (hd:List Int) (k:Nat):List Int:=(jB.take k).flatMap λ(o:Int)=>dv (ix hd o.toNat) 3
def Wh (hd:List Int) (r:Rn):List Int:=cN hd r.c.toNat++dv r.v r.e.toNat
def nR (hd:List Int) (rs:List Rn):List Int:=rs.flatMap (Wh hd)
def lS (t:List cu):List Int:=dv (((fJ t-257:Nat):Int)) 5++dv (((fT t-1:Nat):Int)) 5++dv (((po t-4:Nat):Int)) 4++vU (cV t) (po t)++nR (cV t) (cY t)
theorem DI (hd:List Int) {k:Nat} (h:k<19):vU hd (k+1)=vU hd k++dv (ix hd (ix jB k).toNat) 3:=by
 have hl:k<jB.length:=h;unfold vU;rw[aY hl,List.flatMap_append];have e:ix jB k=jB[k]:=by simp [ix,hl]
 rw[e];simp
theorem sK (hd:List Int):∀k,k<=19->(vU hd k).length=3*k
 | 0,_=>rfl
 | k+1,h=>by rw[DI hd ω,af,sK hd k ω,aP];omega
theorem QK (hd:List Int) {rs:List Rn} {k:Nat} (h:k<rs.length):nR hd (rs.take (k+1))=nR hd (rs.take k)++Wh hd (px rs k):=by rw[FT h];simp [nR]
theorem FU {hd:List Int} (a:∀i,i<hd.length->0<=ix hd i/\ix hd i<=15):∀rs:List Rn,(∀r∈rs,yu r)->(nR hd rs).length<=22*rs.length
 | [],_=>by simp [nR]
 | r::rs,h=>by
   have f:=FU a rs λx b=>h x (aB _ b);have d:=h r az;have e:=py a r.c.toNat;have h4:=d.2.2.1;show(Wh hd r++nR hd rs).length<=_;unfold Wh;rw[af,af,aP,bc];omega
theorem Mj (w:World) (b0 g n c:Nat) (A:Option Addr) (L:List Int) (hw:qf w b0 g A n c L) (G b1 B:Nat) (t:List cu) (Al Ad Ah Ax:Option Addr) (cl cd ch cr:Nat) (hp:GJ w G b1 B t Al Ad Ah Ax cl cd ch cr) (ht:t.length<1048576) (hB:B<=w.heap.size)
  (N:∀k,foot A g k->k<b1) (b:L.length<=3000000000000):
  Calls Tryz.prog 92 #[.pointer (some ⟨G,0,none⟩), .pointer (some ⟨g,0,none⟩)] w λe w'=>e= .returned (.tuple #[])/\kv w w' b0 g A (L++lS t):=by
 have O:=kH t;have kf:=lM t;have Cw:=uI t;obtain⟨V0,yC⟩ :=ν (fJ t-257);obtain⟨V1,al⟩ :=ν (fT t-1);obtain⟨V2,ac⟩ :=ν (po t-4);have hI:((fJ t:Nat):Int)-257=(V0:Int)/\((fT t:Nat):Int)-1=(V1:Int)/\((po t:Nat):Int)-4=(V2:Int):=ω;have F4:V0<=29/\V1<=29/\V2<=15:=ω;have HP:=η (⟨hp,hw,N,b,ht⟩ :_/\_/\_/\_/\_);have j:Hid (∀W,bj w W (foot A g)->GJ W G b1 B t Al Ad Ah Ax cl cd ch cr):=λW hc=>hp.fz hc hB λk d=> .inl (N k d);have Y:Hid (lS t=dv (V0:Int) 5++dv (V1:Int) 5++dv (V2:Int) 4++vU (cV t) (po t)++nR (cV t) (cY t)):=by show _=_;rw[<-yC,<-al,<-ac];rfl
 obtain⟨k0,k1,k2,k3,k4⟩ :=hp.cells;have Xg:=η (kv.start hw (aw _ w));obtain⟨nl,fX⟩ :=ν (fJ t);obtain⟨nd,AQ⟩ :=ν (fT t);obtain⟨nh,ZB⟩ :=ν (po t);obtain⟨nr,Z⟩ :=ν ((cY t).length);rw[fX,AQ,ZB]at hI;rw[fX]at k0;have cc:(257:Int)<=(nl:Int)/\(nl:Int)<=286/\(1:Int)<=(nd:Int)/\(nd:Int)<=30/\(4:Int)<=(nh:Int)/\(nh:Int)<=19:=ω;obtain⟨cj,ci,cg⟩ :=hI;have o:=η (⟨fX,AQ,ZB,Z,F4,hB⟩ :_/\_/\_/\_/\_/\_);have uW:=η (Xg.out.put (V0:Int) 5 ω ω ω);clear hp hw N O kf Cw yC al ac F4 k1 k2 k3 k4 fX AQ ZB Z b ht hB;go_enter Tryz.func92,Tryz.ntmps92
 go_wp2_with fail;refine uW.out.mono ?_;rintro e w1 ⟨rfl,h1⟩;have k1:=(j.out _ h1.fz).cells.2.1;rw[o.out.2.1]at k1;have Ev:=η (h1.put (V1:Int) 5 (by have:=o.out.2.2.2.2.1;omega) ω (by rw[af,aP];have:=HP.out.2.2.2.1;omega));clear h1 k0
 go_wp2_with fail;refine Ev.out.mono ?_;rintro e w2 ⟨rfl,h2⟩;have k4:=(j.out _ h2.fz).cells.2.2.2.2;rw[o.out.2.2.1]at k4;have bE:=η (h2.put (V2:Int) 4 (by have:=o.out.2.2.2.2.1;omega) ω (by rw[af,af,aP,aP];have:=HP.out.2.2.2.1;omega));clear h2 k1
 go_wp2_with fail;refine bE.out.mono ?_;rintro e f ⟨rfl,h3⟩;obtain⟨Q,gR⟩ :=ν (L++dv (V0:Int) 5++dv (V1:Int) 5++dv (V2:Int) 4);rw[gR]at h3
 have Si:Hid (Q.length<=3000000000014):=by
  show _<=_;rw[<-gR];simp only [List.length_append,aP];have:=HP.out.2.2.2.1;omega
 have MO:Hid (L++lS t=Q++vU (cV t) nh++nR (cV t) (cY t)):=by
  show _=_;rw[Y.out,<-gR,o.out.2.2.1];simp only [List.append_assoc]
 have be:=η (DJ f)
 have v:Hid (Ck w ((f.alloc (.cells kA 167)).alloc (.cells kA 167)) ((f.alloc (.cells kA 167)).alloc (.cells kA 167)) (f.heap.size+1) b0 g A Q):=by
  have y:=Ck.new (h3.alloc (.cells kA 167)) (.cells kA 167);have e9:(f.alloc (.cells kA 167)).heap.size=f.heap.size+1:=σ;rw[e9]at y;exact y
 have JP:Hid (f.heap.size+1=(f.alloc (.cells kA 167)).heap.size):=by show _=_;simp
 have T:Hid (rT ((f.alloc (.cells kA 167)).alloc (.cells kA 167)) (f.heap.size+1)):=by
  have y:=rT.new (f.alloc (.cells kA 167));rw[<-JP.out]at y;exact y
 have U:=(j.out _ v.out.fz).cells.2.2.2.2;rw[o.out.2.2.1]at U;clear gR h3 k4 Y Xg
 go_wp2_with fail;refine be.out.mono ?_;rintro e w4 ⟨rfl,rfl⟩
 go_wp2_with (refine uU rfl (.tmp 4) (.tmp 37) rfl rfl (f.heap.size+1) JP.out rfl rfl _ rfl ?_)
 clear U;obtain⟨go,M⟩ :=ν (f.heap.size+1);obtain⟨wk,D⟩ :=ν ((f.alloc (.cells kA 167)).alloc (.cells kA 167));rw[D,M]at v T;rw[D,M];clear D M JP be;clear f;obtain⟨hd,uu⟩ :=ν (cV t);have K3:Hid (∀i,i<19->0<=ix hd i/\ix hd i<=7):=λi hi=>by rw[<-uu];exact vG t i hi
 have x:=η uu;rw[uu]at MO;clear uu;go_loopg [44] nh (λ(gk:Nat) (v44:Value) wx=>∃k:Nat,v44= .int .i64 k/\k<=nh/\Hid (Ck w wk wx go b0 g A (Q++vU hd k))/\Hid (gk=nh-k))
 case atStart=>exact⟨0,rfl,aF _,by show Ck _ _ _ _ _ _ _ (Q++[]);rw[ax];exact v.out,rfl⟩
 clear v;obtain⟨k,rfl,d,m,hg⟩ :=hrel;by_cases a:k<nh
 · have qh:(k:Int)<(nh:Int)/\(0:Int)<=(k:Int):=ω;have I:k<19:=ω;have yJ:rT wr go:=m.out.kp.trans T.out;have RI:=FH k I;obtain⟨K,hK⟩ :=aG RI.1;have c1:=yJ.cell I;have YM:K<19:=ω;have H:=j.out _ m.out.fz;have c2:=H.cells.2.2.1;obtain⟨ah,bx,bt,c3⟩ :=H.head.at_ YM;rw[x.out]at c3;have PB:=K3.out K YM;have iX:=DI hd I;rw[hK,aU]at iX;rw[hK]at c1;obtain⟨X,hX⟩ :=ν (ix hd K);rw[hX]at c3 PB iX;have S:=η (m.out.put X 3 ω ω (by rw[af,sK hd k ω];have:=Si.out;omega));have pA:=η iX;have oX:=η a;have ce:(0:Int)<=(K:Int)/\(K:Int)<19:=ω;subst bx;clear yJ RI hK bt iX hX H m a
   go_wp2_with fail;refine S.out.mono ?_;rintro e l ⟨rfl,h5⟩;have H5:=η h5;clear h5 c1 c2 c3
   go_wp2_with fail;go_roundg (nh-(k+1))
   case measure=>have:=hg.out;have:=oX.out;omega
   case rel=>exact⟨k+1,by go_num,oX.out,by have h6:=H5.out;rw[ak,<-pA.out]at h6;exact h6,rfl⟩
 obtain rfl:k=nh:=ω;have qh:¬(k:Int)<(k:Int):=ω;have K7:=m.out.old;have H:=j.out _ K7.fz;have bv:B<=wr.heap.size:=au o.out.2.2.2.2.2 K7.fz.size;have c2:=H.cells.2.2.1;have J:=H.head;rw[x.out]at J;have tK:=kt t;rw[x.out]at tK;have bl:=η (o0 wr Ah 19 ch B hd 7 J bv ω tK);have R:=η K7;obtain⟨P,s⟩ :=ν (Q++vU hd k);have bI:Hid (P.length<=3000000000080/\Q++vU hd k=P):= ⟨by rw[<-s,af,sK hd k (by have:=HP.out;omega)];have:=Si.out;omega,s⟩;rw[s]at R MO;have Uu:Hid (∀i,i<hd.length->0<=ix hd i/\ix hd i<=15):=λi hi=>by have:=rV tK i hi;omega
 have bp:Hid (hd.length=19):=by show _=_;rw[<-x.out];exact mG t
 clear m K7 H J tK s a hg T
 go_wp2_with fail;refine bl.out.mono ?_;rintro e l ⟨gt,rfl,Dk,kY⟩;obtain⟨⟨A1,n1,c1,nO,wF⟩,q⟩ :=R.out;have Ip:GJ l G b1 B t Al Ad Ah Ax cl cd ch cr:=j.out _ (q.trans (S':=λ_=>False) (bj.bA kY) λk d=>d.elim);have an:B<=l.heap.size:=au o.out.2.2.2.2.2 (au q.size kY.size)
 have bB:Hid (∀W,bj l W (foot A1 g)->GJ W G b1 B t Al Ad Ah Ax cl cd ch cr):=λW hc=>Ip.fz hc an λk d=>by
  rcases d with d | d
  · exact .inl (HP.out.2.2.1 k (.inl d))
  rcases wF k d with h | h
  · exact .inl (HP.out.2.2.1 k (.inr h))
  exact .inr (au o.out.2.2.2.2.2 h)
 have ap:Hid (yv l wr.heap.size l.heap.size gt hd/\∀k,wr.heap.size<=k->k<l.heap.size->¬foot A1 g k):= ⟨Dk,λk h1 _ d=>by have:=(nO.eJ d).2;omega⟩;have aE:=η (show kv l l b0 g A1 P from⟨⟨A1,n1,c1,nO.keeps kY,λk d=> .inl d⟩,bj.refl _ _⟩);have bi:Hid (bj w l (foot A g)/\∀k,ai A1=some k->ai A=some k\/w.heap.size<=k):= ⟨q.trans (S':=λ_=>False) (bj.bA kY) λk d=>d.elim,wF⟩;have k3:=Ip.cells.2.2.2.1;rw[o.out.2.2.2.1]at k3;obtain⟨rs,tM⟩ :=ν (cY t);have su:=mH t;have p:=l7 HP.out.2.2.2.2;rw[tM]at su p MO;have Z:rs.length=nr:=by rw[<-tM];exact o.out.2.2.2.1
 have z:=η (⟨tM,Z,p,su⟩ :_/\_/\_/\_);have cb:(0:Int)<=(nr:Int)/\(nr:Int)<=316:=ω;clear Dk kY nO wF q Ip an tM Z p su c2 bl R j
 go_wp2_with fail;clear k3;go_loopg [72] nr (λ(gk:Nat) (v72:Value) wx=>∃k:Nat,v72= .int .i64 k/\k<=nr/\Hid (kv l wx b0 g A1 (P++nR hd (rs.take k)))/\Hid (gk=nr-k))
 case atStart=>exact⟨0,rfl,aF _,by show kv _ _ _ _ _ (P++[]);rw[ax];exact aE.out,rfl⟩
 clear aE
 rename World=>wz
 obtain⟨k,rfl,d,m,hg⟩ :=hrel;by_cases a:k<nr
 rotate_left
 · obtain rfl:k=nr:=ω;have qh:¬(k:Int)<(k:Int):=ω;have F:rs.take k=rs:=ay (by rw[z.out.2.1];exact ag _)
   have bX:Hid (kv w wz b0 g A (L++lS t)):=by
    have y:=m.out;rw[F]at y;obtain⟨⟨A2,n2,c2,q1,q2⟩,q3⟩ :=y;have ao:=kv.next bi.out.1 bi.out.2 q1 q3 q2
    rw[<-MO.out]at ao;exact ao
   clear a F m
   go_wp2_with fail;go_end0;exact⟨rfl,bX.out⟩
 have qh:(k:Int)<(nr:Int)/\(0:Int)<=(k:Int):=ω;have uv:k<rs.length:=by rw[z.out.2.1];exact a
 have Q8:=(bB.out _ m.out.fz).runs;rw[z.out.1,z.out.2.1]at Q8;obtain⟨ad,hA,O,a0,a1,a2⟩ :=Q8.Xk a;have p:=z.out.2.2.1 _ (Bv uv);have F:=QK hd uv;have bs:=FU Uu.out (rs.take k) λr hr=>z.out.2.2.1 r (aH hr);have AG:(rs.take k).length<=k:=by rw[aA];exact eX _ _
 obtain⟨⟨C,V,E⟩,hr⟩ :∃r,px rs k=r:= ⟨_,rfl⟩;rw[hr]at a0 a1 a2 p F;have ab:0<=C/\C<=18:=p.1;have bo:0<=V/\V<128:=p.2.1;have JZ:0<=E/\E<=7:=p.2.2.1;obtain⟨c,rfl⟩ :=aG ab.1;obtain⟨u,rfl⟩ :=aG JZ.1;replace a0:wz.cell? (ad.add (k*3))=some (.int .i64 (c:Int)):=a0;replace a1:wz.cell? { block:=(ad.add (k*3)).block,off:=(ad.add (k*3)).off+1 }=some (.int .i64 V):=a1;replace a2:wz.cell? { block:=(ad.add (k*3)).block,off:=(ad.add (k*3)).off+2 }=some (.int .i64 (u:Int)):=a2;have rq:Wh hd ⟨(c:Int),V,(u:Int)⟩ =cN hd c++dv V u:=rfl;rw[rq]at F;have am:=Ck.new m.out (.cells #[.int .i64 (c:Int), .int .i64 V, .int .i64 (u:Int)] 166);have um:=Od wz ⟨(c:Int),V,(u:Int)⟩ 166;have b:(P++nR hd (rs.take k)).length<=3000000010000:=by rw[af];have:=bI.out.1;have:=z.out.2.2.2;have:=z.out.2.1;omega
 have oC:=py Uu.out c;have HY:=η (am.sym ap.out.1 (ag _) ap.out.2 c (by rw[bp.out];omega) Uu.out ω);have pA:=η F;have HLEN:=η (⟨b,oC⟩ :_/\_);have Rf:=η um;have oX:=η a;have ca:(0:Int)<=(c:Int)/\(c:Int)<=18/\0<=V/\V<128/\(0:Int)<=(u:Int)/\(u:Int)<=7:=ω;subst hA;clear uv Q8 O p F bs AG hr ab bo JZ rq am um b oC m a
 go_wp2_with fail;refine HY.out.mono ?_;rintro e w6 ⟨⟨b6,rfl⟩,h6⟩;have d1:w6.cell? ⟨wz.heap.size,1,none⟩ =some (.int .i64 V):=h6.cell Rf.out (i:=1) ω;have d2:w6.cell? ⟨wz.heap.size,2,none⟩ =some (.int .i64 (u:Int)):=h6.cell Rf.out (i:=2) ω;have S:=η (h6.put V u ω ω (by rw[af];have:=HLEN.out;omega));clear h6 a0 a1 a2
 go_wp2_with fail;refine S.out.mono ?_;rintro e w7 ⟨rfl,h7⟩
 have H7:=η (show kv l w7 b0 g A1 (P++nR hd (rs.take (k+1))) from by
  have h8:=h7.old;rw[pA.out]
  simpa [List.append_assoc] using h8)
 clear h7 d1 d2
 go_wp2_with fail;go_roundg (nr-(k+1))
 case measure=>have:=hg.out;have:=oX.out;omega
 case rel=>exact⟨k+1,by go_num,oX.out,H7.out,rfl⟩
structure Kg (t t':IS):Prop where
 last:t'.last=t.last
 all:t'.all=t.all
 rem:t'.rem=t.rem
 kinds:t'.kinds=t.kinds
 stops:t'.stops=t.stops
 aj:t'.aj=t.aj
theorem Kg.rfl' (t:IS):Kg t t:= ⟨rfl,rfl,rfl,rfl,rfl,rfl⟩
theorem Kg.trans {a b c:IS} (h:Kg a b) (h':Kg b c):Kg a c:= ⟨h'.1.trans h.1,h'.2.trans h.2,h'.3.trans h.3,h'.4.trans h.4,h'.5.trans h.5,h'.6.trans h.6⟩
section
variable {t:IS} {y hd:List Int}
theorem a3Y {a b c:Nat} (i:a<32) (h:b<32) (g:c<16) (z:List Int):num (dv (a:Int) 5++(dv (b:Int) 5++(dv (c:Int) 4++z))) 14=a+32*(b+32*c):=by
 have e:dv (a:Int) 5++(dv (b:Int) 5++(dv (c:Int) 4++z))=(dv (a:Int) 5++(dv (b:Int) 5++dv (c:Int) 4))++z:=by simp only [List.append_assoc]
 rw[e,sJ (by simp only [List.length_append,aP]),iZ,iZ,aP,aP,gH,gH,gH];have d:(2:Int) ^ 5=32:=δ;have f:(2:Int) ^ 4=16:=δ;rw[d,f];omega
theorem Mq {a b c:Nat} (d:t.st=3) (f:t.x=dv (a:Int) 5++(dv (b:Int) 5++(dv (c:Int) 4++y))) (j:a<=29) (i:b<=29) (h:c<16):
  t.step=({ t with x:=y,c0:=a+257,c1:=b+1,c2:=c+4,lens:=[],st:=4 },0):=by
 unfold IS.step;rw[aa ω,aa ω,aa ω,ae d];unfold IS.sizes;have g:=a3Y (show a<32 by omega) (show b<32 by omega) h y
 have hd:(dv (a:Int) 5++(dv (b:Int) 5++(dv (c:Int) 4++y))).drop 14=y:=by
  have e:dv (a:Int) 5++(dv (b:Int) 5++(dv (c:Int) 4++y))=(dv (a:Int) 5++(dv (b:Int) 5++dv (c:Int) 4))++y:=by simp only [List.append_assoc]
  rw[e,lL (by simp only [List.length_append,aP])]
 rw[f,g,hd,aa (by simp only [List.length_append,aP];omega),aa ω,show(a+32*(b+32*c))%32=a by omega,show(a+32*(b+32*c))/32%32=b by omega,show(a+32*(b+32*c))/1024=c by omega]
def sL (hd:List Int) (k:Nat):List Int:=(jB.take k).map λo=>ix hd o.toNat
theorem vV (hd:List Int) {k:Nat} (h:k<=19):(sL hd k).length=k:=by
 unfold sL;rw[i6,aA];show min k 19=k;omega
theorem Qs (hd:List Int) {k:Nat} (h:k<19):sL hd (k+1)=sL hd k++[ix hd (ix jB k).toNat]:=by
 have hl:k<jB.length:=h;unfold sL;rw[aY hl,dt];have e:ix jB k=jB[k]:=by simp [ix,hl]
 rw[e];rfl
theorem Mb (hd:List Int) {k n:Nat} (b:k<n) (a:n<=19):(jB.take n).drop k=ix jB k::(jB.take n).drop (k+1):=by
 have hl:k<(jB.take n).length:=by rw[aA];show k<min n 19;omega
 rw[bT hl];congr 1;have:k<jB.length:=by show k<19;omega
 simp [ix,this]
def Bf (hd:List Int) (k n:Nat):List Int:=((jB.take n).drop k).flatMap λ(o:Int)=>dv (ix hd o.toNat) 3
theorem Qr (hd:List Int) (n:Nat):Bf hd 0 n=vU hd n:=rfl
theorem Qq (hd:List Int) {k n:Nat} (b:k<n) (a:n<=19):Bf hd k n=dv (ix hd (ix jB k).toNat) 3++Bf hd (k+1) n:=by
 unfold Bf;rw[Mb hd b a];rfl
theorem VQ (hd:List Int) (n:Nat) (a:n<=19):Bf hd n n=[]:=by
 unfold Bf;rw[dM (by rw[aA];show min n 19<=n;omega)];rfl
theorem xZ {n:Nat} (b:n<=19) (d:∀i,i<19->0<=ix hd i/\ix hd i<=7):∀(j k:Nat) (t:IS),j=n-k->k<=n->t.st=4->t.c2=n->t.lens=sL hd k->t.x=Bf hd k n++y->
  ∃a,IS.Steps t a/\Kg t a/\a.st=4/\a.c2=n/\a.lens=sL hd n/\a.x=y/\a.c0=t.c0/\a.c1=t.c1
 | 0,k,t,hj,hk,hst,hc,hl,hx=>by
   obtain rfl:k=n:=ω;rw[VQ hd k b,aT]at hx;exact⟨t, .refl t,Kg.rfl' t,hst,hc,hl,hx,rfl,rfl⟩
 | j+1,k,t,hj,hk,hst,hc,hl,hx=>by
   have c:k<n:=ω;rw[Qq hd c b,ak]at hx;have m:=FH k ω;have g:=d (ix jB k).toNat ω;obtain⟨v,hv⟩ :=aG g.1
   have f:num t.x 3=v:=by
    rw[hx,sJ (aP _ _),gH,hv];have l:(2:Int) ^ 3=8:=δ;rw[l];omega
   have e:t.step=({ t with x:=Bf hd (k+1) n++y,lens:=sL hd (k+1) },0):=by
    unfold IS.step;rw[aa ω,aa ω,aa ω,aa ω,ae hst];unfold IS.heads;rw[hl,vV hd ω,hc,ae c,aa (by rw[hx,af,aP];omega),f,hx,lL (aP _ _),Qs hd ω,hv]
   have s1:=IS.Steps.one (s:=t) (by rw[e]);rw[e]at s1;obtain⟨a,s2,h,r⟩ :=xZ b d j (k+1) { t with x:=Bf hd (k+1) n++y,lens:=sL hd (k+1) } ω ω hst hc rfl rfl;exact⟨a,s1.trans s2,(show Kg t { t with x:=Bf hd (k+1) n++y,lens:=sL hd (k+1) } from⟨rfl,rfl,rfl,rfl,rfl,rfl⟩).trans h,r⟩
theorem Nv:∀s,s<19->ll.idxOf s<19/\(ix jB (ll.idxOf s)).toNat=s:=by decide+kernel
theorem TM {n:Nat} (j:n<=19) (b:hd.length=19) (hz:∀i,n<=i->i<19->ix hd (ix jB i).toNat=0):iD (sL hd n)=hd:=by
 refine O9 (by unfold iD;rw[i6,List.length_range,b]) λs c=> ?_;have a:s<19:=by unfold iD at c;rw[i6,List.length_range]at c;exact c
 unfold iD;rw[LM _ a];obtain⟨f,d⟩ :=Nv s a;by_cases h:ll.idxOf s<n
 · have k:∀(L:List Int) (g:Int->Int) (i:Nat),i<L.length->ix (L.map g) i=g (ix L i):=λL g i hi=>by simp [ix,hi]
   unfold sL;rw[k _ _ _ (by rw[aA];show _<min n 19;omega),kD h,d]
 have e:ix (sL hd n) (ll.idxOf s)=0:=by
  unfold ix;rw[aq,br (by rw[vV hd j];omega)];rfl
 rw[e,<-hz _ ω f,d]
theorem PK (a:t.st=4) (d:t.lens.length=t.c2) (hA:iD t.lens=hd) (c:bb hd 7=0) (b:gQ t.lens=false):t.step=({ t with hd:=hd,lens:=[],st:=5 },0):=by
 unfold IS.step;rw[aa ω,aa ω,aa ω,aa ω,ae a];unfold IS.heads;rw[aa ω,hA,aa (by rw[c,b];simp)]
theorem Wm {r:Rn} {d:List Int} (l:t.st=5) (B:t.hd=hd) (K:bb hd 7=0) (j:t.lens=d) (I:t.x=Wh hd r++y) (J:yu r) (D:r.c=16->0<d.length) (e:1<=ix hd r.c.toNat) (n:d.length<t.c0+t.c1) (f:(lj d r).length<=t.c0+t.c1):
  t.step=({ t with x:=y,lens:=lj d r },0):=by
 obtain⟨C,V,E⟩ :=r;obtain⟨z,w,F,u,s,q,p,o⟩ :=J;dsimp only at z w F u s q p o D e;obtain⟨c,rfl⟩ :=aG z.1;obtain⟨v,rfl⟩ :=aG w.1;rw[aU]at e;have k:t.x=cN hd c++(dv (v:Int) E.toNat++y):=by rw[I];unfold Wh;rw[ak];rfl
 obtain⟨H,G⟩ :=LV K e (dv (v:Int) E.toNat++y);unfold IS.step;rw[aa ω,aa ω,aa ω,aa ω,aa ω,ae l];unfold IS.lengths;rw[j,ae n];unfold IS.length;rw[B,k,H];simp only;rw[aa δ,G];by_cases i:(c:Int)<16
 · obtain⟨rfl,rfl⟩ :v=0/\E=0:=by obtain⟨a,b⟩ :=s ω;exact⟨ω,b⟩
   rw[ae i,j];unfold lj;rw[ae i];rfl
 have A:IS.rW (c:Int)=E.toNat:=by
  unfold IS.rW;obtain h | h | h:(c:Int)=16\/(c:Int)=17\/(c:Int)=18:=ω
  · rw[aa ω,aa ω,q h];rfl
  · rw[ae h,p h];rfl
  rw[aa ω,ae h,o h];rfl
 have m:num (dv (v:Int) E.toNat++y) E.toNat=v:=by
  rw[sJ (aP _ _),gH,bn ω u];rfl
 have g:lj d ⟨(c:Int),(v:Int),E⟩ =d++List.replicate (IS.rB (c:Int)+v) (if(c:Int)=16 then ix d (d.length-1)else 0):=by
  unfold lj;rw[aa i];simp only [Int.toNat_natCast]
 rw[g]at f⊢;rw[af,aQ]at f;rw[aa i,j,aa (by rintro⟨L,M⟩;have:=D L;omega),A,aa (by rw[af,aP];omega)];unfold IS.ku;rw[A,m,j,aa ω,lL (aP _ _),B]
theorem Nb (a:List Int) {r:Rn} (h:yu r):a.length<(lj a r).length:=by
 unfold lj;split
 · simp
 rw[af,aQ];unfold IS.rB;split <;> omega
theorem Yt (rs:List Rn):∀a:List Int,okR a rs->a.length<=(rs.foldl lj a).length:=by
 induction rs with
 | nil=>intro a _;exact ag _
 | cons r rs b=>
   intro a h;have:=b (lj a r) h.2.2;have:=Nb a h.1;rw[gZ];omega
theorem Bz (g:bb hd 7=0):∀(rs:List Rn) (t:IS) (acc:List Int),t.st=5->t.hd=hd->t.lens=acc->t.x=nR hd rs++y->okR acc rs->(∀r∈rs,1<=ix hd r.c.toNat)->(rs.foldl lj acc).length=t.c0+t.c1->
  ∃a,IS.Steps t a/\Kg t a/\a.st=5/\a.lens=rs.foldl lj acc/\a.x=y/\a.c0=t.c0/\a.c1=t.c1
 | [],t,acc,hst,uu,Cv,hx,_,_,_=> ⟨t, .refl t,Kg.rfl' t,hst,Cv,by rw[hx];rfl,rfl,rfl⟩
 | r::rs,t,acc,hst,uu,Cv,hx,kB,hs,hlen=>by
   obtain⟨f,i,d⟩ :=kB
   have b:t.x=Wh hd r++(nR hd rs++y):=by
    rw[hx];show(Wh hd r++nR hd rs)++y=_;rw[ak]
   rw[gZ]at hlen;have l:=Yt rs (lj acc r) d;have k:=Nb acc f;have e:=Wm hst uu g Cv b f i (hs r az) ω ω;have s1:=IS.Steps.one (s:=t) (by rw[e]);rw[e]at s1;obtain⟨a,s2,q2,h⟩ :=Bz g rs { t with x:=nR hd rs++y,lens:=lj acc r } (lj acc r) hst uu rfl rfl d (λr j=>hs r (aB _ j)) hlen;exact⟨a,s1.trans s2,(show Kg t { t with x:=nR hd rs++y,lens:=lj acc r } from⟨rfl,rfl,rfl,rfl,rfl,rfl⟩).trans q2,h⟩
theorem W4 {l d:List Int} (a:t.st=5) (hl:t.lens=l++d) (g:t.c0=l.length) (f:t.c1=d.length) (c:bb l 15=0) (e:bb d 15=0) (b:1<=ix l 256):t.step=({ t with lt:=l,ds:=d,st:=6 },0):=by
 unfold IS.step;rw[aa ω,aa ω,aa ω,aa ω,aa ω,ae a];unfold IS.lengths;have j:(l++d).take l.length=l:=gy;have i:(l++d).drop l.length=d:=gv;have h:ix (l++d) 256=ix l 256:=by rw[dn,ae (G3 b)]
 rw[hl,g,f,aa (by rw[af];omega),j,i,h,c,e,aa ω]
end
end Go.Proofs.YtdhmnlpfhfmpfaaGreat
