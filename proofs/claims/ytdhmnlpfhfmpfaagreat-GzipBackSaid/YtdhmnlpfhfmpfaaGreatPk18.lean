/-
  part
-/
import Derived.Test.YtdhmnlpfhfmpfaaGreatArr
import Derived.Test.YtdhmnlpfhfmpfaaGreatFrqW
import Derived.Test.YtdhmnlpfhfmpfaaGreatPk15
import Derived.Test.YtdhmnlpfhfmpfaaGreatPk17
import Derived.Test.YtdhmnlpfhfmpfaaGreatRunV
set_option linter.unusedVariables false
set_option maxRecDepth 100000
set_option maxHeartbeats 8000000
namespace Go.Proofs.YtdhmnlpfhfmpfaaGreat
open Go.RowKit
def kL:Array Value:=(jF.map (Value.int .i64)).toArray
theorem a0I:∀i,i<19->kL[i]?=some (.int .i64 (ix jF i)):=by
 intro i hi;unfold kL;simp [ix,jF];rcases i with _ | _ | _ | _ | _ | _ | _ | _ | _ | _ | _ | _ | _ | _ | _ | _ | _ | _ | _ | i <;> first | rfl | omega
theorem FN:∀i,i<19->0<=ix jF i/\ix jF i<=18:=δ
theorem DO (w:World):Calls Tryz.prog 118 #[] w λe w'=>e= .returned (.agg kL)/\w'=w.alloc (.cells kL 167):=by
 go_enter Tryz.func118,Tryz.ntmps118;go_upto_region 1 with fail
 refine wp_region_list ?_;refine wpList_buildFlatArrTo rfl 167 3 19 _ rfl .i64 jF (some 1) rfl Tryz.underlying167 (by kernel_rfl) (by kernel_rfl) rfl ?_;refine wpList_store_rowTo rfl 167 (.tmp 0) (.tmp 1) rfl rfl w.heap.size kL rfl rfl 167 _ (dt w _) (by kernel_rfl) rfl (by simp [kL,jF,Value.oneCell']) ?_;rw[World.setRow_alloc_new]
 go_wp2_with ((with_reducible (show bodyPost _ _ _ _ _ _));exact bj (results_cell_row rfl _ _ w.heap.size _ kL _ _ rfl (dt w _) Tryz.underlying167 rfl (by kernel_rfl)) rfl ⟨rfl,rfl⟩)
theorem JV {l:aj} {few n:Nat} (h:few<n+1/\ix l n=0):ly l few (n+1)=ly l few n:=af h
theorem C5 {l:aj} {few n:Nat} (h:¬(few<n+1/\ix l n=0)):ly l few (n+1)=n+1:=aa h
theorem zX:(Tryz.prog.info? 3).map (λi=>(i.zero,i.size,i.bytes))=some (some (.int .i64 0),1,8):=by kernel_rfl
theorem yK (w:World) (A:ay) (n c B few:Nat) (l:aj) (hl:bT .i64 w B A n l) (C:n<=1000) (F:n<=c) (hf:few<=1000):
  Calls Tryz.prog 116 #[.slice A n c, .int .i64 few] w λe w'=>e= .returned (.slice A (ly l few n) c)/\w=w':=by
 obtain⟨y,hi,k,a,g⟩ :=aL zX;have r:Hid (∀(j:Nat),j<=c->(Instr.slice 63 (.slice A n c) none (some (.int .i64 (j:Int))) none).run Tryz.prog w= .ok (.slice A j c) w):=λj u=>dQ (P:=Tryz.prog) 63 3 Tryz.underlying63 hi a A n c u w;have x:=η hl;have z:(0:Int)<=(n:Int)/\(n:Int)<=1000/\(0:Int)<=(few:Int)/\(few:Int)<=1000:=ω;clear hi k a g hl;go_enter Tryz.func116,Tryz.ntmps116
 go_wp2_with fail;go_loopg [5] n (λ(gk:Nat) (v5:Value) wx=>v5= .int .i64 gk/\wx=w/\gk<=n/\Hid (ly l few gk=ly l few n))
 case atStart=>exact⟨rfl,rfl,ai _,rfl⟩
 obtain⟨rfl,s,E,ht⟩ :=hrel;obtain rfl:=s.symm;have D:(0:Int)<=(gk:Int)/\(gk:Int)<=(n:Int):=ω;by_cases o:few<gk
 rotate_left
 · have t:¬(few:Int)<(gk:Int):=ω;have f:=η ((Em (l:=l) (show gk<=few by omega)).symm.trans ht.out);have m:=r.out gk ω;clear ht
   go_wp2_with fail;go_ret;exact⟨by rw[<-f.out];rfl,rfl⟩
 obtain⟨q,rfl⟩ :∃q,gk=q+1:= ⟨gk-1,ω⟩;have t:(few:Int)<(q:Int)+1:=ω;obtain⟨G,hA, -,p⟩ :=x.out.at_ (i:=q) ω;obtain⟨X,b⟩ :=ν (ix l q);rw[b]at p;subst hA;by_cases d:X=0
 · have f:=η ((JV ⟨o,by rw[b];exact d⟩).symm.trans ht.out);subst d;clear b ht
   go_wp2_with fail;go_roundg q
   case measure=>omega
   case rel=>exact⟨by go_num,rfl,ω,f.out⟩
 have f:=η ((C5 (by rw[b];exact λh=>d h.2)).symm.trans ht.out);have v:(X==0)=false:=by simpa using d
 have m:=r.out (q+1) ω;clear b ht d
 go_wp2_with fail;go_ret;exact⟨by rw[<-f.out];rfl,rfl⟩
def CR (L:aj) (raw:aj):aj:=qI L++dw raw.length 16++dw (4294967295-(raw.length:Int)) 16++gK raw
theorem Mo (L:aj) (a b:Int):qI (qI L++dw a 16++dw b 16)=qI L++dw a 16++dw b 16:=
 I2 (by rw[ag,ag,aR,aR];have:=pS L;omega)
theorem a2x (V:Nat) (h:V<4294967296):bits .xor .u32 IntKind.u32.max (V:Int)=4294967295-(V:Int):=by
 show IntKind.u32.wrap ((BitVec.ofInt 32 IntKind.u32.max ^^^ BitVec.ofInt 32 (V:Int)).toNat:Int)=_;have e:BitVec.ofInt 32 IntKind.u32.max=BitVec.allOnes 32:=δ;rw[e,BitVec.allOnes_xor,BitVec.toNat_not,ofInt_u32 V h,IntKind.wrap_u32'];omega
theorem MN (w:World) (b0 g n c B m d:Nat) (A C:ay) (L raw:aj) (s:qw w b0 g A n c L) (j:bT .u8 w B C m raw) (o:B<=w.heap.size) (i:0<m->∀p,C=some p->¬foot A g p.block) (b:∀x∈raw,0<=x/\x<256) (a:L.length<=3000000000000) (hm:m<=65535):
  Calls Tryz.prog 88 #[.pointer (some ⟨g,0,none⟩), .slice C m d] w λe w'=>e= .returned (.tuple #[])/\kH w w' b0 g A (CR L raw):=by
 have Fj:(0:Int)<=(m:Int)/\(m:Int)<=65535:=ω;have y:(qI L).length<=L.length+7:=by rw[mF];omega
 have H:=j.1;have M:=η (a2x m ω);have N:=η (show qI (qI L++dw (m:Int) 16++dw (4294967295-(m:Int)) 16)++gK raw=CR L raw by rw[Mo];unfold CR;rw[<-H]);have F:=η (⟨s,j,o,i,b,a,y⟩ :_/\_/\_/\_/\_/\_/\_);have HA:=η (rA w b0 g n c A L s ω);clear s j o i b a y H;go_enter Tryz.func88,Tryz.ntmps88
 go_wp2_with fail;refine HA.out.mono ?_;rintro e w1 ⟨A1,n1,c1,rfl,G,t,wV⟩;have X:=η (kH.next (bk.refl w (foot A g)) (λk l=> .inl l) G t wV);have Z:=η (X.out.put (m:Int) 16 ω ω (τ F.out));clear G t wV
 go_wp2_with fail;refine Z.out.mono ?_;rintro e w2 ⟨rfl,K⟩;obtain⟨V,J⟩ :=ν (4294967295-(m:Int));have T:0<=V/\V<4294967296:=ω;rw[J]at M N;have Y:=η (K.put V 16 T ω (by rw[ag,aR];have:=F.out;omega));have Q:bits .xor .u32 (if IntKind.u32.signed=true then -1 else IntKind.u32.max) (m:Int)=V:=M.out;clear K J
 go_wp2_with fail;refine Y.out.mono ?_;rintro e O ⟨rfl,U⟩;obtain⟨s,j,o,i,b,a,y⟩ :=F.out;obtain⟨⟨A3,P,W,r,wW⟩,f⟩ :=U
 have u:=η (Gm O b0 g P W B m d A3 C _ raw r (f.ri j o i) (aw o f.size) (λE p e l=>by
  have S:p.block<w.heap.size:=by
   obtain⟨Cw,z,D,_⟩ :=j.2 E;rw[e]at z;injection z with z;rw[z];exact aB D o
  rcases l with l | l
  · exact i E p e (.inl l)
  rcases wW _ l with h | h
  · exact i E p e (.inr h)
  omega) b (by rw[ag,ag,aR,aR];omega) ω)
 rw[N.out]at u;have v:=η (⟨wW,f⟩ :_/\_);clear s j o i b a y r wW f Q
 go_wp2_with fail;refine u.out.mono ?_;rintro e w4 ⟨A4,n4,c4,rfl,q,I,Ck⟩;have R:=η (kH.next v.out.2 v.out.1 q I Ck);clear q I Ck
 go_wp2_with fail;go_end0;exact⟨rfl,R.out⟩
def Yk (a b c d e:Value):Nat->Value
 | 0=>a
 | 1=>b
 | 2=>c
 | 3=>d
 | _=>e
def zi:Value:= .slice none 0 0
theorem FO (w:World) (a b c d e:Value) (t:TypeId):Ar (w.alloc (.cells #[a,b,c,d,e] t)) w.heap.size 5 (Yk a b c d e):=
 Ar.new w _ t rfl λi hi=>by
  obtain rfl | rfl | rfl | rfl | rfl:i=0\/i=1\/i=2\/i=3\/i=4:=ω;all_goals rfl
structure oH (w wx:World) (R P:Nat) (a b c d e:Value):Prop where
 res:Ar wx R 5 (Yk zi zi zi zi (.int .i64 0))
 box:Ar wx P 5 (Yk a b c d e)
 vE:Below w.heap.size w wx
 Rh:w.heap.size<=R
 Km:R<P
section
variable {w wx w':World} {R P:Nat} {a b c d e:Value}
theorem oH.drew (h:oH w wx R P a b c d e):oH w wx.drew R P a b c d e:= ⟨h.res,h.box, ⟨h.vE.os,h.vE.tape,h.vE.output,h.vE.size,h.vE.block⟩,h.Rh,h.Km⟩
theorem oH.alloc (h:oH w wx R P a b c d e) (o:Obj):oH w (wx.alloc o) R P a b c d e:= ⟨h.res.alloc o,h.box.alloc o,h.vE.alloc h.vE.size o,h.Rh,h.Km⟩
theorem oH.keeps (h:oH w wx R P a b c d e) (f:Below wx.heap.size wx w'):oH w w' R P a b c d e:= ⟨h.res.keeps f,h.box.keeps f,h.vE.trans (f.mono h.vE.size),h.Rh,h.Km⟩
theorem oH.far (h:oH w wx R P a b c d e) {p:Addr} (g:R≠p.block) (i:P≠p.block) (f:w.heap.size<=p.block) (v:Value):oH w (wx.setCell p v) R P a b c d e:= ⟨h.res.far g v,h.box.far i v,h.vE.setCell f v,h.Rh,h.Km⟩
theorem oH.ne (h:oH w wx R P a b c d e):R≠P:=by have:=h.Km;omega
theorem oH.lo (h:oH w wx R P a b c d e):w.heap.size<=P:=by have:=h.Km;have:=h.Rh;omega
theorem oH.put (h:oH w wx R P a b c d e) {i:Nat} (hi:i<5) (v:Value) {a' k c' g f:Value} (hf:∀j,j<5->upd (Yk a b c d e) i v j=Yk a' k c' g f j):oH w (wx.setCell ⟨P,i,none⟩ v) R P a' k c' g f:=
 ⟨h.res.far (p:= ⟨P,i,none⟩) h.ne v,(h.box.bK hi v).congr hf,h.vE.setCell (p:= ⟨P,i,none⟩) h.lo v,h.Rh,h.Km⟩
theorem oH.a4I (h:oH w wx R P a b c d e) (v:Value):oH w (wx.setCell ⟨P,0,none⟩ v) R P v b c d e:=h.put ω v λj f=>by
 obtain rfl | rfl | rfl | rfl | rfl:j=0\/j=1\/j=2\/j=3\/j=4:=ω;all_goals rfl
theorem oH.a4J (h:oH w wx R P a b c d e) (v:Value):oH w (wx.setCell ⟨P,1,none⟩ v) R P a v c d e:=h.put ω v λj f=>by
 obtain rfl | rfl | rfl | rfl | rfl:j=0\/j=1\/j=2\/j=3\/j=4:=ω;all_goals rfl
theorem oH.b1d (h:oH w wx R P a b c d e) (v:Value):oH w (wx.setCell ⟨P,2,none⟩ v) R P a b v d e:=h.put ω v λj f=>by
 obtain rfl | rfl | rfl | rfl | rfl:j=0\/j=1\/j=2\/j=3\/j=4:=ω;all_goals rfl
theorem oH.b1e (h:oH w wx R P a b c d e) (v:Value):oH w (wx.setCell ⟨P,3,none⟩ v) R P a b c v e:=h.put ω v λj f=>by
 obtain rfl | rfl | rfl | rfl | rfl:j=0\/j=1\/j=2\/j=3\/j=4:=ω;all_goals rfl
theorem oH.a0L (h:oH w wx R P a b c d e) (v:Value):oH w (wx.setCell ⟨P,4,none⟩ v) R P a b c d v:=h.put ω v λj f=>by
 obtain rfl | rfl | rfl | rfl | rfl:j=0\/j=1\/j=2\/j=3\/j=4:=ω;all_goals rfl
theorem oH.cells (h:oH w wx R P a b c d e):(wx.cell? ⟨P,0,none⟩ =some a/\wx.cell? ⟨P,1,none⟩ =some b/\wx.cell? ⟨P,2,none⟩ =some c/\wx.cell? ⟨P,3,none⟩ =some d/\wx.cell? ⟨P,4,none⟩ =some e)/\∀i,i<5->wx.frozen? ⟨P,i,none⟩ =false:=
 ⟨⟨h.box.cell (i:=0) ω,h.box.cell (i:=1) ω,h.box.cell (i:=2) ω,h.box.cell (i:=3) ω,h.box.cell (i:=4) ω⟩,λi hi=>h.box.frozen' hi⟩
end
theorem Own.pre {w:World} {b0:Nat} {e:TypeId} {k n c:Nat} {A:ay} {f:Nat->Value} (h:Own w b0 e k A n c f) {j:Nat} (m:j<=n):Own w b0 e k A j c f:=by
 rcases h with ⟨b,l,a⟩ | ⟨g,d,b,l,a,h4,h5,h6,h7⟩
 · exact .inl ⟨b,ω,a⟩
 exact .inr ⟨g,d,b,l,a,ω,h5,h6,λi hi=>h7 i (aB hi (eZ _ m))⟩
theorem ba.pre {k:IntKind} {w:World} {b0:Nat} {e:TypeId} {n c:Nat} {A:ay} {l:aj} (h:ba k w b0 e A n c l) {j:Nat} (a:j<=n):ba k w b0 e A j c (l.take j):=
 ⟨by rw[aD,<-h.1];omega,(h.2.pre a).congr λi hi=>by rw[kQ ω]⟩
theorem ba.cap {k:IntKind} {w:World} {b0:Nat} {e:TypeId} {n c:Nat} {A:ay} {l:aj} (h:ba k w b0 e A n c l):n<=c:=by
 rcases h.2 with ⟨d,b,a⟩ | ⟨g,f,d,b,a,h4,h5,h6,h7⟩
 · omega
 exact h4
structure xh (b:Nat) (wx:World) (P:Nat) (Al Ad:ay) (nl cl nd cd:Nat) (l d:aj):Prop where
 lit:ba .i64 wx b 3 Al nl cl l
 bm:ba .i64 wx b 3 Ad nd cd d
 lp:ak Al≠some P
 dp:ak Ad≠some P
 ld:∀k,ak Al=some k->ak Ad≠some k
section
variable {b:Nat} {wx w':World} {P:Nat} {Al Ad:ay} {nl cl nd cd:Nat} {l d:aj}
theorem xh.drew (h:xh b wx P Al Ad nl cl nd cd l d):xh b wx.drew P Al Ad nl cl nd cd l d:= ⟨h.lit,h.bm,h.lp,h.dp,h.ld⟩
theorem xh.alloc (h:xh b wx P Al Ad nl cl nd cd l d) (o:Obj):xh b (wx.alloc o) P Al Ad nl cl nd cd l d:= ⟨h.lit.alloc o,h.bm.alloc o,h.lp,h.dp,h.ld⟩
theorem xh.keeps (h:xh b wx P Al Ad nl cl nd cd l d) (a:Below wx.heap.size wx w'):xh b w' P Al Ad nl cl nd cd l d:= ⟨h.lit.keeps a,h.bm.keeps a,h.lp,h.dp,h.ld⟩
theorem xh.put (h:xh b wx P Al Ad nl cl nd cd l d) (i:Nat) (v:Value):xh b (wx.setCell ⟨P,i,none⟩ v) P Al Ad nl cl nd cd l d:= ⟨h.lit.far (p:= ⟨P,i,none⟩) h.lp v,h.bm.far (p:= ⟨P,i,none⟩) h.dp v,h.lp,h.dp,h.ld⟩
end
theorem xh.pre {b:Nat} {wx:World} {P:Nat} {Al Ad:ay} {nl cl nd cd c a:Nat} {l d:aj} (h:xh b wx P Al Ad nl cl nd cd l d) (f:c<=nl) (e:a<=nd):xh b wx P Al Ad c cl a cd (l.take c) (d.take a):= ⟨h.lit.pre f,h.bm.pre e,h.lp,h.dp,h.ld⟩
theorem Ji {w wx w':World} {R P:Nat} {a b c d e:Value} {Al Ad:ay} {nl cl nd cd:Nat} {l D:aj} {row:Option Nat} (h:oH w wx R P a b c d e) (g:xh (R+1) wx P Al Ad nl cl nd cd l D)
  (f:∀k,row=some k->R<k/\k≠P/\ak Al≠some k/\ak Ad≠some k) (i:wx.grownBy w' row):oH w w' R P a b c d e/\xh (R+1) w' P Al Ad nl cl nd cd l D:=by
 have ne:∀k,¬(R<k/\k≠P/\ak Al≠some k/\ak Ad≠some k)->some k≠row:=λk j e=>j (f k e.symm);refine⟨⟨h.res.grown i (ne _ ω),h.box.grown i (ne _ ω),h.vE.grown i h.vE.size λk j=>ε (f k j) h.Rh,h.Rh,h.Km⟩, ⟨g.lit.grown i ?_,g.bm.grown i ?_,g.lp,g.dp,g.ld⟩⟩
 · cases hA:ak Al with
   | none=>exact .inr rfl
   | some k=>exact .inl (ne k λh=>h.2.2.1 hA)
 cases hA:ak Ad with
 | none=>exact .inr rfl
 | some k=>exact .inl (ne k λh=>h.2.2.2 hA)
inductive TrI (AL AD:ay) (cL cD n1 n2:Nat):ay->Nat->Nat->Int->Nat->Prop
 | lit:TrI AL AD cL cD n1 n2 AL 286 cL 257 n1
 | bm:TrI AL AD cL cD n1 n2 AD 30 cD 1 n2
theorem XF {b P:Nat} {f g:ay} {a d:Nat} {t:List cy} (W:World) (h:xh b W P f g 286 a 30 d (xP t) (qG t)) (A:ay) (n c:Nat) (few:Int) (m:Nat) (i:TrI f g a d (fP t) (fX t) A n c few m):
  Calls Tryz.prog 116 #[.slice A n c, .int .i64 few] W λe w'=>e= .returned (.slice A m c)/\W=w':=by
 cases i with
 | lit=>exact yK W f 286 a _ 257 _ h.lit.rd ω h.lit.cap ω
 | bm=>exact yK W g 30 d _ 1 _ h.bm.rd ω h.bm.cap ω
theorem yP.XV {w:World} {B n:Nat} {A:ay} {l:List Rn} (h:yP w B A n l) {k:Nat} (f:k<n):∃a,A=some a/\a.block<B/\w.cell? (a.add (k*3))=some (.int .i64 (pJ l k).c)/\w.cell? { block:=(a.add (k*3)).block,off:=(a.add (k*3)).off+1 }=some (.int .i64 (pJ l k).v)/\w.cell? { block:=(a.add (k*3)).block,off:=(a.add (k*3)).off+2 }=some (.int .i64 (pJ l k).e):=by
 obtain⟨a,e,d,b⟩ :=h.2 ω;refine⟨a,e,d, ?_, ?_, ?_⟩
 · rw[b _ ω,a8l]
 · have:=b (k*3+1) ω;rw[lj _ _ _ ω,a8m]at this;exact this
 have:=b (k*3+2) ω;rw[lj _ _ _ ω,a8n]at this;exact this
theorem BF {l:List Rn} {k:Nat} (a:k<l.length):pJ l k∈l:=by
 have e:pJ l k=l[k]:=by simp [pJ,a]
 rw[e];exact bU a
theorem FZ {l:List Rn} {k:Nat} (h:k<l.length):l.take (k+1)=l.take k++[pJ l k]:=by
 rw[bb h];simp [pJ,h]
structure PlH (w wx:World) (R P gh:Nat) (Al Ad:ay) (nl cl nd cd:Nat) (l d:aj) (Ar:ay) (nr cr:Nat) (rs:List Rn) (hl:aj):Prop where
 s:oH w wx R P (.slice Al nl cl) (.slice Ad nd cd) (.slice none 0 0) (.slice Ar nr cr) (.int .i64 0)
 r:xh (R+1) wx P Al Ad nl cl nd cd l d
 o:lA wx (R+1) Ar nr cr rs
 op:ak Ar≠some P
 h:ba .i64 wx (R+1) 3 (some ⟨gh,0,none⟩) 19 19 hl
 hp:gh≠P
 hA:ak Al≠some gh
 hD:ak Ad≠some gh
 hO:ak Ar≠some gh
section
variable {w wx w':World} {R P gh:Nat} {Al Ad:ay} {nl cl nd cd:Nat} {l d:aj} {Ar:ay} {nr cr:Nat} {rs:List Rn} {hl:aj}
theorem PlH.alloc (h:PlH w wx R P gh Al Ad nl cl nd cd l d Ar nr cr rs hl) (o:Obj):PlH w (wx.alloc o) R P gh Al Ad nl cl nd cd l d Ar nr cr rs hl:= ⟨h.s.alloc o,h.r.alloc o,h.o.alloc o,h.op,h.h.alloc o,h.hp,h.hA,h.hD,h.hO⟩
theorem PlH.set (h:PlH w wx R P gh Al Ad nl cl nd cd l d Ar nr cr rs hl) {i:Nat} (hi:i<19) (v:Int):PlH w (wx.setCell ⟨gh,i,none⟩ (.int .i64 v)) R P gh Al Ad nl cl nd cd l d Ar nr cr rs (hl.set i v):=by
 have a:R+1<=gh:=(h.h.2.lt rfl).1;refine⟨h.s.far (p:= ⟨gh,i,none⟩) (by show R≠gh;omega) (λe=>h.hp e.symm) (by show w.heap.size<=gh;have:=h.s.Rh;omega) _, ⟨h.r.lit.far (p:= ⟨gh,i,none⟩) h.hA _,h.r.bm.far (p:= ⟨gh,i,none⟩) h.hD _,h.r.lp,h.r.dp,h.r.ld⟩, ⟨h.o.1,h.o.2.far (p:= ⟨gh,i,none⟩) h.hO _⟩,h.op,h.h.put hi v,h.hp,h.hA,h.hD,h.hO⟩
end
def sg (w:World) (g:Nat):Prop:=w.heap[g]?=some (.cells kL 167 (0,0))
theorem sg.new (w:World):sg (w.alloc (.cells kL 167)) w.heap.size:=dt w _
theorem sg.cell {w:World} {g i:Nat} (h:sg w g) (hi:i<19):w.cell? ⟨g,i,none⟩ =some (.int .i64 (ix jF i)):=by
 rw[iY w g i kL _ _ h,a0I i hi]
theorem sg.far {w:World} {g:Nat} (h:sg w g) {p:Addr} (hp:g≠p.block) (v:Value):sg (w.setCell p v) g:=(cV w p v g hp).trans h
theorem Ww:kL.all (·.oneCell')=true:=by simp [kL,jF,Value.oneCell']
theorem ve {b:Array Oper} {rest:List Oper} {o:Oper} {a:Act} {w:World} {Q:Exit->Act->World->Prop} (c:o.guard=none) (x y:Operand) (f:o.op= .store 167 x y) (hd:o.dst=none) (g:Nat) (i:g=w.heap.size) (e:a.eval x= .pointer (some ⟨g,0,none⟩)) (d:a.eval y= .agg kL)
  (zs:Array Value) (hz:zs.size=19) (h:wpList Tryz.prog b Q rest a (w.alloc (.cells kL 167))):wpList Tryz.prog b Q (o::rest) a (w.alloc (.cells zs 167)):=by
 subst i;refine wpList_store_rowTo c 167 x y f hd w.heap.size kL e d 167 zs (dt w _) (by kernel_rfl) hz Ww ?_;rw[World.setRow_alloc_new];exact h
structure K5 (w wx:World) (R P:Nat) (Al Ad Ah Ar:ay) (nl cl nd cd ch nr cr:Nat) (l d:aj) (rs:List Rn) (hd:aj) (n:Nat):Prop where
 s:oH w wx R P (.slice Al nl cl) (.slice Ad nd cd) (.slice Ah 19 ch) (.slice Ar nr cr) (.int .i64 (n:Int))
 r:xh (R+1) wx P Al Ad nl cl nd cd l d
 o:lA wx (R+1) Ar nr cr rs
 op:ak Ar≠some P
 h:ba .i64 wx (R+1) 3 Ah 19 ch hd
 hp:ak Ah≠some P
section
variable {w wx w':World} {R P:Nat} {Al Ad Ah Ar:ay} {nl cl nd cd ch nr cr:Nat} {l d:aj} {rs:List Rn} {hd:aj} {n:Nat}
theorem K5.drewN (h:K5 w wx R P Al Ad Ah Ar nl cl nd cd ch nr cr l d rs hd n) (q:Nat):K5 w (wx.drewN q) R P Al Ad Ah Ar nl cl nd cd ch nr cr l d rs hd n:= ⟨⟨h.s.res,h.s.box, ⟨h.s.vE.os,h.s.vE.tape,h.s.vE.output,h.s.vE.size,h.s.vE.block⟩,h.s.Rh,h.s.Km⟩, ⟨h.r.lit,h.r.bm,h.r.lp,h.r.dp,h.r.ld⟩,h.o,h.op,h.h,h.hp⟩
theorem K5.alloc (h:K5 w wx R P Al Ad Ah Ar nl cl nd cd ch nr cr l d rs hd n) (o:Obj):K5 w (wx.alloc o) R P Al Ad Ah Ar nl cl nd cd ch nr cr l d rs hd n:= ⟨h.s.alloc o,h.r.alloc o,h.o.alloc o,h.op,h.h.alloc o,h.hp⟩
theorem K5.keeps (h:K5 w wx R P Al Ad Ah Ar nl cl nd cd ch nr cr l d rs hd n) (a:Below wx.heap.size wx w'):K5 w w' R P Al Ad Ah Ar nl cl nd cd ch nr cr l d rs hd n:= ⟨h.s.keeps a,h.r.keeps a,h.o.keeps a,h.op,h.h.keeps a,h.hp⟩
theorem K5.a0L (h:K5 w wx R P Al Ad Ah Ar nl cl nd cd ch nr cr l d rs hd n) (m:Nat):K5 w (wx.setCell ⟨P,4,none⟩ (.int .i64 (m:Int))) R P Al Ad Ah Ar nl cl nd cd ch nr cr l d rs hd m:= ⟨h.s.a0L _,h.r.put 4 _, ⟨h.o.1,h.o.2.far (p:= ⟨P,4,none⟩) h.op _⟩,h.op,h.h.far (p:= ⟨P,4,none⟩) h.hp _,h.hp⟩
end
def Hi (b:Nat) (A:ay):Prop:=∀k,ak A=some k->b<=k
def zQ (w:World) (t:List cy) (e:Ending) (w':World):Prop:=
 ∃Al cl Ad cd Ah ch Ar cr,e= .returned (.agg #[.slice Al (fP t) cl, .slice Ad (fX t) cd, .slice Ah 19 ch, .slice Ar (dc t).length cr, .int .i64 ((pI t:Nat):Int)])/\
  bT .i64 w' w'.heap.size Al (fP t) (eX t)/\bT .i64 w' w'.heap.size Ad (fX t) (dn t)/\bT .i64 w' w'.heap.size Ah 19 (cY t)/\yP w' w'.heap.size Ar (dc t).length (dc t)/\Below w.heap.size w w'/\(Hi w.heap.size Al/\Hi w.heap.size Ad/\Hi w.heap.size Ah/\Hi w.heap.size Ar)
def a0M (w:World) (R:Nat) (a b c d e:Value):World:=((((w.setCell ⟨R,0,none⟩ a).setCell ⟨R,1,none⟩ b).setCell ⟨R,2,none⟩ c).setCell ⟨R,3,none⟩ d).setCell ⟨R,4,none⟩ e
theorem a0N {w:World} {R:Nat} {a b c d e:Value} {f:Nat->Value} (h:Ar w R 5 f):Ar (a0M w R a b c d e) R 5 (Yk a b c d e):=by
 refine(((((h.bK (i:=0) ω a).bK (i:=1) ω b).bK (i:=2) ω c).bK (i:=3) ω d).bK (i:=4) ω e).congr λj g=> ?_;obtain rfl | rfl | rfl | rfl | rfl:j=0\/j=1\/j=2\/j=3\/j=4:=ω;all_goals rfl
theorem WM (w:World) (R:Nat) (a b c d e:Value):bk w (a0M w R a b c d e) (λk=>k=R):=
 (((((bk.refl w (λk=>k=R)).setCell (p:= ⟨R,0,none⟩) (.inl rfl) a).setCell (p:= ⟨R,1,none⟩) (.inl rfl) b).setCell (p:= ⟨R,2,none⟩) (.inl rfl) c).setCell (p:= ⟨R,3,none⟩) (.inl rfl) d).setCell (p:= ⟨R,4,none⟩) (.inl rfl) e
theorem WI {w wx:World} {R P:Nat} {Al Ad Ah Ar:ay} {nl cl nd cd ch nr cr:Nat} {t:List cy} {n:Nat} (h:K5 w wx R P Al Ad Ah Ar nl cl nd cd ch nr cr (eX t) (dn t) (dc t) (cY t) n) (v:fP t=nl) (u:fX t=nd) (q:n=pI t) (a b c d e:Value):
  zQ w t (.returned (.agg #[.slice Al nl cl, .slice Ad nd cd, .slice Ah 19 ch, .slice Ar nr cr, .int .i64 (n:Int)])) (a0M wx R a b c d e):=by
 have l:=WM wx R a b c d e;have g:∀(A:ay) (e:TypeId) (i n c:Nat) (f:Nat->Value),Own wx (R+1) e i A n c f->∀k,ak A=some k->¬k=R:=λA e i n c f p k j=>by have:=(p.lt j).1;omega
 have m:∀(A:ay) (e:TypeId) (i n c:Nat) (f:Nat->Value),Own wx (R+1) e i A n c f->Hi w.heap.size A:=λA e i n c f p k j=>by have:=(p.lt j).1;have:=h.s.Rh;omega
 subst v u q;refine⟨Al,cl,Ad,cd,Ah,ch,Ar,cr, ?_,(l.dX h.r.lit (g _ _ _ _ _ _ h.r.lit.2)).rd,(l.dX h.r.bm (g _ _ _ _ _ _ h.r.bm.2)).rd,(l.dX h.h (g _ _ _ _ _ _ h.h.2)).rd, ?_,h.s.vE.trans (l.below (λk j=>by rw[j];exact h.s.Rh) h.s.vE.size),m _ _ _ _ _ _ h.r.lit.2,m _ _ _ _ _ _ h.r.bm.2,m _ _ _ _ _ _ h.h.2,m _ _ _ _ _ _ h.o.2⟩
 · rw[h.o.1]
 have:=(show lA (a0M wx R a b c d e) (R+1) Ar nr cr (dc t) from⟨h.o.1,l.own h.o.2 (g _ _ _ _ _ _ h.o.2)⟩).rd;rw[h.o.1]at this;exact this
theorem FW {w:World} {R:Nat} {a b c d e:Value} {tmps:Array Value} (g:Ar w R 5 (Yk a b c d e)) (n:tmps[2]?.getD undef= .pointer (some ⟨R,0,none⟩)):
  (results Tryz.f91 tmps).run Tryz.prog w= .ok (.agg #[a,b,c,d,e]) w:=by
 have m:=g.cell (i:=0) ω;have l:=g.cell (i:=1) ω;have k:=g.cell (i:=2) ω;have j:=g.cell (i:=3) ω;have h:=g.cell (i:=4) ω;unfold Yk at m l k j h;simp [results,Tryz.results91,go_sem,n,m,l,k,j,h]
structure GV (w:World) (G b1 B:Nat) (t:List cy) (Al Ad Ah Ax:ay) (cl cd ch cr:Nat):Prop where
 box:Ar w G 5 (Yk (.slice Al (fP t) cl) (.slice Ad (fX t) cd) (.slice Ah 19 ch) (.slice Ax (dc t).length cr) (.int .i64 ((pI t:Nat):Int)))
 lit:bT .i64 w B Al (fP t) (eX t)
 bm:bT .i64 w B Ad (fX t) (dn t)
 head:bT .i64 w B Ah 19 (cY t)
 runs:yP w B Ax (dc t).length (dc t)
 NY:Hi b1 Al/\Hi b1 Ad/\Hi b1 Ah/\Hi b1 Ax
 lo:b1<=G
 hi:G<B
section
variable {w w':World} {G b1 B:Nat} {t:List cy} {Al Ad Ah Ax:ay} {cl cd ch cr:Nat}
theorem GV.below {B':Nat} (h:GV w G b1 B t Al Ad Ah Ax cl cd ch cr) (a:Below B' w w') (b:B<=B'):GV w' G b1 B t Al Ad Ah Ax cl cd ch cr:=
 ⟨h.box.below a (aB h.hi b),h.lit.below (a.mono b),h.bm.below (a.mono b),h.head.below (a.mono b),h.runs.below (a.mono b),h.NY,h.lo,h.hi⟩
theorem GV.fC {S:Nat->Prop} (h:GV w G b1 B t Al Ad Ah Ax cl cd ch cr) (g:bk w w' S) (q:B<=w.heap.size) (j:∀k,S k->k<b1\/B<=k):GV w' G b1 B t Al Ad Ah Ax cl cd ch cr:=by
 have d:∀(A:ay) (n:Nat) (l:aj),bT .i64 w B A n l->Hi b1 A->bT .i64 w' B A n l:=λA n l hl hA=>g.ri hl q λs c e a=>by
  have r:=hA c.block (by rw[e];rfl);obtain⟨u,b,o,_⟩ :=hl.2 s;rw[e]at b;injection b with b;subst b;rcases j _ a with h | h <;> omega
 refine⟨g.ar h.box λa=> ?_,d _ _ _ h.lit h.NY.1,d _ _ _ h.bm h.NY.2.1,d _ _ _ h.head h.NY.2.2.1, ⟨h.runs.1,λm=> ?_⟩,h.NY,h.lo,h.hi⟩
 · have:=h.lo;have:=h.hi;rcases j _ a with h | h <;> omega
 obtain⟨c,e,p,f⟩ :=h.runs.2 m;have r:=h.NY.2.2.2 c.block (by rw[e];rfl);exact⟨c,e,p,λi hi=>(g.cell (by rw[bG];omega) (by rw[bG];intro a;rcases j _ a with h | h <;> omega)).trans (f i hi)⟩
theorem GV.cells (h:GV w G b1 B t Al Ad Ah Ax cl cd ch cr):w.cell? ⟨G,0,none⟩ =some (.slice Al (fP t) cl)/\w.cell? ⟨G,1,none⟩ =some (.slice Ad (fX t) cd)/\w.cell? ⟨G,2,none⟩ =some (.slice Ah 19 ch)/\w.cell? ⟨G,3,none⟩ =some (.slice Ax (dc t).length cr)/\w.cell? ⟨G,4,none⟩ =some (.int .i64 ((pI t:Nat):Int)):=
 ⟨h.box.cell (i:=0) ω,h.box.cell (i:=1) ω,h.box.cell (i:=2) ω,h.box.cell (i:=3) ω,h.box.cell (i:=4) ω⟩
theorem GV.new {a:World} {v:Value} {w:World} (h:zQ a t (.returned v) w):∃Al Ad Ah Ax cl cd ch cr,v= .agg #[.slice Al (fP t) cl, .slice Ad (fX t) cd, .slice Ah 19 ch, .slice Ax (dc t).length cr, .int .i64 ((pI t:Nat):Int)]/\Below a.heap.size a w/\
  GV (w.alloc (.cells #[.slice Al (fP t) cl, .slice Ad (fX t) cd, .slice Ah 19 ch, .slice Ax (dc t).length cr, .int .i64 ((pI t:Nat):Int)] 135)) w.heap.size a.heap.size (w.heap.size+1) t Al Ad Ah Ax cl cd ch cr:=by
 obtain⟨Al,cl,Ad,cd,Ah,ch,Ax,cr,e,i,g,f,h4,c,d⟩ :=h;injection e with e;have b:=(ax w.heap.size w).alloc (ai _) (.cells #[.slice Al (fP t) cl, .slice Ad (fX t) cd, .slice Ah 19 ch, .slice Ax (dc t).length cr, .int .i64 ((pI t:Nat):Int)] 135);exact⟨Al,Ad,Ah,Ax,cl,cd,ch,cr,e,c,FO w _ _ _ _ _ _,(i.below b).more (fq _),(g.below b).more (fq _),(f.below b).more (fq _),(h4.below b).more (fq _),d,c.size,iR _⟩
end
def sZ (hd:aj) (r:Rn):Int:=ix hd r.c.toNat+r.e
def jq (hd:aj) (rs:List Rn):Int:=(rs.map (sZ hd)).sum
def SI (t:List cy):Int:=14+3*((pI t:Nat):Int)+jq (cY t) (dc t)
theorem G1 (hd:aj) {rs:List Rn} {k:Nat} (h:k<rs.length):jq hd (rs.take (k+1))=jq hd (rs.take k)+sZ hd (pJ rs k):=by rw[FZ h];simp [jq]
theorem uV {hd:aj} (a:∀i,i<19->0<=ix hd i/\ix hd i<=7):∀rs:List Rn,(∀r∈rs,yQ r)->0<=jq hd rs/\jq hd rs<=14*rs.length
 | [],_=>by simp [jq]
 | r::rs,h=>by
   have f:=uV a rs λx d=>h x (aI _ d);have b:=h r aH;have e:=a r.c.toNat (τ b.1);have h4:=b.2.2.1;show 0<=sZ hd r+jq hd rs/\sZ hd r+jq hd rs<=_;unfold sZ;rw[bc];omega
theorem vT (t:List cy):∀i,i<19->0<=ix (cY t) i/\ix (cY t) i<=7:=λi hi=>sj (kF t) i (by rw[mO];exact hi)
theorem X8 (w:World) (G b1 B:Nat) (t:List cy) (Al Ad Ah Ax:ay) (cl cd ch cr:Nat) (hp:GV w G b1 B t Al Ad Ah Ax cl cd ch cr) (ht:t.length<1048576) (R:B<=w.heap.size):
  Calls Tryz.prog 121 #[.pointer (some ⟨G,0,none⟩)] w λe w'=>e= .returned (.int .i64 (SI t))/\Below w.heap.size w w':=by
 obtain⟨-, -, -,A,Q⟩ :=hp.cells;have hN:=uQ t;have D:=mP t;have d:=lu ht;have I:=vT t;obtain⟨n,F⟩ :=ν (pI t);obtain⟨rs,v⟩ :=ν (dc t);obtain⟨hd,z⟩ :=ν (cY t);obtain⟨nr,y⟩ :=ν (rs.length);have h:SI t=14+3*(n:Int)+jq hd rs:=by rw[<-F,<-v,<-z];rfl
 rw[v]at D d A;rw[z]at I;rw[F]at hN Q;rw[y]at D A;have YA:Hid (yP w B Ax nr rs):=by have:=hp.runs;rw[v,y]at this;exact this
 have SV:Hid (bT .i64 w B Ah 19 hd):=by have:=hp.head;rw[z]at this;exact this
 have P:Hid (G<w.heap.size/\w.cell? ⟨G,2,none⟩ =some (.slice Ah 19 ch)):= ⟨hp.box.lt,hp.box.cell (i:=2) ω⟩;have b:=η (⟨R,d,I,y⟩ :_/\_/\_/\_);have Cu:=η h;have x6:(4:Int)<=(n:Int)/\(n:Int)<=19/\(0:Int)<=(nr:Int)/\(nr:Int)<=316:=ω;clear hp hN D d I F v z y h R ht;go_enter Tryz.func121,Tryz.ntmps121
 go_wp2_with fail;clear A Q;go_loopg [3,17] nr (λ(gk:Nat) (v3 v17:Value) wx=>∃(k:Nat) (s:Int),v3= .int .i64 s/\v17= .int .i64 k/\k<=nr/\Hid (s=14+3*(n:Int)+jq hd (rs.take k))/\Hid (Below w.heap.size w wx)/\Hid (gk=nr-k))
 case atStart=>exact⟨0,14+3*(n:Int),rfl,rfl,aF _,by show _=_;simp [jq],ax _ _,rfl⟩
 obtain⟨k,s,rfl,rfl,hk,u,f,hg⟩ :=hrel;by_cases a:k<nr
 rotate_left
 · obtain rfl:k=nr:=ω;have W:¬(k:Int)<(k:Int):=ω;have g:rs.take k=rs:=aC (by rw[b.out.2.2.2];exact ai _);have HS:Hid (s=SI t):=by have:=u.out;rw[g]at this;show _=_;rw[this,Cu.out]
   clear a g u
   go_wp2_with fail;go_ret;exact⟨bZ HS.out,f.out⟩
 have W:(k:Int)<(nr:Int)/\(0:Int)<=(k:Int):=ω;have H:k<rs.length:=by rw[b.out.2.2.2];exact a
 obtain⟨q,hA,J,O,N,M⟩ :=(YA.out.below (f.out.mono b.out.1)).XV a;have d:=b.out.2.1 _ (BF H);have g:=G1 hd H;have jW:=uV b.out.2.2.1 (rs.take k) λr x=>b.out.2.1 r (aO x);have U:(rs.take k).length<=k:=by rw[aD];exact eW _ _
 obtain⟨⟨C,V,E⟩,x⟩ :∃r,pJ rs k=r:= ⟨_,rfl⟩;rw[x]at O N M d g;have o:0<=C/\C<=18:=d.1;have Ke:0<=E/\E<=7:=d.2.2.1;obtain⟨c,rfl⟩ :=aJ o.1;replace O:wr.cell? (q.add (k*3))=some (.int .i64 (c:Int)):=O;replace N:wr.cell? { block:=(q.add (k*3)).block,off:=(q.add (k*3)).off+1 }=some (.int .i64 V):=N;replace M:wr.cell? { block:=(q.add (k*3)).block,off:=(q.add (k*3)).off+2 }=some (.int .i64 E):=M;have m:c<19:=ω;have F8:(0:Int)<=(c:Int)/\(c:Int)<19:=ω;obtain⟨ah,XX,K,l⟩ :=(SV.out.below (f.out.mono b.out.1)).at_ m
 have ZW:(wr.alloc (.cells #[.int .i64 (c:Int), .int .i64 V, .int .i64 E] 166)).cell? (ah.add c)=some (.int .i64 (ix hd c)):=by
  rw[dK _ _ _ (by rw[bG];have:=f.out.size;have:=b.out.1;omega)];exact l
 have Y:(wr.alloc (.cells #[.int .i64 (c:Int), .int .i64 V, .int .i64 E] 166)).cell? ⟨G,2,none⟩ =some (.slice Ah 19 ch):=by
  rw[dK _ _ _ (by have:=f.out.size;have:=P.out.1;show G<_;omega),f.out.cell (by have:=P.out.1;exact this)];exact P.out.2
 have Z:=b.out.2.2.1 c m;obtain⟨X,L⟩ :=ν (ix hd c);rw[L]at ZW Z;have j:sZ hd ⟨(c:Int),V,E⟩ =X+E:=by show ix hd (Int.toNat (c:Int))+E=_;rw[aX,L]
 rw[j]at g;have HX:=η (show s+(X+E)=14+3*(n:Int)+jq hd (rs.take (k+1)) by rw[g,u.out];omega);have uh:0<=s/\s<=10000:=by have:=u.out;omega
 have T:0<=X+E/\X+E<=14:=ω;have p:=η (f.out.alloc f.out.size (.cells #[.int .i64 (c:Int), .int .i64 V, .int .i64 E] 166));have S:=η a;subst hA;subst XX;clear J d g x o K l j L H a jW U
 go_wp2_with fail;go_quiet (fail)
 go_wp2_with fail;go_roundg (nr-(k+1))
 case measure=>have:=hg.out;have:=S.out;omega
 case rel=>exact⟨k+1,s+(X+E),by go_num,by go_num,S.out,HX.out, ⟨p.out.os,p.out.tape,p.out.output,p.out.size,p.out.block⟩,rfl⟩
def wC (hd:aj) (k:Nat):aj:=(jF.take k).flatMap λ(o:Int)=>dw (ix hd o.toNat) 3
def WV (hd:aj) (r:Rn):aj:=cR hd r.c.toNat++dw r.v r.e.toNat
def nZ (hd:aj) (rs:List Rn):aj:=rs.flatMap (WV hd)
def mh (t:List cy):aj:=dw (((fP t-257:Nat):Int)) 5++dw (((fX t-1:Nat):Int)) 5++dw (((pI t-4:Nat):Int)) 4++wC (cY t) (pI t)++nZ (cY t) (dc t)
theorem DN (hd:aj) {k:Nat} (h:k<19):wC hd (k+1)=wC hd k++dw (ix hd (ix jF k).toNat) 3:=by
 have hl:k<jF.length:=h;unfold wC;rw[bb hl,List.flatMap_append];have e:ix jF k=jF[k]:=by simp [ix,hl]
 rw[e];simp
theorem sV (hd:aj):∀k,k<=19->(wC hd k).length=3*k
 | 0,_=>rfl
 | k+1,h=>by rw[DN hd ω,ag,sV hd k ω,aR];omega
theorem Ri (hd:aj) {rs:List Rn} {k:Nat} (h:k<rs.length):nZ hd (rs.take (k+1))=nZ hd (rs.take k)++WV hd (pJ rs k):=by rw[FZ h];simp [nZ]
theorem G0 {hd:aj} (a:∀i,i<hd.length->0<=ix hd i/\ix hd i<=15):∀rs:List Rn,(∀r∈rs,yQ r)->(nZ hd rs).length<=22*rs.length
 | [],_=>by simp [nZ]
 | r::rs,h=>by
   have f:=G0 a rs λx b=>h x (aI _ b);have d:=h r aH;have e:=pK a r.c.toNat;have h4:=d.2.2.1;show(WV hd r++nZ hd rs).length<=_;unfold WV;rw[ag,ag,aR,bc];omega
theorem MA (w:World) (b0 g n c:Nat) (A:ay) (L:aj) (hw:qw w b0 g A n c L) (G b1 B:Nat) (t:List cy) (Al Ad Ah Ax:ay) (cl cd ch cr:Nat) (hp:GV w G b1 B t Al Ad Ah Ax cl cd ch cr) (ht:t.length<1048576) (hB:B<=w.heap.size)
  (M:∀k,foot A g k->k<b1) (b:L.length<=3000000000000):
  Calls Tryz.prog 92 #[.pointer (some ⟨G,0,none⟩), .pointer (some ⟨g,0,none⟩)] w λe w'=>e= .returned (.tuple #[])/\kH w w' b0 g A (L++mh t):=by
 have N:=kT t;have jW:=lY t;have F7:=uQ t;obtain⟨V0,yU⟩ :=ν (fP t-257);obtain⟨V1,ac⟩ :=ν (fX t-1);obtain⟨V2,ab⟩ :=ν (pI t-4);have hI:((fP t:Nat):Int)-257=(V0:Int)/\((fX t:Nat):Int)-1=(V1:Int)/\((pI t:Nat):Int)-4=(V2:Int):=ω;have Lq:V0<=29/\V1<=29/\V2<=15:=ω;have HP:=η (⟨hp,hw,M,b,ht⟩ :_/\_/\_/\_/\_);have j:Hid (∀W,bk w W (foot A g)->GV W G b1 B t Al Ad Ah Ax cl cd ch cr):=λW hc=>hp.fC hc hB λk d=> .inl (M k d);have U:Hid (mh t=dw (V0:Int) 5++dw (V1:Int) 5++dw (V2:Int) 4++wC (cY t) (pI t)++nZ (cY t) (dc t)):=by show _=_;rw[<-yU,<-ac,<-ab];rfl
 obtain⟨k0,k1,k2,k3,k4⟩ :=hp.cells;have XS:=η (kH.start hw (ax _ w));obtain⟨nl,fz⟩ :=ν (fP t);obtain⟨nd,B9⟩ :=ν (fX t);obtain⟨nh,Ss⟩ :=ν (pI t);obtain⟨nr,Y⟩ :=ν ((dc t).length);rw[fz,B9,Ss]at hI;rw[fz]at k0;have bL:(257:Int)<=(nl:Int)/\(nl:Int)<=286/\(1:Int)<=(nd:Int)/\(nd:Int)<=30/\(4:Int)<=(nh:Int)/\(nh:Int)<=19:=ω;obtain⟨ce,cc,cb⟩ :=hI;have o:=η (⟨fz,B9,Ss,Y,Lq,hB⟩ :_/\_/\_/\_/\_/\_);have vh:=η (XS.out.put (V0:Int) 5 ω ω ω);clear hp hw M N jW F7 yU ac ab Lq k1 k2 k3 k4 fz B9 Ss Y b ht hB;go_enter Tryz.func92,Tryz.ntmps92
 go_wp2_with fail;refine vh.out.mono ?_;rintro e w1 ⟨rfl,h1⟩;have k1:=(j.out _ h1.fC).cells.2.1;rw[o.out.2.1]at k1;have Ex:=η (h1.put (V1:Int) 5 (τ o.out.2.2.2.2.1) ω (by rw[ag,aR];have:=HP.out.2.2.2.1;omega));clear h1 k0
 go_wp2_with fail;refine Ex.out.mono ?_;rintro e w2 ⟨rfl,h2⟩;have k4:=(j.out _ h2.fC).cells.2.2.2.2;rw[o.out.2.2.1]at k4;have bv:=η (h2.put (V2:Int) 4 (τ o.out.2.2.2.2.1) ω (by rw[ag,ag,aR,aR];have:=HP.out.2.2.2.1;omega));clear h2 k1
 go_wp2_with fail;refine bv.out.mono ?_;rintro e f ⟨rfl,h3⟩;obtain⟨P,gV⟩ :=ν (L++dw (V0:Int) 5++dw (V1:Int) 5++dw (V2:Int) 4);rw[gV]at h3
 have SY:Hid (P.length<=3000000000014):=by
  show _<=_;rw[<-gV];simp only [List.length_append,aR];have:=HP.out.2.2.2.1;omega
 have Nb:Hid (L++mh t=P++wC (cY t) nh++nZ (cY t) (dc t)):=by
  show _=_;rw[U.out,<-gV,o.out.2.2.1];simp only [List.append_assoc]
 have ap:=η (DO f)
 have v:Hid (Cs w ((f.alloc (.cells kL 167)).alloc (.cells kL 167)) ((f.alloc (.cells kL 167)).alloc (.cells kL 167)) (f.heap.size+1) b0 g A P):=by
  have x:=Cs.new (h3.alloc (.cells kL 167)) (.cells kL 167);have e9:(f.alloc (.cells kL 167)).heap.size=f.heap.size+1:=σ;rw[e9]at x;exact x
 have Cu:Hid (f.heap.size+1=(f.alloc (.cells kL 167)).heap.size):=by show _=_;simp
 have S:Hid (sg ((f.alloc (.cells kL 167)).alloc (.cells kL 167)) (f.heap.size+1)):=by
  have x:=sg.new (f.alloc (.cells kL 167));rw[<-Cu.out]at x;exact x
 have T:=(j.out _ v.out.fC).cells.2.2.2.2;rw[o.out.2.2.1]at T;clear gV h3 k4 U XS
 go_wp2_with fail;refine ap.out.mono ?_;rintro e w4 ⟨rfl,rfl⟩
 go_wp2_with (refine ve rfl (.tmp 4) (.tmp 37) rfl rfl (f.heap.size+1) Cu.out rfl rfl _ rfl ?_)
 clear T;obtain⟨go,J⟩ :=ν (f.heap.size+1);obtain⟨wk,z⟩ :=ν ((f.alloc (.cells kL 167)).alloc (.cells kL 167));rw[z,J]at v S;rw[z,J];clear z J Cu ap;clear f;obtain⟨hd,tJ⟩ :=ν (cY t);have Kf:Hid (∀i,i<19->0<=ix hd i/\ix hd i<=7):=λi hi=>by rw[<-tJ];exact vT t i hi
 have SV:=η tJ;rw[tJ]at Nb;clear tJ;go_loopg [44] nh (λ(gk:Nat) (v44:Value) wx=>∃k:Nat,v44= .int .i64 k/\k<=nh/\Hid (Cs w wk wx go b0 g A (P++wC hd k))/\Hid (gk=nh-k))
 case atStart=>exact⟨0,rfl,aF _,by show Cs _ _ _ _ _ _ _ (P++[]);rw[aA];exact v.out,rfl⟩
 clear v;obtain⟨k,rfl,d,m,hg⟩ :=hrel;by_cases a:k<nh
 · have pM:(k:Int)<(nh:Int)/\(0:Int)<=(k:Int):=ω;have H:k<19:=ω;have za:sg wr go:=m.out.kp.trans S.out;have Sv:=FN k H;obtain⟨K,hK⟩ :=aJ Sv.1;have c1:=za.cell H;have ZA:K<19:=ω;have F:=j.out _ m.out.fC;have c2:=F.cells.2.2.1;obtain⟨ah,XX,bp,c3⟩ :=F.head.at_ ZA;rw[SV.out]at c3;have Q9:=Kf.out K ZA;have jA:=DN hd H;rw[hK,aX]at jA;rw[hK]at c1;obtain⟨X,hX⟩ :=ν (ix hd K);rw[hX]at c3 Q9 jA;have R:=η (m.out.put X 3 ω ω (by rw[ag,sV hd k ω];have:=SY.out;omega));have qs:=η jA;have oG:=η a;have ca:(0:Int)<=(K:Int)/\(K:Int)<19:=ω;subst XX;clear za Sv hK bp jA hX F m a
   go_wp2_with fail;refine R.out.mono ?_;rintro e l ⟨rfl,h5⟩;have H5:=η h5;clear h5 c1 c2 c3
   go_wp2_with fail;go_roundg (nh-(k+1))
   case measure=>have:=hg.out;have:=oG.out;omega
   case rel=>exact⟨k+1,by go_num,oG.out,by have h6:=H5.out;rw[av,<-qs.out]at h6;exact h6,rfl⟩
 obtain rfl:k=nh:=ω;have pM:¬(k:Int)<(k:Int):=ω;have Kk:=m.out.old;have F:=j.out _ Kk.fC;have bs:B<=wr.heap.size:=aw o.out.2.2.2.2.2 Kk.fC.size;have c2:=F.cells.2.2.1;have I:=F.head;rw[SV.out]at I;have tV:=kF t;rw[SV.out]at tV;have be:=η (oo wr Ah 19 ch B hd 7 I bs ω tV);have Q:=η Kk;obtain⟨O,s⟩ :=ν (P++wC hd k);have bx:Hid (O.length<=3000000000080/\P++wC hd k=O):= ⟨by rw[<-s,ag,sV hd k (τ HP.out)];have:=SY.out;omega,s⟩;rw[s]at Q Nb;have V9:Hid (∀i,i<hd.length->0<=ix hd i/\ix hd i<=15):=λi hi=>by have:=sj tV i hi;omega
 have bl:Hid (hd.length=19):=by show _=_;rw[<-SV.out];exact mO t
 clear m Kk F I tV s a hg S
 go_wp2_with fail;refine be.out.mono ?_;rintro e l ⟨gt,rfl,Il,mr⟩;obtain⟨⟨A1,n1,c1,nW,wV⟩,q⟩ :=Q.out;have IK:GV l G b1 B t Al Ad Ah Ax cl cd ch cr:=j.out _ (q.trans (S':=λ_=>False) (bk.bJ mr) λk d=>d.elim);have al:B<=l.heap.size:=aw o.out.2.2.2.2.2 (aw q.size mr.size)
 have bt:Hid (∀W,bk l W (foot A1 g)->GV W G b1 B t Al Ad Ah Ax cl cd ch cr):=λW hc=>IK.fC hc al λk d=>by
  rcases d with d | d
  · exact .inl (HP.out.2.2.1 k (.inl d))
  rcases wV k d with h | h
  · exact .inl (HP.out.2.2.1 k (.inr h))
  exact .inr (aw o.out.2.2.2.2.2 h)
 have an:Hid (yR l wr.heap.size l.heap.size gt hd/\∀k,wr.heap.size<=k->k<l.heap.size->¬foot A1 g k):= ⟨Il,λk h1 _ d=>τ ((nW.eK d).2)⟩;have ao:=η (show kH l l b0 g A1 O from⟨⟨A1,n1,c1,nW.keeps mr,λk d=> .inl d⟩,bk.refl _ _⟩);have aE:Hid (bk w l (foot A g)/\∀k,ak A1=some k->ak A=some k\/w.heap.size<=k):= ⟨q.trans (S':=λ_=>False) (bk.bJ mr) λk d=>d.elim,wV⟩;have k3:=IK.cells.2.2.2.1;rw[o.out.2.2.2.1]at k3;obtain⟨rs,tX⟩ :=ν (dc t);have rV:=mP t;have p:=lu HP.out.2.2.2.2;rw[tX]at rV p Nb;have Y:rs.length=nr:=by rw[<-tX];exact o.out.2.2.2.1
 have y:=η (⟨tX,Y,p,rV⟩ :_/\_/\_/\_);have bI:(0:Int)<=(nr:Int)/\(nr:Int)<=316:=ω;clear Il mr nW wV q IK al tX Y p rV c2 be Q j
 go_wp2_with fail;clear k3;go_loopg [72] nr (λ(gk:Nat) (v72:Value) wx=>∃k:Nat,v72= .int .i64 k/\k<=nr/\Hid (kH l wx b0 g A1 (O++nZ hd (rs.take k)))/\Hid (gk=nr-k))
 case atStart=>exact⟨0,rfl,aF _,by show kH _ _ _ _ _ (O++[]);rw[aA];exact ao.out,rfl⟩
 clear ao
 rename World=>wz
 obtain⟨k,rfl,d,m,hg⟩ :=hrel;by_cases a:k<nr
 rotate_left
 · obtain rfl:k=nr:=ω;have pM:¬(k:Int)<(k:Int):=ω;have D:rs.take k=rs:=aC (by rw[y.out.2.1];exact ai _)
   have cu:Hid (kH w wz b0 g A (L++mh t)):=by
    have x:=m.out;rw[D]at x;obtain⟨⟨A2,n2,c2,q1,q2⟩,q3⟩ :=x;have am:=kH.next aE.out.1 aE.out.2 q1 q3 q2
    rw[<-Nb.out]at am;exact am
   clear a D m
   go_wp2_with fail;go_end0;exact⟨rfl,cu.out⟩
 have pM:(k:Int)<(nr:Int)/\(0:Int)<=(k:Int):=ω;have xG:k<rs.length:=by rw[y.out.2.1];exact a
 have QD:=(bt.out _ m.out.fC).runs;rw[y.out.1,y.out.2.1]at QD;obtain⟨ad,hA,N,a0,a1,a2⟩ :=QD.XV a;have p:=y.out.2.2.1 _ (BF xG);have D:=Ri hd xG;have bo:=G0 V9.out (rs.take k) λr hr=>y.out.2.2.1 r (aO hr);have B5:(rs.take k).length<=k:=by rw[aD];exact eW _ _
 obtain⟨⟨C,V,E⟩,hr⟩ :∃r,pJ rs k=r:= ⟨_,rfl⟩;rw[hr]at a0 a1 a2 p D;have Z:0<=C/\C<=18:=p.1;have bi:0<=V/\V<128:=p.2.1;have Ke:0<=E/\E<=7:=p.2.2.1;obtain⟨c,rfl⟩ :=aJ Z.1;obtain⟨u,rfl⟩ :=aJ Ke.1;replace a0:wz.cell? (ad.add (k*3))=some (.int .i64 (c:Int)):=a0;replace a1:wz.cell? { block:=(ad.add (k*3)).block,off:=(ad.add (k*3)).off+1 }=some (.int .i64 V):=a1;replace a2:wz.cell? { block:=(ad.add (k*3)).block,off:=(ad.add (k*3)).off+2 }=some (.int .i64 (u:Int)):=a2;have sK:WV hd ⟨(c:Int),V,(u:Int)⟩ =cR hd c++dw V u:=rfl;rw[sK]at D;have ae:=Cs.new m.out (.cells #[.int .i64 (c:Int), .int .i64 V, .int .i64 (u:Int)] 166);have pX:=OE wz ⟨(c:Int),V,(u:Int)⟩ 166;have b:(O++nZ hd (rs.take k)).length<=3000000010000:=by rw[ag];have:=bx.out.1;have:=y.out.2.2.2;have:=y.out.2.1;omega
 have oM:=pK V9.out c;have HY:=η (ae.sym an.out.1 (ai _) an.out.2 c (by rw[bl.out];omega) V9.out ω);have qs:=η D;have HLEN:=η (⟨b,oM⟩ :_/\_);have Kq:=η pX;have oG:=η a;have bB:(0:Int)<=(c:Int)/\(c:Int)<=18/\0<=V/\V<128/\(0:Int)<=(u:Int)/\(u:Int)<=7:=ω;subst hA;clear xG QD N p D bo B5 hr Z bi Ke sK ae pX b oM m a
 go_wp2_with fail;refine HY.out.mono ?_;rintro e w6 ⟨⟨b6,rfl⟩,h6⟩;have d1:w6.cell? ⟨wz.heap.size,1,none⟩ =some (.int .i64 V):=h6.cell Kq.out (i:=1) ω;have d2:w6.cell? ⟨wz.heap.size,2,none⟩ =some (.int .i64 (u:Int)):=h6.cell Kq.out (i:=2) ω;have R:=η (h6.put V u ω ω (by rw[ag];have:=HLEN.out;omega));clear h6 a0 a1 a2
 go_wp2_with fail;refine R.out.mono ?_;rintro e w7 ⟨rfl,h7⟩
 have H7:=η (show kH l w7 b0 g A1 (O++nZ hd (rs.take (k+1))) from by
  have h8:=h7.old;rw[qs.out]
  simpa [List.append_assoc] using h8)
 clear h7 d1 d2
 go_wp2_with fail;go_roundg (nr-(k+1))
 case measure=>have:=hg.out;have:=oG.out;omega
 case rel=>exact⟨k+1,by go_num,oG.out,H7.out,rfl⟩
structure Kt (t t':IS):Prop where
 last:t'.last=t.last
 all:t'.all=t.all
 rem:t'.rem=t.rem
 kinds:t'.kinds=t.kinds
 stops:t'.stops=t.stops
 au:t'.au=t.au
theorem Kt.rfl' (t:IS):Kt t t:= ⟨rfl,rfl,rfl,rfl,rfl,rfl⟩
theorem Kt.trans {a b c:IS} (h:Kt a b) (h':Kt b c):Kt a c:= ⟨h'.1.trans h.1,h'.2.trans h.2,h'.3.trans h.3,h'.4.trans h.4,h'.5.trans h.5,h'.6.trans h.6⟩
section
variable {t:IS} {y hd:aj}
theorem a4v {a b c:Nat} (i:a<32) (h:b<32) (g:c<16) (z:aj):num (dw (a:Int) 5++(dw (b:Int) 5++(dw (c:Int) 4++z))) 14=a+32*(b+32*c):=by
 have e:dw (a:Int) 5++(dw (b:Int) 5++(dw (c:Int) 4++z))=(dw (a:Int) 5++(dw (b:Int) 5++dw (c:Int) 4))++z:=by simp only [List.append_assoc]
 rw[e,sT (by simp only [List.length_append,aR]),jc,jc,aR,aR,gL,gL,gL];have d:(2:Int) ^ 5=32:=δ;have f:(2:Int) ^ 4=16:=δ;rw[d,f];omega
theorem MH {a b c:Nat} (d:t.st=3) (f:t.x=dw (a:Int) 5++(dw (b:Int) 5++(dw (c:Int) 4++y))) (j:a<=29) (i:b<=29) (h:c<16):
  t.step=({ t with x:=y,c0:=a+257,c1:=b+1,c2:=c+4,lens:=[],st:=4 },0):=by
 unfold IS.step;rw[aa ω,aa ω,aa ω,af d];unfold IS.sizes;have g:=a4v (show a<32 by omega) (show b<32 by omega) h y
 have hd:(dw (a:Int) 5++(dw (b:Int) 5++(dw (c:Int) 4++y))).drop 14=y:=by
  have e:dw (a:Int) 5++(dw (b:Int) 5++(dw (c:Int) 4++y))=(dw (a:Int) 5++(dw (b:Int) 5++dw (c:Int) 4))++y:=by simp only [List.append_assoc]
  rw[e,lX (by simp only [List.length_append,aR])]
 rw[f,g,hd,aa (by simp only [List.length_append,aR];omega),aa ω,show(a+32*(b+32*c))%32=a by omega,show(a+32*(b+32*c))/32%32=b by omega,show(a+32*(b+32*c))/1024=c by omega]
def sW (hd:aj) (k:Nat):aj:=(jF.take k).map λo=>ix hd o.toNat
theorem wE (hd:aj) {k:Nat} (h:k<=19):(sW hd k).length=k:=by
 unfold sW;rw[ju,aD];show min k 19=k;omega
theorem QW (hd:aj) {k:Nat} (h:k<19):sW hd (k+1)=sW hd k++[ix hd (ix jF k).toNat]:=by
 have hl:k<jF.length:=h;unfold sW;rw[bb hl,dR];have e:ix jF k=jF[k]:=by simp [ix,hl]
 rw[e];rfl
theorem Mr (hd:aj) {k n:Nat} (b:k<n) (a:n<=19):(jF.take n).drop k=ix jF k::(jF.take n).drop (k+1):=by
 have hl:k<(jF.take n).length:=by rw[aD];show k<min n 19;omega
 rw[bR hl];congr 1;have:k<jF.length:=by show k<19;omega
 simp [ix,this]
def Br (hd:aj) (k n:Nat):aj:=((jF.take n).drop k).flatMap λ(o:Int)=>dw (ix hd o.toNat) 3
theorem QV (hd:aj) (n:Nat):Br hd 0 n=wC hd n:=rfl
theorem QU (hd:aj) {k n:Nat} (b:k<n) (a:n<=19):Br hd k n=dw (ix hd (ix jF k).toNat) 3++Br hd (k+1) n:=by
 unfold Br;rw[Mr hd b a];rfl
theorem Wx (hd:aj) (n:Nat) (a:n<=19):Br hd n n=[]:=by
 unfold Br;rw[dP (by rw[aD];show min n 19<=n;omega)];rfl
theorem yy {n:Nat} (b:n<=19) (d:∀i,i<19->0<=ix hd i/\ix hd i<=7):∀(j k:Nat) (t:IS),j=n-k->k<=n->t.st=4->t.c2=n->t.lens=sW hd k->t.x=Br hd k n++y->
  ∃a,IS.Steps t a/\Kt t a/\a.st=4/\a.c2=n/\a.lens=sW hd n/\a.x=y/\a.c0=t.c0/\a.c1=t.c1
 | 0,k,t,hj,hk,hst,hc,hl,hx=>by
   obtain rfl:k=n:=ω;rw[Wx hd k b,aZ]at hx;exact⟨t, .refl t,Kt.rfl' t,hst,hc,hl,hx,rfl,rfl⟩
 | j+1,k,t,hj,hk,hst,hc,hl,hx=>by
   have c:k<n:=ω;rw[QU hd c b,av]at hx;have m:=FN k ω;have g:=d (ix jF k).toNat ω;obtain⟨v,hv⟩ :=aJ g.1
   have f:num t.x 3=v:=by
    rw[hx,sT (aR _ _),gL,hv];have l:(2:Int) ^ 3=8:=δ;rw[l];omega
   have e:t.step=({ t with x:=Br hd (k+1) n++y,lens:=sW hd (k+1) },0):=by
    unfold IS.step;rw[aa ω,aa ω,aa ω,aa ω,af hst];unfold IS.heads;rw[hl,wE hd ω,hc,af c,aa (by rw[hx,ag,aR];omega),f,hx,lX (aR _ _),QW hd ω,hv]
   have s1:=IS.Steps.one (s:=t) (by rw[e]);rw[e]at s1;obtain⟨a,s2,h,r⟩ :=yy b d j (k+1) { t with x:=Br hd (k+1) n++y,lens:=sW hd (k+1) } ω ω hst hc rfl rfl;exact⟨a,s1.trans s2,(show Kt t { t with x:=Br hd (k+1) n++y,lens:=sW hd (k+1) } from⟨rfl,rfl,rfl,rfl,rfl,rfl⟩).trans h,r⟩
theorem NQ:∀s,s<19->lD.idxOf s<19/\(ix jF (lD.idxOf s)).toNat=s:=by decide+kernel
theorem Un {n:Nat} (j:n<=19) (b:hd.length=19) (hz:∀i,n<=i->i<19->ix hd (ix jF i).toNat=0):iK (sW hd n)=hd:=by
 refine OA (by unfold iK;rw[ju,List.length_range,b]) λs c=> ?_;have a:s<19:=by unfold iK at c;rw[ju,List.length_range]at c;exact c
 unfold iK;rw[LX _ a];obtain⟨f,d⟩ :=NQ s a;by_cases h:lD.idxOf s<n
 · have k:∀(L:aj) (g:Int->Int) (i:Nat),i<L.length->ix (L.map g) i=g (ix L i):=λL g i hi=>by simp [ix,hi]
   unfold sW;rw[k _ _ _ (by rw[aD];show _<min n 19;omega),kQ h,d]
 have e:ix (sW hd n) (lD.idxOf s)=0:=by
  unfold ix;rw[aq,bw (by rw[wE hd j];omega)];rfl
 rw[e,<-hz _ ω f,d]
theorem Qk (a:t.st=4) (d:t.lens.length=t.c2) (hA:iK t.lens=hd) (c:bg hd 7=0) (b:gU t.lens=false):t.step=({ t with hd:=hd,lens:=[],st:=5 },0):=by
 unfold IS.step;rw[aa ω,aa ω,aa ω,aa ω,af a];unfold IS.heads;rw[aa ω,hA,aa (by rw[c,b];simp)]
theorem X0 {r:Rn} {d:aj} (l:t.st=5) (B:t.hd=hd) (K:bg hd 7=0) (j:t.lens=d) (I:t.x=WV hd r++y) (J:yQ r) (D:r.c=16->0<d.length) (e:1<=ix hd r.c.toNat) (n:d.length<t.c0+t.c1) (f:(lC d r).length<=t.c0+t.c1):
  t.step=({ t with x:=y,lens:=lC d r },0):=by
 obtain⟨C,V,E⟩ :=r;obtain⟨z,w,F,u,s,q,p,o⟩ :=J;dsimp only at z w F u s q p o D e;obtain⟨c,rfl⟩ :=aJ z.1;obtain⟨v,rfl⟩ :=aJ w.1;rw[aX]at e;have k:t.x=cR hd c++(dw (v:Int) E.toNat++y):=by rw[I];unfold WV;rw[av];rfl
 obtain⟨H,G⟩ :=Mh K e (dw (v:Int) E.toNat++y);unfold IS.step;rw[aa ω,aa ω,aa ω,aa ω,aa ω,af l];unfold IS.lengths;rw[j,af n];unfold IS.length;rw[B,k,H];simp only;rw[aa δ,G];by_cases i:(c:Int)<16
 · obtain⟨rfl,rfl⟩ :v=0/\E=0:=by obtain⟨a,b⟩ :=s ω;exact⟨ω,b⟩
   rw[af i,j];unfold lC;rw[af i];rfl
 have A:IS.rW (c:Int)=E.toNat:=by
  unfold IS.rW;obtain h | h | h:(c:Int)=16\/(c:Int)=17\/(c:Int)=18:=ω
  · rw[aa ω,aa ω,q h];rfl
  · rw[af h,p h];rfl
  rw[aa ω,af h,o h];rfl
 have m:num (dw (v:Int) E.toNat++y) E.toNat=v:=by
  rw[sT (aR _ _),gL,bz ω u];rfl
 have g:lC d ⟨(c:Int),(v:Int),E⟩ =d++List.replicate (IS.rB (c:Int)+v) (if(c:Int)=16 then ix d (d.length-1)else 0):=by
  unfold lC;rw[aa i];simp only [Int.toNat_natCast]
 rw[g]at f⊢;rw[ag,aT]at f;rw[aa i,j,aa (by rintro⟨L,M⟩;have:=D L;omega),A,aa (by rw[ag,aR];omega)];unfold IS.kG;rw[A,m,j,aa ω,lX (aR _ _),B]
theorem Ny (a:aj) {r:Rn} (h:yQ r):a.length<(lC a r).length:=by
 unfold lC;split
 · simp
 rw[ag,aT];unfold IS.rB;split <;> omega
theorem Zf (rs:List Rn):∀a:aj,okR a rs->a.length<=(rs.foldl lC a).length:=by
 induction rs with
 | nil=>intro a _;exact ai _
 | cons r rs b=>
   intro a h;have:=b (lC a r) h.2.2;have:=Ny a h.1;rw[ic];omega
theorem BJ (g:bg hd 7=0):∀(rs:List Rn) (t:IS) (acc:aj),t.st=5->t.hd=hd->t.lens=acc->t.x=nZ hd rs++y->okR acc rs->(∀r∈rs,1<=ix hd r.c.toNat)->(rs.foldl lC acc).length=t.c0+t.c1->
  ∃a,IS.Steps t a/\Kt t a/\a.st=5/\a.lens=rs.foldl lC acc/\a.x=y/\a.c0=t.c0/\a.c1=t.c1
 | [],t,acc,hst,tJ,CB,hx,_,_,_=> ⟨t, .refl t,Kt.rfl' t,hst,CB,by rw[hx];rfl,rfl,rfl⟩
 | r::rs,t,acc,hst,tJ,CB,hx,ky,hs,hlen=>by
   obtain⟨f,i,d⟩ :=ky
   have b:t.x=WV hd r++(nZ hd rs++y):=by
    rw[hx];show(WV hd r++nZ hd rs)++y=_;rw[av]
   rw[ic]at hlen;have l:=Zf rs (lC acc r) d;have k:=Ny acc f;have e:=X0 hst tJ g CB b f i (hs r aH) ω ω;have s1:=IS.Steps.one (s:=t) (by rw[e]);rw[e]at s1;obtain⟨a,s2,q2,h⟩ :=BJ g rs { t with x:=nZ hd rs++y,lens:=lC acc r } (lC acc r) hst tJ rfl rfl d (λr j=>hs r (aI _ j)) hlen;exact⟨a,s1.trans s2,(show Kt t { t with x:=nZ hd rs++y,lens:=lC acc r } from⟨rfl,rfl,rfl,rfl,rfl,rfl⟩).trans q2,h⟩
theorem WH {l d:aj} (a:t.st=5) (hl:t.lens=l++d) (g:t.c0=l.length) (f:t.c1=d.length) (c:bg l 15=0) (e:bg d 15=0) (b:1<=ix l 256):t.step=({ t with lt:=l,ds:=d,st:=6 },0):=by
 unfold IS.step;rw[aa ω,aa ω,aa ω,aa ω,aa ω,af a];unfold IS.lengths;have j:(l++d).take l.length=l:=gD;have i:(l++d).drop l.length=d:=gC;have h:ix (l++d) 256=ix l 256:=by rw[dg,af (Gb b)]
 rw[hl,g,f,aa (by rw[ag];omega),j,i,h,c,e,aa ω]
end
end Go.Proofs.YtdhmnlpfhfmpfaaGreat
