/-
  part
-/
import Derived.Test.YtddhegejmkgmjaaGreatArr
import Derived.Test.YtddhegejmkgmjaaGreatPk16
import Derived.Test.YtddhegejmkgmjaaGreatPk14
import Derived.Test.YtddhegejmkgmjaaGreatFrqW
import Derived.Test.YtddhegejmkgmjaaGreatRunV
set_option linter.unusedVariables false
set_option maxRecDepth 100000
set_option maxHeartbeats 8000000
namespace Go.Proofs.YtddhegejmkgmjaaGreat
open Go.RowKit
def fG:Array Value:=(eL.map (Value.int .i64)).toArray
theorem SS:∀i,i<19->fG[i]?=some (.int .i64 (ix eL i)):=by
 intro i hi;unfold fG;simp [ix,eL]
 rcases i with _ | _ | _ | _ | _ | _ | _ | _ | _ | _ | _ | _ | _ | _ | _ | _ | _ | _ | _ | i <;> first | rfl | omega
theorem AG:∀i,i<19->0<=ix eL i/\ix eL i<=18:=δ
theorem xY (w:World):Calls Tryz.prog 95 #[] w λe w'=>e= .returned (.agg fG)/\w'=w.alloc (.cells fG 142):=by
 go_enter Tryz.func95,Tryz.ntmps95
 go_upto_region 1 with fail
 refine wp_region_list ?_;refine wpList_buildFlatArrTo rfl 142 3 19 _ rfl .i64 eL (some 1) rfl Tryz.underlying142 (by kernel_rfl) (by kernel_rfl) rfl ?_;refine wpList_store_rowTo rfl 142 (.tmp 0) (.tmp 1) rfl rfl w.heap.size fG rfl rfl 142 _ (heap_alloc_new w _) (by kernel_rfl) rfl (by simp [fG,eL,Value.oneCell']) ?_;rw[World.setRow_alloc_new]
 go_wp2_with ((with_reducible (show bodyPost _ _ _ _ _ _));exact bodyPost_ret (results_cell_row rfl _ _ w.heap.size _ fG _ _ rfl (heap_alloc_new w _) Tryz.underlying142 rfl (by kernel_rfl)) rfl ⟨rfl,rfl⟩)
theorem Ec {l:List Int} {few n:Nat} (h:few<n+1/\ix l n=0):gC l few (n+1)=gC l few n:=if_pos h
theorem vQ {l:List Int} {few n:Nat} (h:¬(few<n+1/\ix l n=0)):gC l few (n+1)=n+1:=if_neg h
theorem ue:(Tryz.prog.info? 3).map (λi=>(i.zero,i.size,i.bytes))=some (some (.int .i64 0),1,8):=by kernel_rfl
theorem sL (w:World) (A:Option Addr) (n c B few:Nat) (l:List Int) (hl:aT .i64 w B A n l) (C:n<=1000) (G:n<=c) (F:few<=1000):
  Calls Tryz.prog 93 #[.slice A n c, .int .i64 few] w λe w'=>e= .returned (.slice A (gC l few n) c)/\w=w':=by
 obtain⟨y,hi,k,a,g⟩ :=info_parts ue;have r:Hid (∀(j:Nat),j<=c->(Instr.slice 51 (.slice A n c) none (some (.int .i64 (j:Int))) none).run Tryz.prog w= .ok (.slice A j c) w):=λj u=>dr (P:=Tryz.prog) 51 3 Tryz.underlying51 hi a A n c u w
 have x:=η hl;have z:(0:Int)<=(n:Int)/\(n:Int)<=1000/\(0:Int)<=(few:Int)/\(few:Int)<=1000:=ω;clear hi k a g hl;go_enter Tryz.func93,Tryz.ntmps93
 go_wp2_with fail
 go_loopg [5] n (λ(gk:Nat) (v5:Value) wx=>v5= .int .i64 gk/\wx=w/\gk<=n/\Hid (gC l few gk=gC l few n))
 case atStart=>exact⟨rfl,rfl,Nat.le_refl _,rfl⟩
 case round=>
  obtain⟨rfl,s,E,ht⟩ :=hrel;obtain rfl:=s.symm;have D:(0:Int)<=(gk:Int)/\(gk:Int)<=(n:Int):=ω;by_cases o:few<gk
  · obtain⟨q,rfl⟩ :∃q,gk=q+1:= ⟨gk-1,ω⟩;have t:(few:Int)<(q:Int)+1:=ω;obtain⟨H,hA, -,p⟩ :=x.out.at_ (i:=q) ω;obtain⟨X,b⟩ :=ν (ix l q);rw[b]at p;subst hA;by_cases d:X=0
    · have f:=η ((Ec ⟨o,by rw[b];exact d⟩).symm.trans ht.out);subst d;clear b ht
      go_wp2_with fail
      go_roundg q
      case measure=>omega
      case rel=>exact⟨by go_num,rfl,ω,f.out⟩
    · have f:=η ((vQ (by rw[b];exact λh=>d h.2)).symm.trans ht.out);have v:(X==0)=false:=by simpa using d
      have m:=r.out (q+1) ω;clear b ht d
      go_wp2_with fail
      go_ret
      exact⟨by rw[<-f.out];rfl,rfl⟩
  · have t:¬(few:Int)<(gk:Int):=ω;have f:=η ((yy (l:=l) (show gk<=few by omega)).symm.trans ht.out);have m:=r.out gk ω;clear ht
    go_wp2_with fail
    go_ret
    exact⟨by rw[<-f.out];rfl,rfl⟩
def xj (L:List Int) (raw:List Int):List Int:=kE L++aX raw.length 16++aX (4294967295-(raw.length:Int)) 16++bV raw
theorem Gp (L:List Int) (a b:Int):kE (kE L++aX a 16++aX b 16)=kE L++aX a 16++aX b 16:=
 Cn (by rw[List.length_append,List.length_append,af,af];have:=jA L;omega)
theorem VB (V:Nat) (h:V<4294967296):bits .xor .u32 IntKind.u32.max (V:Int)=4294967295-(V:Int):=by
 show IntKind.u32.wrap ((BitVec.ofInt 32 IntKind.u32.max ^^^ BitVec.ofInt 32 (V:Int)).toNat:Int)=_
 have e:BitVec.ofInt 32 IntKind.u32.max=BitVec.allOnes 32:=δ;rw[e,BitVec.allOnes_xor,BitVec.toNat_not,ofInt_u32 V h,IntKind.wrap_u32'];omega
theorem GN (w:World) (b0 g n c B m d:Nat) (A C:Option Addr) (L raw:List Int) (s:kv w b0 g A n c L) (j:aT .u8 w B C m raw) (o:B<=w.heap.size) (i:0<m->∀p,C=some p->¬foot A g p.block) (b:∀x∈raw,0<=x/\x<256) (a:L.length<=3000000000000) (hm:m<=65535):
  Calls Tryz.prog 70 #[.pointer (some ⟨g,0,none⟩), .slice C m d] w λe w'=>e= .returned (.tuple #[])/\eR w w' b0 g A (xj L raw):=by
 have K4:(0:Int)<=(m:Int)/\(m:Int)<=65535:=ω;have v:(kE L).length<=L.length+7:=by rw[fV];omega
 have G:=j.1;have K:=η (VB m ω);have u:=η (show kE (kE L++aX (m:Int) 16++aX (4294967295-(m:Int)) 16)++bV raw=xj L raw by rw[Gp];unfold xj;rw[<-G]);have E:=η (⟨s,j,o,i,b,a,v⟩ :_/\_/\_/\_/\_/\_/\_);have HA:=η (lZ w b0 g n c A L s ω);clear s j o i b a v G;go_enter Tryz.func70,Tryz.ntmps70
 go_wp2_with fail
 refine HA.out.mono ?_;rintro e w1 ⟨A1,n1,c1,rfl,F,t,qM⟩;have X:=η (eR.next (aq.refl w (foot A g)) (λk l=> .inl l) F t qM);have Z:=η (X.out.put (m:Int) 16 ω ω (by have:=E.out;omega));clear F t qM
 go_wp2_with fail
 refine Z.out.mono ?_;rintro e w2 ⟨rfl,J⟩;obtain⟨V,I⟩ :=ν (4294967295-(m:Int));have T:0<=V/\V<4294967296:=ω;rw[I]at K u;have Y:=η (J.put V 16 T ω (by rw[List.length_append,af];have:=E.out;omega));have Q:bits .xor .u32 (if IntKind.u32.signed=true then -1 else IntKind.u32.max) (m:Int)=V:=K.out;clear J I
 go_wp2_with fail
 refine Y.out.mono ?_;rintro e O ⟨rfl,U⟩;obtain⟨s,j,o,i,b,a,v⟩ :=E.out;obtain⟨⟨A3,P,W,r,qN⟩,f⟩ :=U
 have M:=η (Bh O b0 g P W B m d A3 C _ raw r (f.oH j o i) (Nat.le_trans o f.size) (λD p e l=>by
  have S:p.block<w.heap.size:=by
   obtain⟨EN,y,z,_⟩ :=j.2 D;rw[e]at y;injection y with y;rw[y];exact Nat.lt_of_lt_of_le z o
  rcases l with l | l
  · exact i D p e (.inl l)
  · rcases qN _ l with h | h
    · exact i D p e (.inr h)
    · omega) b (by rw[List.length_append,List.length_append,af,af];omega) ω)
 rw[u.out]at M;have N:=η (⟨qN,f⟩ :_/\_);clear s j o i b a v r qN f Q
 go_wp2_with fail
 refine M.out.mono ?_;rintro e w4 ⟨A4,n4,c4,rfl,q,H,Qc⟩;have R:=η (eR.next N.out.2 N.out.1 q H Qc);clear q H Qc
 go_wp2_with fail
 go_end0
 exact⟨rfl,R.out⟩
def QA (a b c d e:Value):Nat->Value
 | 0=>a
 | 1=>b
 | 2=>c
 | 3=>d
 | _=>e
def tv:Value:= .slice none 0 0
theorem AJ (w:World) (a b c d e:Value) (t:TypeId):Ar (w.alloc (.cells #[a,b,c,d,e] t)) w.heap.size 5 (QA a b c d e):=
 Ar.new w _ t rfl λi hi=>by
  obtain rfl | rfl | rfl | rfl | rfl:i=0\/i=1\/i=2\/i=3\/i=4:=ω
  all_goals rfl
structure jG (w wx:World) (R P:Nat) (a b c d e:Value):Prop where
 res:Ar wx R 5 (QA tv tv tv tv (.int .i64 0))
 box:Ar wx P 5 (QA a b c d e)
 ou:Below w.heap.size w wx
 KM:w.heap.size<=R
 EA:R<P
section
variable {w wx w':World} {R P:Nat} {a b c d e:Value}
theorem jG.drew (h:jG w wx R P a b c d e):jG w wx.drew R P a b c d e:= ⟨h.res,h.box, ⟨h.ou.os,h.ou.tape,h.ou.output,h.ou.size,h.ou.block⟩,h.KM,h.EA⟩
theorem jG.alloc (h:jG w wx R P a b c d e) (o:Obj):jG w (wx.alloc o) R P a b c d e:= ⟨h.res.alloc o,h.box.alloc o,h.ou.alloc h.ou.size o,h.KM,h.EA⟩
theorem jG.keeps (h:jG w wx R P a b c d e) (f:Below wx.heap.size wx w'):jG w w' R P a b c d e:= ⟨h.res.keeps f,h.box.keeps f,h.ou.trans (f.mono h.ou.size),h.KM,h.EA⟩
theorem jG.far (h:jG w wx R P a b c d e) {p:Addr} (g:R≠p.block) (i:P≠p.block) (f:w.heap.size<=p.block) (v:Value):jG w (wx.setCell p v) R P a b c d e:= ⟨h.res.far g v,h.box.far i v,h.ou.setCell f v,h.KM,h.EA⟩
theorem jG.ne (h:jG w wx R P a b c d e):R≠P:=by have:=h.EA;omega
theorem jG.lo (h:jG w wx R P a b c d e):w.heap.size<=P:=by have:=h.EA;have:=h.KM;omega
theorem jG.put (h:jG w wx R P a b c d e) {i:Nat} (hi:i<5) (v:Value) {a' k c' g f:Value} (l:∀j,j<5->upd (QA a b c d e) i v j=QA a' k c' g f j):jG w (wx.setCell ⟨P,i,none⟩ v) R P a' k c' g f:=
 ⟨h.res.far (p:= ⟨P,i,none⟩) h.ne v,(h.box.aQ hi v).congr l,h.ou.setCell (p:= ⟨P,i,none⟩) h.lo v,h.KM,h.EA⟩
theorem jG.Y3 (h:jG w wx R P a b c d e) (v:Value):jG w (wx.setCell ⟨P,0,none⟩ v) R P v b c d e:=h.put ω v λj f=>by
 obtain rfl | rfl | rfl | rfl | rfl:j=0\/j=1\/j=2\/j=3\/j=4:=ω
 all_goals rfl
theorem jG.Y4 (h:jG w wx R P a b c d e) (v:Value):jG w (wx.setCell ⟨P,1,none⟩ v) R P a v c d e:=h.put ω v λj f=>by
 obtain rfl | rfl | rfl | rfl | rfl:j=0\/j=1\/j=2\/j=3\/j=4:=ω
 all_goals rfl
theorem jG.a5A (h:jG w wx R P a b c d e) (v:Value):jG w (wx.setCell ⟨P,2,none⟩ v) R P a b v d e:=h.put ω v λj f=>by
 obtain rfl | rfl | rfl | rfl | rfl:j=0\/j=1\/j=2\/j=3\/j=4:=ω
 all_goals rfl
theorem jG.a5B (h:jG w wx R P a b c d e) (v:Value):jG w (wx.setCell ⟨P,3,none⟩ v) R P a b c v e:=h.put ω v λj f=>by
 obtain rfl | rfl | rfl | rfl | rfl:j=0\/j=1\/j=2\/j=3\/j=4:=ω
 all_goals rfl
theorem jG.SV (h:jG w wx R P a b c d e) (v:Value):jG w (wx.setCell ⟨P,4,none⟩ v) R P a b c d v:=h.put ω v λj f=>by
 obtain rfl | rfl | rfl | rfl | rfl:j=0\/j=1\/j=2\/j=3\/j=4:=ω
 all_goals rfl
theorem jG.cells (h:jG w wx R P a b c d e):(wx.cell? ⟨P,0,none⟩ =some a/\wx.cell? ⟨P,1,none⟩ =some b/\wx.cell? ⟨P,2,none⟩ =some c/\wx.cell? ⟨P,3,none⟩ =some d/\wx.cell? ⟨P,4,none⟩ =some e)/\∀i,i<5->wx.frozen? ⟨P,i,none⟩ =false:=
 ⟨⟨h.box.cell (i:=0) ω,h.box.cell (i:=1) ω,h.box.cell (i:=2) ω,h.box.cell (i:=3) ω,h.box.cell (i:=4) ω⟩,λi hi=>h.box.frozen' hi⟩
end
theorem Own.pre {w:World} {b0:Nat} {e:TypeId} {k n c:Nat} {A:Option Addr} {f:Nat->Value} (h:Own w b0 e k A n c f) {j:Nat} (m:j<=n):Own w b0 e k A j c f:=by
 rcases h with ⟨b,l,a⟩ | ⟨g,d,b,l,a,h4,h5,h6,h7⟩
 · exact .inl ⟨b,ω,a⟩
 · exact .inr ⟨g,d,b,l,a,ω,h5,h6,λi hi=>h7 i (Nat.lt_of_lt_of_le hi (Nat.mul_le_mul_right _ m))⟩
theorem ag.pre {k:IntKind} {w:World} {b0:Nat} {e:TypeId} {n c:Nat} {A:Option Addr} {l:List Int} (h:ag k w b0 e A n c l) {j:Nat} (a:j<=n):ag k w b0 e A j c (l.take j):=
 ⟨by rw[List.length_take,<-h.1];omega,(h.2.pre a).congr λi hi=>by rw[fK ω]⟩
theorem ag.cap {k:IntKind} {w:World} {b0:Nat} {e:TypeId} {n c:Nat} {A:Option Addr} {l:List Int} (h:ag k w b0 e A n c l):n<=c:=by
 rcases h.2 with ⟨d,b,a⟩ | ⟨g,f,d,b,a,h4,h5,h6,h7⟩
 · omega
 · exact h4
structure qU (b:Nat) (wx:World) (P:Nat) (Al Ad:Option Addr) (nl cl nd cd:Nat) (l d:List Int):Prop where
 lit:ag .i64 wx b 3 Al nl cl l
 ak:ag .i64 wx b 3 Ad nd cd d
 lp:aa Al≠some P
 dp:aa Ad≠some P
 ld:∀k,aa Al=some k->aa Ad≠some k
section
variable {b:Nat} {wx w':World} {P:Nat} {Al Ad:Option Addr} {nl cl nd cd:Nat} {l d:List Int}
theorem qU.drew (h:qU b wx P Al Ad nl cl nd cd l d):qU b wx.drew P Al Ad nl cl nd cd l d:= ⟨h.lit,h.ak,h.lp,h.dp,h.ld⟩
theorem qU.alloc (h:qU b wx P Al Ad nl cl nd cd l d) (o:Obj):qU b (wx.alloc o) P Al Ad nl cl nd cd l d:= ⟨h.lit.alloc o,h.ak.alloc o,h.lp,h.dp,h.ld⟩
theorem qU.keeps (h:qU b wx P Al Ad nl cl nd cd l d) (a:Below wx.heap.size wx w'):qU b w' P Al Ad nl cl nd cd l d:= ⟨h.lit.keeps a,h.ak.keeps a,h.lp,h.dp,h.ld⟩
theorem qU.put (h:qU b wx P Al Ad nl cl nd cd l d) (i:Nat) (v:Value):qU b (wx.setCell ⟨P,i,none⟩ v) P Al Ad nl cl nd cd l d:= ⟨h.lit.far (p:= ⟨P,i,none⟩) h.lp v,h.ak.far (p:= ⟨P,i,none⟩) h.dp v,h.lp,h.dp,h.ld⟩
end
theorem qU.pre {b:Nat} {wx:World} {P:Nat} {Al Ad:Option Addr} {nl cl nd cd c a:Nat} {l d:List Int} (h:qU b wx P Al Ad nl cl nd cd l d) (f:c<=nl) (e:a<=nd):qU b wx P Al Ad c cl a cd (l.take c) (d.take a):= ⟨h.lit.pre f,h.ak.pre e,h.lp,h.dp,h.ld⟩
theorem Dp {w wx w':World} {R P:Nat} {a b c d e:Value} {Al Ad:Option Addr} {nl cl nd cd:Nat} {l D:List Int} {row:Option Nat} (h:jG w wx R P a b c d e) (g:qU (R+1) wx P Al Ad nl cl nd cd l D)
  (f:∀k,row=some k->R<k/\k≠P/\aa Al≠some k/\aa Ad≠some k) (i:wx.grownBy w' row):jG w w' R P a b c d e/\qU (R+1) w' P Al Ad nl cl nd cd l D:=by
 have ne:∀k,¬(R<k/\k≠P/\aa Al≠some k/\aa Ad≠some k)->some k≠row:=λk j e=>j (f k e.symm)
 refine⟨⟨h.res.grown i (ne _ ω),h.box.grown i (ne _ ω),h.ou.grown i h.ou.size λk j=>by have:=f k j;have:=h.KM;omega,h.KM,h.EA⟩, ⟨g.lit.grown i ?_,g.ak.grown i ?_,g.lp,g.dp,g.ld⟩⟩
 · cases hA:aa Al with
   | none=>exact .inr rfl
   | some k=>exact .inl (ne k λh=>h.2.2.1 hA)
 · cases hA:aa Ad with
   | none=>exact .inr rfl
   | some k=>exact .inl (ne k λh=>h.2.2.2 hA)
inductive TrI (AL AD:Option Addr) (cL cD n1 n2:Nat):Option Addr->Nat->Nat->Int->Nat->Prop
 | lit:TrI AL AD cL cD n1 n2 AL 286 cL 257 n1
 | ak:TrI AL AD cL cD n1 n2 AD 30 cD 1 n2
theorem PO {b P:Nat} {f g:Option Addr} {a d:Nat} {t:List aF} (W:World) (h:qU b W P f g 286 a 30 d (rM t) (ll t)) (A:Option Addr) (n c:Nat) (few:Int) (m:Nat) (i:TrI f g a d (bZ t) (cG t) A n c few m):
  Calls Tryz.prog 93 #[.slice A n c, .int .i64 few] W λe w'=>e= .returned (.slice A m c)/\W=w':=by
 cases i with
 | lit=>exact sL W f 286 a _ 257 _ h.lit.rd ω h.lit.cap ω
 | ak=>exact sL W g 30 d _ 1 _ h.ak.rd ω h.ak.cap ω
theorem sR.Q8 {w:World} {B n:Nat} {A:Option Addr} {l:List Rn} (h:sR w B A n l) {k:Nat} (f:k<n):∃a,A=some a/\a.block<B/\w.cell? (a.add (k*3))=some (.int .i64 (kr l k).c)/\w.cell? { block:=(a.add (k*3)).block,off:=(a.add (k*3)).off+1 }=some (.int .i64 (kr l k).v)/\w.cell? { block:=(a.add (k*3)).block,off:=(a.add (k*3)).off+2 }=some (.int .i64 (kr l k).e):=by
 obtain⟨a,e,d,b⟩ :=h.2 ω;refine⟨a,e,d, ?_, ?_, ?_⟩
 · rw[b _ ω,a2M]
 · have:=b (k*3+1) ω;rw[gp _ _ _ ω,a2N]at this;exact this
 · have:=b (k*3+2) ω;rw[gp _ _ _ ω,a2O]at this;exact this
theorem vB {l:List Rn} {k:Nat} (a:k<l.length):kr l k∈l:=by
 have e:kr l k=l[k]:=by simp [kr,a]
 rw[e];exact List.getElem_mem a
theorem AY {l:List Rn} {k:Nat} (h:k<l.length):l.take (k+1)=l.take k++[kr l k]:=by
 rw[List.take_succ_eq_append_getElem h];simp [kr,h]
structure TC (w wx:World) (R P gh:Nat) (Al Ad:Option Addr) (nl cl nd cd:Nat) (l d:List Int) (Ar:Option Addr) (nr cr:Nat) (rs:List Rn) (hl:List Int):Prop where
 s:jG w wx R P (.slice Al nl cl) (.slice Ad nd cd) (.slice none 0 0) (.slice Ar nr cr) (.int .i64 0)
 r:qU (R+1) wx P Al Ad nl cl nd cd l d
 o:gD wx (R+1) Ar nr cr rs
 op:aa Ar≠some P
 h:ag .i64 wx (R+1) 3 (some ⟨gh,0,none⟩) 19 19 hl
 hp:gh≠P
 hA:aa Al≠some gh
 hD:aa Ad≠some gh
 hO:aa Ar≠some gh
section
variable {w wx w':World} {R P gh:Nat} {Al Ad:Option Addr} {nl cl nd cd:Nat} {l d:List Int} {Ar:Option Addr} {nr cr:Nat} {rs:List Rn} {hl:List Int}
theorem TC.alloc (h:TC w wx R P gh Al Ad nl cl nd cd l d Ar nr cr rs hl) (o:Obj):TC w (wx.alloc o) R P gh Al Ad nl cl nd cd l d Ar nr cr rs hl:= ⟨h.s.alloc o,h.r.alloc o,h.o.alloc o,h.op,h.h.alloc o,h.hp,h.hA,h.hD,h.hO⟩
theorem TC.set (h:TC w wx R P gh Al Ad nl cl nd cd l d Ar nr cr rs hl) {i:Nat} (hi:i<19) (v:Int):TC w (wx.setCell ⟨gh,i,none⟩ (.int .i64 v)) R P gh Al Ad nl cl nd cd l d Ar nr cr rs (hl.set i v):=by
 have a:R+1<=gh:=(h.h.2.lt rfl).1;refine⟨h.s.far (p:= ⟨gh,i,none⟩) (by show R≠gh;omega) (λe=>h.hp e.symm) (by show w.heap.size<=gh;have:=h.s.KM;omega) _, ⟨h.r.lit.far (p:= ⟨gh,i,none⟩) h.hA _,h.r.ak.far (p:= ⟨gh,i,none⟩) h.hD _,h.r.lp,h.r.dp,h.r.ld⟩, ⟨h.o.1,h.o.2.far (p:= ⟨gh,i,none⟩) h.hO _⟩,h.op,h.h.put hi v,h.hp,h.hA,h.hD,h.hO⟩
end
def mM (w:World) (g:Nat):Prop:=w.heap[g]?=some (.cells fG 142 (0,0))
theorem mM.new (w:World):mM (w.alloc (.cells fG 142)) w.heap.size:=heap_alloc_new w _
theorem mM.cell {w:World} {g i:Nat} (h:mM w g) (hi:i<19):w.cell? ⟨g,i,none⟩ =some (.int .i64 (ix eL i)):=by
 rw[cell_of_row w g i fG _ _ h,SS i hi]
theorem mM.far {w:World} {g:Nat} (h:mM w g) {p:Addr} (hp:g≠p.block) (v:Value):mM (w.setCell p v) g:=(Below.heap_setCell w p v g hp).trans h
theorem OV:fG.all (·.oneCell')=true:=by simp [fG,eL,Value.oneCell']
theorem pI {b:Array Oper} {rest:List Oper} {o:Oper} {a:Act} {w:World} {Q:Exit->Act->World->Prop} (c:o.guard=none) (x y:Operand) (i:o.op= .store 142 x y) (hd:o.dst=none) (g:Nat) (j:g=w.heap.size) (f:a.eval x= .pointer (some ⟨g,0,none⟩)) (e:a.eval y= .agg fG)
  (zs:Array Value) (d:zs.size=19) (h:wpList Tryz.prog b Q rest a (w.alloc (.cells fG 142))):wpList Tryz.prog b Q (o::rest) a (w.alloc (.cells zs 142)):=by
 subst j;refine wpList_store_rowTo c 142 x y i hd w.heap.size fG f e 142 zs (heap_alloc_new w _) (by kernel_rfl) d OV ?_;rw[World.setRow_alloc_new];exact h
structure yN (w wx:World) (R P:Nat) (Al Ad Ah Ar:Option Addr) (nl cl nd cd ch nr cr:Nat) (l d:List Int) (rs:List Rn) (hd:List Int) (n:Nat):Prop where
 s:jG w wx R P (.slice Al nl cl) (.slice Ad nd cd) (.slice Ah 19 ch) (.slice Ar nr cr) (.int .i64 (n:Int))
 r:qU (R+1) wx P Al Ad nl cl nd cd l d
 o:gD wx (R+1) Ar nr cr rs
 op:aa Ar≠some P
 h:ag .i64 wx (R+1) 3 Ah 19 ch hd
 hp:aa Ah≠some P
section
variable {w wx w':World} {R P:Nat} {Al Ad Ah Ar:Option Addr} {nl cl nd cd ch nr cr:Nat} {l d:List Int} {rs:List Rn} {hd:List Int} {n:Nat}
theorem yN.drew (h:yN w wx R P Al Ad Ah Ar nl cl nd cd ch nr cr l d rs hd n):yN w wx.drew R P Al Ad Ah Ar nl cl nd cd ch nr cr l d rs hd n:= ⟨h.s.drew,h.r.drew,h.o,h.op,h.h,h.hp⟩
theorem yN.drewN (h:yN w wx R P Al Ad Ah Ar nl cl nd cd ch nr cr l d rs hd n) (q:Nat):yN w (wx.drewN q) R P Al Ad Ah Ar nl cl nd cd ch nr cr l d rs hd n:= ⟨⟨h.s.res,h.s.box, ⟨h.s.ou.os,h.s.ou.tape,h.s.ou.output,h.s.ou.size,h.s.ou.block⟩,h.s.KM,h.s.EA⟩, ⟨h.r.lit,h.r.ak,h.r.lp,h.r.dp,h.r.ld⟩,h.o,h.op,h.h,h.hp⟩
theorem yN.alloc (h:yN w wx R P Al Ad Ah Ar nl cl nd cd ch nr cr l d rs hd n) (o:Obj):yN w (wx.alloc o) R P Al Ad Ah Ar nl cl nd cd ch nr cr l d rs hd n:= ⟨h.s.alloc o,h.r.alloc o,h.o.alloc o,h.op,h.h.alloc o,h.hp⟩
theorem yN.keeps (h:yN w wx R P Al Ad Ah Ar nl cl nd cd ch nr cr l d rs hd n) (a:Below wx.heap.size wx w'):yN w w' R P Al Ad Ah Ar nl cl nd cd ch nr cr l d rs hd n:= ⟨h.s.keeps a,h.r.keeps a,h.o.keeps a,h.op,h.h.keeps a,h.hp⟩
theorem yN.SV (h:yN w wx R P Al Ad Ah Ar nl cl nd cd ch nr cr l d rs hd n) (m:Nat):yN w (wx.setCell ⟨P,4,none⟩ (.int .i64 (m:Int))) R P Al Ad Ah Ar nl cl nd cd ch nr cr l d rs hd m:= ⟨h.s.SV _,h.r.put 4 _, ⟨h.o.1,h.o.2.far (p:= ⟨P,4,none⟩) h.op _⟩,h.op,h.h.far (p:= ⟨P,4,none⟩) h.hp _,h.hp⟩
end
def Hi (b:Nat) (A:Option Addr):Prop:=∀k,aa A=some k->b<=k
def tY (w:World) (t:List aF) (e:Ending) (w':World):Prop:=
 ∃Al cl Ad cd Ah ch Ar cr,e= .returned (.agg #[.slice Al (bZ t) cl, .slice Ad (cG t) cd, .slice Ah 19 ch, .slice Ar (aP t).length cr, .int .i64 ((ko t:Nat):Int)])/\
  aT .i64 w' w'.heap.size Al (bZ t) (bM t)/\aT .i64 w' w'.heap.size Ad (cG t) (aV t)/\aT .i64 w' w'.heap.size Ah 19 (aO t)/\sR w' w'.heap.size Ar (aP t).length (aP t)/\Below w.heap.size w w'/\(Hi w.heap.size Al/\Hi w.heap.size Ad/\Hi w.heap.size Ah/\Hi w.heap.size Ar)
def SX (w:World) (R:Nat) (a b c d e:Value):World:=((((w.setCell ⟨R,0,none⟩ a).setCell ⟨R,1,none⟩ b).setCell ⟨R,2,none⟩ c).setCell ⟨R,3,none⟩ d).setCell ⟨R,4,none⟩ e
theorem SY {w:World} {R:Nat} {a b c d e:Value} {f:Nat->Value} (h:Ar w R 5 f):Ar (SX w R a b c d e) R 5 (QA a b c d e):=by
 refine(((((h.aQ (i:=0) ω a).aQ (i:=1) ω b).aQ (i:=2) ω c).aQ (i:=3) ω d).aQ (i:=4) ω e).congr λj g=> ?_
 obtain rfl | rfl | rfl | rfl | rfl:j=0\/j=1\/j=2\/j=3\/j=4:=ω
 all_goals rfl
theorem Pb (w:World) (R:Nat) (a b c d e:Value):aq w (SX w R a b c d e) (λk=>k=R):=
 (((((aq.refl w (λk=>k=R)).setCell (p:= ⟨R,0,none⟩) (.inl rfl) a).setCell (p:= ⟨R,1,none⟩) (.inl rfl) b).setCell (p:= ⟨R,2,none⟩) (.inl rfl) c).setCell (p:= ⟨R,3,none⟩) (.inl rfl) d).setCell (p:= ⟨R,4,none⟩) (.inl rfl) e
theorem P9 {w wx:World} {R P:Nat} {Al Ad Ah Ar:Option Addr} {nl cl nd cd ch nr cr:Nat} {t:List aF} {n:Nat} (h:yN w wx R P Al Ad Ah Ar nl cl nd cd ch nr cr (bM t) (aV t) (aP t) (aO t) n) (v:bZ t=nl) (u:cG t=nd) (q:n=ko t) (a b c d e:Value):
  tY w t (.returned (.agg #[.slice Al nl cl, .slice Ad nd cd, .slice Ah 19 ch, .slice Ar nr cr, .int .i64 (n:Int)])) (SX wx R a b c d e):=by
 have l:=Pb wx R a b c d e;have g:∀(A:Option Addr) (e:TypeId) (i n c:Nat) (f:Nat->Value),Own wx (R+1) e i A n c f->∀k,aa A=some k->¬k=R:=λA e i n c f p k j=>by have:=(p.lt j).1;omega
 have m:∀(A:Option Addr) (e:TypeId) (i n c:Nat) (f:Nat->Value),Own wx (R+1) e i A n c f->Hi w.heap.size A:=λA e i n c f p k j=>by have:=(p.lt j).1;have:=h.s.KM;omega
 subst v u q;refine⟨Al,cl,Ad,cd,Ah,ch,Ar,cr, ?_,(l.bf h.r.lit (g _ _ _ _ _ _ h.r.lit.2)).rd,(l.bf h.r.ak (g _ _ _ _ _ _ h.r.ak.2)).rd,(l.bf h.h (g _ _ _ _ _ _ h.h.2)).rd, ?_,h.s.ou.trans (l.below (λk j=>by rw[j];exact h.s.KM) h.s.ou.size),m _ _ _ _ _ _ h.r.lit.2,m _ _ _ _ _ _ h.r.ak.2,m _ _ _ _ _ _ h.h.2,m _ _ _ _ _ _ h.o.2⟩
 · rw[h.o.1]
 · have:=(show gD (SX wx R a b c d e) (R+1) Ar nr cr (aP t) from⟨h.o.1,l.own h.o.2 (g _ _ _ _ _ _ h.o.2)⟩).rd;rw[h.o.1]at this;exact this
theorem AV {w:World} {R:Nat} {a b c d e:Value} {tmps:Array Value} (g:Ar w R 5 (QA a b c d e)) (n:tmps[2]?.getD undef= .pointer (some ⟨R,0,none⟩)):
  (results Tryz.f73 tmps).run Tryz.prog w= .ok (.agg #[a,b,c,d,e]) w:=by
 have m:=g.cell (i:=0) ω;have l:=g.cell (i:=1) ω;have k:=g.cell (i:=2) ω;have j:=g.cell (i:=3) ω;have h:=g.cell (i:=4) ω;unfold QA at m l k j h;simp [results,Tryz.results73,go_sem,n,m,l,k,j,h]
structure BP (w:World) (G b1 B:Nat) (t:List aF) (Al Ad Ah Ax:Option Addr) (cl cd ch cr:Nat):Prop where
 box:Ar w G 5 (QA (.slice Al (bZ t) cl) (.slice Ad (cG t) cd) (.slice Ah 19 ch) (.slice Ax (aP t).length cr) (.int .i64 ((ko t:Nat):Int)))
 lit:aT .i64 w B Al (bZ t) (bM t)
 ak:aT .i64 w B Ad (cG t) (aV t)
 head:aT .i64 w B Ah 19 (aO t)
 runs:sR w B Ax (aP t).length (aP t)
 Ij:Hi b1 Al/\Hi b1 Ad/\Hi b1 Ah/\Hi b1 Ax
 lo:b1<=G
 hi:G<B
section
variable {w w':World} {G b1 B:Nat} {t:List aF} {Al Ad Ah Ax:Option Addr} {cl cd ch cr:Nat}
theorem BP.below {B':Nat} (h:BP w G b1 B t Al Ad Ah Ax cl cd ch cr) (a:Below B' w w') (b:B<=B'):BP w' G b1 B t Al Ad Ah Ax cl cd ch cr:=
 ⟨h.box.below a (Nat.lt_of_lt_of_le h.hi b),h.lit.below (a.mono b),h.ak.below (a.mono b),h.head.below (a.mono b),h.runs.below (a.mono b),h.Ij,h.lo,h.hi⟩
theorem BP.cv {S:Nat->Prop} (h:BP w G b1 B t Al Ad Ah Ax cl cd ch cr) (g:aq w w' S) (q:B<=w.heap.size) (j:∀k,S k->k<b1\/B<=k):BP w' G b1 B t Al Ad Ah Ax cl cd ch cr:=by
 have d:∀(A:Option Addr) (n:Nat) (l:List Int),aT .i64 w B A n l->Hi b1 A->aT .i64 w' B A n l:=λA n l hl hA=>g.oH hl q λs c e a=>by
  have r:=hA c.block (by rw[e];rfl);obtain⟨u,b,o,_⟩ :=hl.2 s;rw[e]at b;injection b with b;subst b;rcases j _ a with h | h <;> omega
 refine⟨g.ar h.box λa=> ?_,d _ _ _ h.lit h.Ij.1,d _ _ _ h.ak h.Ij.2.1,d _ _ _ h.head h.Ij.2.2.1, ⟨h.runs.1,λm=> ?_⟩,h.Ij,h.lo,h.hi⟩
 · have:=h.lo;have:=h.hi;rcases j _ a with h | h <;> omega
 · obtain⟨c,e,p,f⟩ :=h.runs.2 m;have r:=h.Ij.2.2.2 c.block (by rw[e];rfl);exact⟨c,e,p,λi hi=>(g.cell (by rw[aw];omega) (by rw[aw];intro a;rcases j _ a with h | h <;> omega)).trans (f i hi)⟩
theorem BP.cells (h:BP w G b1 B t Al Ad Ah Ax cl cd ch cr):w.cell? ⟨G,0,none⟩ =some (.slice Al (bZ t) cl)/\w.cell? ⟨G,1,none⟩ =some (.slice Ad (cG t) cd)/\w.cell? ⟨G,2,none⟩ =some (.slice Ah 19 ch)/\w.cell? ⟨G,3,none⟩ =some (.slice Ax (aP t).length cr)/\w.cell? ⟨G,4,none⟩ =some (.int .i64 ((ko t:Nat):Int)):=
 ⟨h.box.cell (i:=0) ω,h.box.cell (i:=1) ω,h.box.cell (i:=2) ω,h.box.cell (i:=3) ω,h.box.cell (i:=4) ω⟩
theorem BP.new {a:World} {v:Value} {w:World} (h:tY a t (.returned v) w):∃Al Ad Ah Ax cl cd ch cr,v= .agg #[.slice Al (bZ t) cl, .slice Ad (cG t) cd, .slice Ah 19 ch, .slice Ax (aP t).length cr, .int .i64 ((ko t:Nat):Int)]/\Below a.heap.size a w/\
  BP (w.alloc (.cells #[.slice Al (bZ t) cl, .slice Ad (cG t) cd, .slice Ah 19 ch, .slice Ax (aP t).length cr, .int .i64 ((ko t:Nat):Int)] 116)) w.heap.size a.heap.size (w.heap.size+1) t Al Ad Ah Ax cl cd ch cr:=by
 obtain⟨Al,cl,Ad,cd,Ah,ch,Ax,cr,e,i,g,f,h4,c,d⟩ :=h;injection e with e;have b:=(Below.refl w.heap.size w).alloc (Nat.le_refl _) (.cells #[.slice Al (bZ t) cl, .slice Ad (cG t) cd, .slice Ah 19 ch, .slice Ax (aP t).length cr, .int .i64 ((ko t:Nat):Int)] 116);exact⟨Al,Ad,Ah,Ax,cl,cd,ch,cr,e,c,AJ w _ _ _ _ _ _,(i.below b).more (Nat.le_succ _),(g.below b).more (Nat.le_succ _),(f.below b).more (Nat.le_succ _),(h4.below b).more (Nat.le_succ _),d,c.size,Nat.lt_succ_self _⟩
end
def nK (hd:List Int) (r:Rn):Int:=ix hd r.c.toNat+r.e
def eB (hd:List Int) (rs:List Rn):Int:=(rs.map (nK hd)).sum
def LJ (t:List aF):Int:=14+3*((ko t:Nat):Int)+eB (aO t) (aP t)
theorem B0 (hd:List Int) {rs:List Rn} {k:Nat} (h:k<rs.length):eB hd (rs.take (k+1))=eB hd (rs.take k)+nK hd (kr rs k):=by rw[AY h];simp [eB]
theorem pC {hd:List Int} (a:∀i,i<19->0<=ix hd i/\ix hd i<=7):∀rs:List Rn,(∀r∈rs,sS r)->0<=eB hd rs/\eB hd rs<=14*rs.length
 | [],_=>by simp [eB]
 | r::rs,h=>by
   have f:=pC a rs λx d=>h x (List.mem_cons_of_mem _ d)
   have b:=h r List.mem_cons_self;have e:=a r.c.toNat (by have:=b.1;omega);have h4:=b.2.2.1;show 0<=nK hd r+eB hd rs/\nK hd r+eB hd rs<=_
   unfold nK;rw[List.length_cons];omega
theorem qh (t:List aF):∀i,i<19->0<=ix (aO t) i/\ix (aO t) i<=7:=λi hi=>mO (fA t) i (by rw[iD];exact hi)
theorem Pu (w:World) (G b1 B:Nat) (t:List aF) (Al Ad Ah Ax:Option Addr) (cl cd ch cr:Nat) (hp:BP w G b1 B t Al Ad Ah Ax cl cd ch cr) (ht:t.length<1048576) (U:B<=w.heap.size):
  Calls Tryz.prog 98 #[.pointer (some ⟨G,0,none⟩)] w λe w'=>e= .returned (.int .i64 (LJ t))/\Below w.heap.size w w':=by
 obtain⟨-, -, -,A,S⟩ :=hp.cells;have T:=py t;have D:=iE t;have d:=gB ht;have J:=qh t;obtain⟨n,F⟩ :=ν (ko t);obtain⟨rs,v⟩ :=ν (aP t);obtain⟨hd,z⟩ :=ν (aO t);obtain⟨nr,y⟩ :=ν (rs.length);have h:LJ t=14+3*(n:Int)+eB hd rs:=by rw[<-F,<-v,<-z];rfl
 rw[v]at D d A;rw[z]at J;rw[F]at T S;rw[y]at D A;have Lg:Hid (sR w B Ax nr rs):=by have:=hp.runs;rw[v,y]at this;exact this
 have Tq:Hid (aT .i64 w B Ah 19 hd):=by have:=hp.head;rw[z]at this;exact this
 have R:Hid (G<w.heap.size/\w.cell? ⟨G,2,none⟩ =some (.slice Ah 19 ch)):= ⟨hp.box.lt,hp.box.cell (i:=2) ω⟩;have b:=η (⟨U,d,J,y⟩ :_/\_/\_/\_);have Ep:=η h;have rE:(4:Int)<=(n:Int)/\(n:Int)<=19/\(0:Int)<=(nr:Int)/\(nr:Int)<=316:=ω;clear hp T D d J F v z y h U ht;go_enter Tryz.func98,Tryz.ntmps98
 go_wp2_with fail
 clear A S
 go_loopg [3,17] nr (λ(gk:Nat) (v3 v17:Value) wx=>∃(k:Nat) (s:Int),v3= .int .i64 s/\v17= .int .i64 k/\k<=nr/\Hid (s=14+3*(n:Int)+eB hd (rs.take k))/\Hid (Below w.heap.size w wx)/\Hid (gk=nr-k))
 case atStart=>exact⟨0,14+3*(n:Int),rfl,rfl,Nat.zero_le _,by show _=_;simp [eB],Below.refl _ _,rfl⟩
 case round=>
  obtain⟨k,s,rfl,rfl,hk,u,f,hg⟩ :=hrel;by_cases a:k<nr
  · have mA:(k:Int)<(nr:Int)/\(0:Int)<=(k:Int):=ω;have H:k<rs.length:=by rw[b.out.2.2.2];exact a
    obtain⟨q,hA,K,Q,P,O⟩ :=(Lg.out.below (f.out.mono b.out.1)).Q8 a;have d:=b.out.2.1 _ (vB H);have g:=B0 hd H;have fH:=pC b.out.2.2.1 (rs.take k) λr x=>b.out.2.1 r (List.mem_of_mem_take x)
    have Z:(rs.take k).length<=k:=by rw[List.length_take];exact Nat.min_le_left _ _
    obtain⟨⟨C,V,E⟩,x⟩ :∃r,kr rs k=r:= ⟨_,rfl⟩;rw[x]at Q P O d g;have o:0<=C/\C<=18:=d.1;have JY:0<=E/\E<=7:=d.2.2.1;obtain⟨c,rfl⟩ :=Int.eq_ofNat_of_zero_le o.1;replace Q:wr.cell? (q.add (k*3))=some (.int .i64 (c:Int)):=Q;replace P:wr.cell? { block:=(q.add (k*3)).block,off:=(q.add (k*3)).off+1 }=some (.int .i64 V):=P;replace O:wr.cell? { block:=(q.add (k*3)).block,off:=(q.add (k*3)).off+2 }=some (.int .i64 E):=O;have m:c<19:=ω;have Ex:(0:Int)<=(c:Int)/\(c:Int)<19:=ω;obtain⟨ah,N,L,l⟩ :=(Tq.out.below (f.out.mono b.out.1)).at_ m
    have RR:(wr.alloc (.cells #[.int .i64 (c:Int), .int .i64 V, .int .i64 E] 141)).cell? (ah.add c)=some (.int .i64 (ix hd c)):=by
     rw[World.cell?_alloc_lt _ _ _ (by rw[aw];have:=f.out.size;have:=b.out.1;omega)];exact l
    have ab:(wr.alloc (.cells #[.int .i64 (c:Int), .int .i64 V, .int .i64 E] 141)).cell? ⟨G,2,none⟩ =some (.slice Ah 19 ch):=by
     rw[World.cell?_alloc_lt _ _ _ (by have:=f.out.size;have:=R.out.1;show G<_;omega),f.out.cell (by have:=R.out.1;exact this)];exact R.out.2
    have I:=b.out.2.2.1 c m;obtain⟨X,M⟩ :=ν (ix hd c);rw[M]at RR I;have j:nK hd ⟨(c:Int),V,E⟩ =X+E:=by show ix hd (Int.toNat (c:Int))+E=_;rw[Int.toNat_natCast,M]
    rw[j]at g;have HX:=η (show s+(X+E)=14+3*(n:Int)+eB hd (rs.take (k+1)) by rw[g,u.out];omega);have nY:0<=s/\s<=10000:=by have:=u.out;omega
    have Y:0<=X+E/\X+E<=14:=ω;have p:=η (f.out.alloc f.out.size (.cells #[.int .i64 (c:Int), .int .i64 V, .int .i64 E] 141));have W:=η a;subst hA;subst N;clear K d g x o L l j M H a fH Z
    go_wp2_with fail
    go_quiet (fail)
    go_wp2_with fail
    go_roundg (nr-(k+1))
    case measure=>have:=hg.out;have:=W.out;omega
    case rel=>exact⟨k+1,s+(X+E),by go_num,by go_num,W.out,HX.out, ⟨p.out.os,p.out.tape,p.out.output,p.out.size,p.out.block⟩,rfl⟩
  · obtain rfl:k=nr:=ω;have mA:¬(k:Int)<(k:Int):=ω;have g:rs.take k=rs:=List.take_of_length_le (by rw[b.out.2.2.2];exact Nat.le_refl _);have HS:Hid (s=LJ t):=by have:=u.out;rw[g]at this;show _=_;rw[this,Ep.out]
    clear a g u
    go_wp2_with fail
    go_ret
    exact⟨aK HS.out,f.out⟩
def qy (hd:List Int) (k:Nat):List Int:=(eL.take k).flatMap λ(o:Int)=>aX (ix hd o.toNat) 3
def Ph (hd:List Int) (r:Rn):List Int:=aM hd r.c.toNat++aX r.v r.e.toNat
def jk (hd:List Int) (rs:List Rn):List Int:=rs.flatMap (Ph hd)
def ib (t:List aF):List Int:=aX (((bZ t-257:Nat):Int)) 5++aX (((cG t-1:Nat):Int)) 5++aX (((ko t-4:Nat):Int)) 4++qy (aO t) (ko t)++jk (aO t) (aP t)
theorem xX (hd:List Int) {k:Nat} (h:k<19):qy hd (k+1)=qy hd k++aX (ix hd (ix eL k).toNat) 3:=by
 have hl:k<eL.length:=h;unfold qy;rw[List.take_succ_eq_append_getElem hl,List.flatMap_append];have e:ix eL k=eL[k]:=by simp [ix,hl]
 rw[e];simp
theorem nG (hd:List Int):∀k,k<=19->(qy hd k).length=3*k
 | 0,_=>rfl
 | k+1,h=>by rw[xX hd ω,List.length_append,nG hd k ω,af];omega
theorem KN (hd:List Int) {rs:List Rn} {k:Nat} (h:k<rs.length):jk hd (rs.take (k+1))=jk hd (rs.take k)++Ph hd (kr rs k):=by rw[AY h];simp [jk]
theorem AZ {hd:List Int} (a:∀i,i<hd.length->0<=ix hd i/\ix hd i<=15):∀rs:List Rn,(∀r∈rs,sS r)->(jk hd rs).length<=22*rs.length
 | [],_=>by simp [jk]
 | r::rs,h=>by
   have f:=AZ a rs λx b=>h x (List.mem_cons_of_mem _ b)
   have d:=h r List.mem_cons_self;have e:=kt a r.c.toNat;have h4:=d.2.2.1;show(Ph hd r++jk hd rs).length<=_
   unfold Ph;rw[List.length_append,List.length_append,af,List.length_cons];omega
theorem Gy (w:World) (b0 g n c:Nat) (A:Option Addr) (L:List Int) (hw:kv w b0 g A n c L) (G b1 B:Nat) (t:List aF) (Al Ad Ah Ax:Option Addr) (cl cd ch cr:Nat) (hp:BP w G b1 B t Al Ad Ah Ax cl cd ch cr) (ht:t.length<1048576) (hB:B<=w.heap.size)
  (WL:∀k,foot A g k->k<b1) (b:L.length<=3000000000000):
  Calls Tryz.prog 74 #[.pointer (some ⟨G,0,none⟩), .pointer (some ⟨g,0,none⟩)] w λe w'=>e= .returned (.tuple #[])/\eR w w' b0 g A (L++ib t):=by
 have M:=fQ t;have fH:=gV t;have Lp:=py t;obtain⟨V0,sY⟩ :=ν (bZ t-257);obtain⟨V1,ac⟩ :=ν (cG t-1);obtain⟨V2,ab⟩ :=ν (ko t-4);have hI:((bZ t:Nat):Int)-257=(V0:Int)/\((cG t:Nat):Int)-1=(V1:Int)/\((ko t:Nat):Int)-4=(V2:Int):=ω;have zB:V0<=29/\V1<=29/\V2<=15:=ω;have R:=η (⟨hp,hw,WL,b,ht⟩ :_/\_/\_/\_/\_);have Q:Hid (∀W,aq w W (foot A g)->BP W G b1 B t Al Ad Ah Ax cl cd ch cr):=λW hc=>hp.cv hc hB λk d=> .inl (WL k d)
 have Ux:Hid (ib t=aX (V0:Int) 5++aX (V1:Int) 5++aX (V2:Int) 4++qy (aO t) (ko t)++jk (aO t) (aP t)):=by show _=_;rw[<-sY,<-ac,<-ab];rfl
 obtain⟨k0,k1,k2,k3,k4⟩ :=hp.cells;have Q0:=η (eR.start hw (Below.refl _ w));obtain⟨nl,bT⟩ :=ν (bZ t);obtain⟨nd,wC⟩ :=ν (cG t);obtain⟨o,H⟩ :=ν (ko t);obtain⟨nr,U⟩ :=ν ((aP t).length);rw[bT,wC,H]at hI;rw[bT]at k0;have Wa:(257:Int)<=(nl:Int)/\(nl:Int)<=286/\(1:Int)<=(nd:Int)/\(nd:Int)<=30/\(4:Int)<=(o:Int)/\(o:Int)<=19:=ω;obtain⟨bt,bs,bp⟩ :=hI;have m:=η (⟨bT,wC,H,U,zB,hB⟩ :_/\_/\_/\_/\_/\_);have J8:=η (Q0.out.put (V0:Int) 5 ω ω ω);clear hp hw WL M fH Lp sY ac ab zB k1 k2 k3 k4 bT wC H U b ht hB;go_enter Tryz.func74,Tryz.ntmps74
 go_wp2_with fail
 refine J8.out.mono ?_;rintro e w1 ⟨rfl,h1⟩;have k1:=(Q.out _ h1.cv).cells.2.1;rw[m.out.2.1]at k1;have BL:=η (h1.put (V1:Int) 5 (by have:=m.out.2.2.2.2.1;omega) ω (by rw[List.length_append,af];have:=R.out.2.2.2.1;omega));clear h1 k0
 go_wp2_with fail
 refine BL.out.mono ?_;rintro e w2 ⟨rfl,h2⟩;have k4:=(Q.out _ h2.cv).cells.2.2.2.2;rw[m.out.2.2.1]at k4;have bi:=η (h2.put (V2:Int) 4 (by have:=m.out.2.2.2.2.1;omega) ω (by rw[List.length_append,List.length_append,af,af];have:=R.out.2.2.2.1;omega));clear h2 k1
 go_wp2_with fail
 refine bi.out.mono ?_;rintro e f ⟨rfl,h3⟩;obtain⟨O,cZ⟩ :=ν (L++aX (V0:Int) 5++aX (V1:Int) 5++aX (V2:Int) 4);rw[cZ]at h3
 have LR:Hid (O.length<=3000000000014):=by
  show _<=_
  rw[<-cZ];simp only [List.length_append,af];have:=R.out.2.2.2.1;omega
 have Hj:Hid (L++ib t=O++qy (aO t) o++jk (aO t) (aP t)):=by
  show _=_
  rw[Ux.out,<-cZ,m.out.2.2.1];simp only [List.append_assoc]
 have ap:=η (xY f)
 have Vl:Hid (wF w ((f.alloc (.cells fG 142)).alloc (.cells fG 142)) ((f.alloc (.cells fG 142)).alloc (.cells fG 142)) (f.heap.size+1) b0 g A O):=by
  have v:=wF.new (h3.alloc (.cells fG 142)) (.cells fG 142);have e9:(f.alloc (.cells fG 142)).heap.size=f.heap.size+1:=σ;rw[e9]at v;exact v
 have Ep:Hid (f.heap.size+1=(f.alloc (.cells fG 142)).heap.size):=by show _=_;simp
 have S:Hid (mM ((f.alloc (.cells fG 142)).alloc (.cells fG 142)) (f.heap.size+1)):=by
  have v:=mM.new (f.alloc (.cells fG 142));rw[<-Ep.out]at v;exact v
 have T:=(Q.out _ Vl.out.cv).cells.2.2.2.2;rw[m.out.2.2.1]at T;clear cZ h3 k4 Ux Q0
 go_wp2_with fail
 refine ap.out.mono ?_;rintro e w4 ⟨rfl,rfl⟩
 go_wp2_with (refine pI rfl (.tmp 4) (.tmp 37) rfl rfl (f.heap.size+1) Ep.out rfl rfl _ rfl ?_)
 clear T;obtain⟨go,J⟩ :=ν (f.heap.size+1);obtain⟨wk,y⟩ :=ν ((f.alloc (.cells fG 142)).alloc (.cells fG 142));rw[y,J]at Vl S;rw[y,J];clear y J Ep ap;clear f;obtain⟨hd,nX⟩ :=ν (aO t);have Ey:Hid (∀i,i<19->0<=ix hd i/\ix hd i<=7):=λi hi=>by rw[<-nX];exact qh t i hi
 have Tq:=η nX;rw[nX]at Hj;clear nX
 go_loopg [44] o (λ(gk:Nat) (v44:Value) wx=>∃k:Nat,v44= .int .i64 k/\k<=o/\Hid (wF w wk wx go b0 g A (O++qy hd k))/\Hid (gk=o-k))
 case atStart=>exact⟨0,rfl,Nat.zero_le _,by show wF _ _ _ _ _ _ _ (O++[]);rw[List.append_nil];exact Vl.out,rfl⟩
 case round=>
  clear Vl;obtain⟨k,rfl,d,l,hg⟩ :=hrel;by_cases a:k<o
  · have mA:(k:Int)<(o:Int)/\(0:Int)<=(k:Int):=ω;have WV:k<19:=ω;have sA:mM wr go:=l.out.kp.trans S.out;have Qt:=AG k WV;obtain⟨K,hK⟩ :=Int.eq_ofNat_of_zero_le Qt.1;have c1:=sA.cell WV;have Rz:K<19:=ω;have F:=Q.out _ l.out.cv;have c2:=F.cells.2.2.1;obtain⟨ah,bd,aS,c3⟩ :=F.head.at_ Rz;rw[Tq.out]at c3;have Ng:=Ey.out K Rz;have dT:=xX hd WV;rw[hK,Int.toNat_natCast]at dT;rw[hK]at c1;obtain⟨X,hX⟩ :=ν (ix hd K);rw[hX]at c3 Ng dT;have P:=η (l.out.put X 3 ω ω (by rw[List.length_append,nG hd k ω];have:=LR.out;omega));have ku:=η dT;have jJ:=η a;have bo:(0:Int)<=(K:Int)/\(K:Int)<19:=ω;subst bd;clear sA Qt hK aS dT hX F l a
    go_wp2_with fail
    refine P.out.mono ?_;rintro e j ⟨rfl,h5⟩;have H5:=η h5;clear h5 c1 c2 c3
    go_wp2_with fail
    go_roundg (o-(k+1))
    case measure=>have:=hg.out;have:=jJ.out;omega
    case rel=>exact⟨k+1,by go_num,jJ.out,by have h6:=H5.out;rw[List.append_assoc,<-ku.out]at h6;exact h6,rfl⟩
  · obtain rfl:k=o:=ω;have mA:¬(k:Int)<(k:Int):=ω;have Qw:=l.out.old;have F:=Q.out _ Qw.cv;have bb:B<=wr.heap.size:=Nat.le_trans m.out.2.2.2.2.2 Qw.cv.size;have c2:=F.cells.2.2.1;have I:=F.head;rw[Tq.out]at I;have oy:=fA t;rw[Tq.out]at oy;have UZ:=η (jt wr Ah 19 ch B hd 7 I bb ω oy);have Yv:=η Qw;obtain⟨N,s⟩ :=ν (O++qy hd k);have bk:Hid (N.length<=3000000000080/\O++qy hd k=N):= ⟨by rw[<-s,List.length_append,nG hd k (by have:=R.out;omega)];have:=LR.out;omega,s⟩;rw[s]at Yv Hj;have NG:Hid (∀i,i<hd.length->0<=ix hd i/\ix hd i<=15):=λi hi=>by have:=mO oy i hi;omega
    have WZ:Hid (hd.length=19):=by show _=_;rw[<-Tq.out];exact iD t
    clear l Qw F I oy s a hg S
    go_wp2_with fail
    refine UZ.out.mono ?_;rintro e j ⟨gt,rfl,FB,Z⟩;obtain⟨⟨A1,n1,c1,jD,qM⟩,q⟩ :=Yv.out;have CN:BP j G b1 B t Al Ad Ah Ax cl cd ch cr:=Q.out _ (q.trans (S':=λ_=>False) (aq.aB Z) λk d=>d.elim);have am:B<=j.heap.size:=Nat.le_trans m.out.2.2.2.2.2 (Nat.le_trans q.size Z.size)
    have be:Hid (∀W,aq j W (foot A1 g)->BP W G b1 B t Al Ad Ah Ax cl cd ch cr):=λW hc=>CN.cv hc am λk d=>by
     rcases d with d | d
     · exact .inl (R.out.2.2.1 k (.inl d))
     · rcases qM k d with h | h
       · exact .inl (R.out.2.2.1 k (.inr h))
       · exact .inr (Nat.le_trans m.out.2.2.2.2.2 h)
    have ao:Hid (sT j wr.heap.size j.heap.size gt hd/\∀k,wr.heap.size<=k->k<j.heap.size->¬foot A1 g k):= ⟨FB,λk h1 _ d=>by have:=(jD.bH d).2;omega⟩;have Zw:=η (show eR j j b0 g A1 N from⟨⟨A1,n1,c1,jD.keeps Z,λk d=> .inl d⟩,aq.refl _ _⟩);have aC:Hid (aq w j (foot A g)/\∀k,aa A1=some k->aa A=some k\/w.heap.size<=k):= ⟨q.trans (S':=λ_=>False) (aq.aB Z) λk d=>d.elim,qM⟩;have k3:=CN.cells.2.2.2.1;rw[m.out.2.2.2.1]at k3;obtain⟨rs,qq⟩ :=ν (aP t);have oZ:=iE t;have p:=gB R.out.2.2.2.2;rw[qq]at oZ p Hj;have U:rs.length=nr:=by rw[<-qq];exact m.out.2.2.2.1
    have x:=η (⟨qq,U,p,oZ⟩ :_/\_/\_/\_);have bn:(0:Int)<=(nr:Int)/\(nr:Int)<=316:=ω;clear FB Z jD qM q CN am qq U p oZ c2 UZ Yv Q
    go_wp2_with fail
    clear k3
    go_loopg [72] nr (λ(gk:Nat) (v72:Value) wx=>∃k:Nat,v72= .int .i64 k/\k<=nr/\Hid (eR j wx b0 g A1 (N++jk hd (rs.take k)))/\Hid (gk=nr-k))
    case atStart=>exact⟨0,rfl,Nat.zero_le _,by show eR _ _ _ _ _ (N++[]);rw[List.append_nil];exact Zw.out,rfl⟩
    case round=>
     clear Zw
     rename World=>wz
     obtain⟨k,rfl,d,l,hg⟩ :=hrel;by_cases a:k<nr
     · have mA:(k:Int)<(nr:Int)/\(0:Int)<=(k:Int):=ω;have mg:k<rs.length:=by rw[x.out.2.1];exact a
       have D:=(be.out _ l.out.cv).runs;rw[x.out.1,x.out.2.1]at D;obtain⟨ad,hA,M,a0,a1,a2⟩ :=D.Q8 a;have p:=x.out.2.2.1 _ (vB mg);have z:=KN hd mg;have aI:=AZ NG.out (rs.take k) λr hr=>x.out.2.2.1 r (List.mem_of_mem_take hr)
       have uK:(rs.take k).length<=k:=by rw[List.length_take];exact Nat.min_le_left _ _
       obtain⟨⟨C,V,E⟩,hr⟩ :∃r,kr rs k=r:= ⟨_,rfl⟩;rw[hr]at a0 a1 a2 p z;have Y:0<=C/\C<=18:=p.1;have aE:0<=V/\V<128:=p.2.1;have JY:0<=E/\E<=7:=p.2.2.1;obtain⟨c,rfl⟩ :=Int.eq_ofNat_of_zero_le Y.1;obtain⟨u,rfl⟩ :=Int.eq_ofNat_of_zero_le JY.1;replace a0:wz.cell? (ad.add (k*3))=some (.int .i64 (c:Int)):=a0;replace a1:wz.cell? { block:=(ad.add (k*3)).block,off:=(ad.add (k*3)).off+1 }=some (.int .i64 V):=a1;replace a2:wz.cell? { block:=(ad.add (k*3)).block,off:=(ad.add (k*3)).off+2 }=some (.int .i64 (u:Int)):=a2;have oA:Ph hd ⟨(c:Int),V,(u:Int)⟩ =aM hd c++aX V u:=rfl;rw[oA]at z;have al:=wF.new l.out (.cells #[.int .i64 (c:Int), .int .i64 V, .int .i64 (u:Int)] 141);have oU:=IU wz ⟨(c:Int),V,(u:Int)⟩ 141;have b:(N++jk hd (rs.take k)).length<=3000000010000:=by rw[List.length_append];have:=bk.out.1;have:=x.out.2.2.2;have:=x.out.2.1;omega
       have jL:=kt NG.out c;have HY:=η (al.sym ao.out.1 (Nat.le_refl _) ao.out.2 c (by rw[WZ.out];omega) NG.out ω);have ku:=η z;have HLEN:=η (⟨b,jL⟩ :_/\_);have Ld:=η oU;have jJ:=η a;have bl:(0:Int)<=(c:Int)/\(c:Int)<=18/\0<=V/\V<128/\(0:Int)<=(u:Int)/\(u:Int)<=7:=ω;subst hA;clear mg D M p z aI uK hr Y aE JY oA al oU b jL l a
       go_wp2_with fail
       refine HY.out.mono ?_;rintro e w6 ⟨⟨b6,rfl⟩,h6⟩;have d1:w6.cell? ⟨wz.heap.size,1,none⟩ =some (.int .i64 V):=h6.cell Ld.out (i:=1) ω;have d2:w6.cell? ⟨wz.heap.size,2,none⟩ =some (.int .i64 (u:Int)):=h6.cell Ld.out (i:=2) ω;have P:=η (h6.put V u ω ω (by rw[List.length_append];have:=HLEN.out;omega));clear h6 a0 a1 a2
       go_wp2_with fail
       refine P.out.mono ?_;rintro e w7 ⟨rfl,h7⟩
       have H7:=η (show eR j w7 b0 g A1 (N++jk hd (rs.take (k+1))) from by
        have h8:=h7.old;rw[ku.out]
        simpa [List.append_assoc] using h8)
       clear h7 d1 d2
       go_wp2_with fail
       go_roundg (nr-(k+1))
       case measure=>have:=hg.out;have:=jJ.out;omega
       case rel=>exact⟨k+1,by go_num,jJ.out,H7.out,rfl⟩
     · obtain rfl:k=nr:=ω;have mA:¬(k:Int)<(k:Int):=ω;have z:rs.take k=rs:=List.take_of_length_le (by rw[x.out.2.1];exact Nat.le_refl _)
       have aA:Hid (eR w wz b0 g A (L++ib t)):=by
        have v:=l.out;rw[z]at v;obtain⟨⟨A2,n2,c2,q1,q2⟩,q3⟩ :=v;have an:=eR.next aC.out.1 aC.out.2 q1 q3 q2;rw[<-Hj.out]at an;exact an
       clear a z l
       go_wp2_with fail
       go_end0
       exact⟨rfl,aA.out⟩
structure EG (t t':IS):Prop where
 last:t'.last=t.last
 all:t'.all=t.all
 rem:t'.rem=t.rem
 kinds:t'.kinds=t.kinds
 stops:t'.stops=t.stops
 a8:t'.a8=t.a8
theorem EG.rfl' (t:IS):EG t t:= ⟨rfl,rfl,rfl,rfl,rfl,rfl⟩
theorem EG.trans {a b c:IS} (h:EG a b) (d:EG b c):EG a c:= ⟨d.1.trans h.1,d.2.trans h.2,d.3.trans h.3,d.4.trans h.4,d.5.trans h.5,d.6.trans h.6⟩
section
variable {t:IS} {y hd:List Int}
theorem Y0 {a b c:Nat} (i:a<32) (h:b<32) (g:c<16) (z:List Int):num (aX (a:Int) 5++(aX (b:Int) 5++(aX (c:Int) 4++z))) 14=a+32*(b+32*c):=by
 have e:aX (a:Int) 5++(aX (b:Int) 5++(aX (c:Int) 4++z))=(aX (a:Int) 5++(aX (b:Int) 5++aX (c:Int) 4))++z:=by simp only [List.append_assoc]
 rw[e,nE (by simp only [List.length_append,af]),dX,dX,af,af,cP,cP,cP];have d:(2:Int) ^ 5=32:=δ;have f:(2:Int) ^ 4=16:=δ;rw[d,f];omega
theorem GH {a b c:Nat} (d:t.st=3) (f:t.x=aX (a:Int) 5++(aX (b:Int) 5++(aX (c:Int) 4++y))) (j:a<=29) (i:b<=29) (h:c<16):
  t.step=({ t with x:=y,c0:=a+257,c1:=b+1,c2:=c+4,lens:=[],st:=4 },0):=by
 unfold IS.step;rw[if_neg ω,if_neg ω,if_neg ω,if_pos d];unfold IS.sizes;have g:=Y0 (show a<32 by omega) (show b<32 by omega) h y
 have hd:(aX (a:Int) 5++(aX (b:Int) 5++(aX (c:Int) 4++y))).drop 14=y:=by
  have e:aX (a:Int) 5++(aX (b:Int) 5++(aX (c:Int) 4++y))=(aX (a:Int) 5++(aX (b:Int) 5++aX (c:Int) 4))++y:=by simp only [List.append_assoc]
  rw[e,gU (by simp only [List.length_append,af])]
 rw[f,g,hd,if_neg (by simp only [List.length_append,af];omega),if_neg ω,show(a+32*(b+32*c))%32=a by omega,show(a+32*(b+32*c))/32%32=b by omega,show(a+32*(b+32*c))/1024=c by omega]
def nH (hd:List Int) (k:Nat):List Int:=(eL.take k).map λo=>ix hd o.toNat
theorem qz (hd:List Int) {k:Nat} (h:k<=19):(nH hd k).length=k:=by
 unfold nH;rw[List.length_map,List.length_take];show min k 19=k
 omega
theorem Kv (hd:List Int) {k:Nat} (h:k<19):nH hd (k+1)=nH hd k++[ix hd (ix eL k).toNat]:=by
 have hl:k<eL.length:=h;unfold nH;rw[List.take_succ_eq_append_getElem hl,List.map_append];have e:ix eL k=eL[k]:=by simp [ix,hl]
 rw[e];rfl
theorem Gr (hd:List Int) {k n:Nat} (b:k<n) (a:n<=19):(eL.take n).drop k=ix eL k::(eL.take n).drop (k+1):=by
 have hl:k<(eL.take n).length:=by rw[List.length_take];show k<min n 19;omega
 rw[List.drop_eq_getElem_cons hl];congr 1;have:k<eL.length:=by show k<19;omega
 simp [ix,this]
def vg (hd:List Int) (k n:Nat):List Int:=((eL.take n).drop k).flatMap λ(o:Int)=>aX (ix hd o.toNat) 3
theorem Ku (hd:List Int) (n:Nat):vg hd 0 n=qy hd n:=rfl
theorem Kt (hd:List Int) {k n:Nat} (b:k<n) (a:n<=19):vg hd k n=aX (ix hd (ix eL k).toNat) 3++vg hd (k+1) n:=by
 unfold vg;rw[Gr hd b a];rfl
theorem OW (hd:List Int) (n:Nat) (a:n<=19):vg hd n n=[]:=by
 unfold vg;rw[List.drop_of_length_le (by rw[List.length_take];show min n 19<=n;omega)];rfl
theorem su {n:Nat} (b:n<=19) (f:∀i,i<19->0<=ix hd i/\ix hd i<=7):∀(j k:Nat) (t:IS),j=n-k->k<=n->t.st=4->t.c2=n->t.lens=nH hd k->t.x=vg hd k n++y->
  ∃a,IS.Steps t a/\EG t a/\a.st=4/\a.c2=n/\a.lens=nH hd n/\a.x=y/\a.c0=t.c0/\a.c1=t.c1
 | 0,k,t,hj,hk,hst,hc,hl,hx=>by
   obtain rfl:k=n:=ω;rw[OW hd k b,List.nil_append]at hx;exact⟨t, .refl t,EG.rfl' t,hst,hc,hl,hx,rfl,rfl⟩
 | j+1,k,t,hj,hk,hst,hc,hl,hx=>by
   have d:k<n:=ω;rw[Kt hd d b,List.append_assoc]at hx;have p:=AG k ω;have l:=f (ix eL k).toNat ω;obtain⟨v,hv⟩ :=Int.eq_ofNat_of_zero_le l.1
   have h:num t.x 3=v:=by
    rw[hx,nE (af _ _),cP,hv];have o:(2:Int) ^ 3=8:=δ;rw[o];omega
   have e:t.step=({ t with x:=vg hd (k+1) n++y,lens:=nH hd (k+1) },0):=by
    unfold IS.step;rw[if_neg ω,if_neg ω,if_neg ω,if_neg ω,if_pos hst];unfold IS.heads;rw[hl,qz hd ω,hc,if_pos d,if_neg (by rw[hx,List.length_append,af];omega),h,hx,gU (af _ _),Kv hd ω,hv]
   have c:=IS.Steps.one (s:=t) (by rw[e]);rw[e]at c;obtain⟨a,g,m,r⟩ :=su b f j (k+1) { t with x:=vg hd (k+1) n++y,lens:=nH hd (k+1) } ω ω hst hc rfl rfl;exact⟨a,c.trans g,(show EG t { t with x:=vg hd (k+1) n++y,lens:=nH hd (k+1) } from⟨rfl,rfl,rfl,rfl,rfl,rfl⟩).trans m,r⟩
theorem Ic:∀s,s<19->gG.idxOf s<19/\(ix eL (gG.idxOf s)).toNat=s:=by decide+kernel
theorem N4 {n:Nat} (k:n<=19) (b:hd.length=19) (j:∀i,n<=i->i<19->ix hd (ix eL i).toNat=0):dD (nH hd n)=hd:=by
 refine IP (by unfold dD;rw[List.length_map,List.length_range,b]) λs c=> ?_
 have a:s<19:=by unfold dD at c;rw[List.length_map,List.length_range]at c;exact c
 unfold dD;rw[G9 _ a];obtain⟨f,d⟩ :=Ic s a;by_cases h:gG.idxOf s<n
 · have l:∀(L:List Int) (g:Int->Int) (i:Nat),i<L.length->ix (L.map g) i=g (ix L i):=λL g i hi=>by simp [ix,hi]
   unfold nH;rw[l _ _ _ (by rw[List.length_take];show _<min n 19;omega),fK h,d]
 · have e:ix (nH hd n) (gG.idxOf s)=0:=by
    unfold ix;rw[List.getD_eq_getElem?_getD,List.getElem?_eq_none (by rw[qz hd k];omega)];rfl
   rw[e,<-j _ ω f,d]
theorem JZ (a:t.st=4) (d:t.lens.length=t.c2) (hA:dD t.lens=hd) (c:ai hd 7=0) (b:cU t.lens=false):t.step=({ t with hd:=hd,lens:=[],st:=5 },0):=by
 unfold IS.step;rw[if_neg ω,if_neg ω,if_neg ω,if_neg ω,if_pos a];unfold IS.heads;rw[if_neg ω,hA,if_neg (by rw[c,b];simp)]
theorem Pp {r:Rn} {d:List Int} (l:t.st=5) (B:t.hd=hd) (K:ai hd 7=0) (j:t.lens=d) (I:t.x=Ph hd r++y) (J:sS r) (D:r.c=16->0<d.length) (e:1<=ix hd r.c.toNat) (n:d.length<t.c0+t.c1) (f:(gF d r).length<=t.c0+t.c1):
  t.step=({ t with x:=y,lens:=gF d r },0):=by
 obtain⟨C,V,E⟩ :=r;obtain⟨z,w,F,u,s,q,p,o⟩ :=J;dsimp only at z w F u s q p o D e;obtain⟨c,rfl⟩ :=Int.eq_ofNat_of_zero_le z.1;obtain⟨v,rfl⟩ :=Int.eq_ofNat_of_zero_le w.1;rw[Int.toNat_natCast]at e;have k:t.x=aM hd c++(aX (v:Int) E.toNat++y):=by rw[I];unfold Ph;rw[List.append_assoc];rfl
 obtain⟨H,G⟩ :=Gi K e (aX (v:Int) E.toNat++y);unfold IS.step;rw[if_neg ω,if_neg ω,if_neg ω,if_neg ω,if_neg ω,if_pos l];unfold IS.lengths;rw[j,if_pos n];unfold IS.length;rw[B,k,H];simp only;rw[if_neg δ,G];by_cases i:(c:Int)<16
 · obtain⟨rfl,rfl⟩ :v=0/\E=0:=by obtain⟨a,b⟩ :=s ω;exact⟨ω,b⟩
   rw[if_pos i,j];unfold gF;rw[if_pos i];rfl
 · have A:IS.rW (c:Int)=E.toNat:=by
    unfold IS.rW;obtain h | h | h:(c:Int)=16\/(c:Int)=17\/(c:Int)=18:=ω
    · rw[if_neg ω,if_neg ω,q h];rfl
    · rw[if_pos h,p h];rfl
    · rw[if_neg ω,if_pos h,o h];rfl
   have m:num (aX (v:Int) E.toNat++y) E.toNat=v:=by
    rw[nE (af _ _),cP,Int.emod_eq_of_lt ω u];rfl
   have g:gF d ⟨(c:Int),(v:Int),E⟩ =d++List.replicate (IS.rB (c:Int)+v) (if(c:Int)=16 then ix d (d.length-1)else 0):=by
    unfold gF;rw[if_neg i];simp only [Int.toNat_natCast]
   rw[g]at f⊢;rw[List.length_append,List.length_replicate]at f;rw[if_neg i,j,if_neg (by rintro⟨L,M⟩;have:=D L;omega),A,if_neg (by rw[List.length_append,af];omega)];unfold IS.fB;rw[A,m,j,if_neg ω,gU (af _ _),B]
theorem I2 (a:List Int) {r:Rn} (h:sS r):a.length<(gF a r).length:=by
 unfold gF
 split
 · simp
 · rw[List.length_append,List.length_replicate];unfold IS.rB
   split <;> omega
theorem Rq (rs:List Rn):∀a:List Int,UJ a rs->a.length<=(rs.foldl gF a).length:=by
 induction rs with
 | nil=>intro a _;exact Nat.le_refl _
 | cons r rs b=>
   intro a h;have:=b (gF a r) h.2.2;have:=I2 a h.1;rw[List.foldl_cons];omega
theorem vE (h:ai hd 7=0):∀(rs:List Rn) (t:IS) (acc:List Int),t.st=5->t.hd=hd->t.lens=acc->t.x=jk hd rs++y->UJ acc rs->(∀r∈rs,1<=ix hd r.c.toNat)->(rs.foldl gF acc).length=t.c0+t.c1->
  ∃a,IS.Steps t a/\EG t a/\a.st=5/\a.lens=rs.foldl gF acc/\a.x=y/\a.c0=t.c0/\a.c1=t.c1
 | [],t,acc,hst,nX,wO,hx,_,_,_=> ⟨t, .refl t,EG.rfl' t,hst,wO,by rw[hx];rfl,rfl,rfl⟩
 | r::rs,t,acc,hst,nX,wO,hx,fJ,hs,hlen=>by
   obtain⟨g,l,f⟩ :=fJ
   have b:t.x=Ph hd r++(jk hd rs++y):=by
    rw[hx];show(Ph hd r++jk hd rs)++y=_
    rw[List.append_assoc]
   rw[List.foldl_cons]at hlen;have o:=Rq rs (gF acc r) f;have n:=I2 acc g;have e:=Pp hst nX h wO b g l (hs r List.mem_cons_self) ω ω;have d:=IS.Steps.one (s:=t) (by rw[e]);rw[e]at d;obtain⟨a,i,k,j⟩ :=vE h rs { t with x:=jk hd rs++y,lens:=gF acc r } (gF acc r) hst nX rfl rfl f (λr m=>hs r (List.mem_cons_of_mem _ m)) hlen;exact⟨a,d.trans i,(show EG t { t with x:=jk hd rs++y,lens:=gF acc r } from⟨rfl,rfl,rfl,rfl,rfl,rfl⟩).trans k,j⟩
theorem P8 {l d:List Int} (a:t.st=5) (hl:t.lens=l++d) (g:t.c0=l.length) (f:t.c1=d.length) (b:ai l 15=0) (c:ai d 15=0) (e:1<=ix l 256):t.step=({ t with lt:=l,ds:=d,st:=6 },0):=by
 unfold IS.step;rw[if_neg ω,if_neg ω,if_neg ω,if_neg ω,if_neg ω,if_pos a];unfold IS.lengths;have j:(l++d).take l.length=l:=List.take_left;have i:(l++d).drop l.length=d:=List.drop_left;have h:ix (l++d) 256=ix l 256:=by rw[aL,if_pos (B9 e)]
 rw[hl,g,f,if_neg (by rw[List.length_append];omega),j,i,h,b,c,if_neg ω]
end
end Go.Proofs.YtddhegejmkgmjaaGreat
