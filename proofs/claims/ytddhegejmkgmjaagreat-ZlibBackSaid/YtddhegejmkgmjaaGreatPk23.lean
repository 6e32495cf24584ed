/-
  part
-/
import Derived.Test.YtddhegejmkgmjaaGreatPk22
set_option linter.unusedVariables false
set_option maxRecDepth 100000
set_option maxHeartbeats 4000000
namespace Go.Proofs.YtddhegejmkgmjaaGreat
open Go.RowKit
theorem cW.new {w2:World} {b0 gf gm gw:Nat} (lev:Int) (c:bF w2 b0 gf (cT lev) Dc 0 none 0 0 gm 0 (.map []) none 0 0) (d:kv w2 b0 gw none 0 0 []) (q:gf≠gw) (p:gm≠gw) (t:TypeId):
  cW (w2.alloc (.cells #[.pointer (some ⟨gf,0,none⟩), .pointer (some ⟨gw,0,none⟩), .int .i64 lev, .slice none 0 0, .slice none 0 0, .bool false] t)) b0 w2.heap.size
   (λk=>if k=w2.heap.size then 1 else if k=gf\/k=gm then 2 else if k=gw then 3 else 0)
   ⟨gf,none,0,0,gm,none,0,0,gw,none,0,0,none,0,0,none,0,0⟩ (vd lev) false:=by
 have o:b0<=gf/\gf<w2.heap.size:=c.bH (.inl rfl);have n:b0<=gm/\gm<w2.heap.size:=c.bH (.inr (.inl rfl));have m:b0<=gw/\gw<w2.heap.size:=d.bH (.inl rfl);have e:Below w2.heap.size w2 (w2.alloc (.cells #[.pointer (some ⟨gf,0,none⟩), .pointer (some ⟨gw,0,none⟩), .int .i64 lev, .slice none 0 0, .slice none 0 0, .bool false] t)):=(Below.refl _ _).alloc (Nat.le_refl _) _;refine⟨Ar.new _ _ _ rfl λi hi=> ?_,if_pos rfl, ⟨0, .map [],c.keeps e⟩,λk a=> ?_,d.keeps e,λk a=> ?_,ag.br,λk a=>by simp [aa]at a, ⟨rfl,Own.br⟩,λk a=>by simp [aa]at a,λk a=> ?_⟩
 · obtain rfl | rfl | rfl | rfl | rfl | rfl:i=0\/i=1\/i=2\/i=3\/i=4\/i=5:=ω
   all_goals rfl
 · have b:k=gf\/k=gm:=by
    rcases a with h | h | h | h
    · exact .inl h
    · exact .inr h
    · simp [aa]at h
    · simp [aa]at h
   show(if k=w2.heap.size then 1 else if k=gf\/k=gm then 2 else if k=gw then 3 else 0)=2
   rw[if_neg ω,if_pos b]
 · have b:k=gw:=by
    rcases a with h | h
    · exact h
    · simp [aa]at h
   show(if k=w2.heap.size then 1 else if k=gf\/k=gm then 2 else if k=gw then 3 else 0)=3
   rw[if_neg ω,if_neg ω,if_pos b]
 · have f:(w2.alloc (.cells #[.pointer (some ⟨gf,0,none⟩), .pointer (some ⟨gw,0,none⟩), .int .i64 lev, .slice none 0 0, .slice none 0 0, .bool false] t)).heap.size=w2.heap.size+1:=σ;rw[f];by_cases l:k=w2.heap.size
   · omega
   · by_cases j:k=gf\/k=gm
     · omega
     · by_cases g:k=gw
       · omega
       · exact absurd (by show(if k=w2.heap.size then 1 else if k=gf\/k=gm then 2 else if k=gw then 3 else 0)=0;rw[if_neg l,if_neg j,if_neg g]) a
theorem MH (lev:Int) (w:World) (k: -9223372036854775808<=lev/\lev<=9223372036854775807):
  Calls Tryz.prog 17 #[.int .i64 lev] w λe w'=>∃g c M,e= .returned (.pointer (some ⟨g,0,none⟩))/\cW w' w.heap.size g c M (vd lev) false/\Below w.heap.size w w':=by
 have q:=η (MP lev w k);clear k;go_enter Tryz.func17,Tryz.ntmps17
 go_wp2_with fail
 refine q.out.mono ?_;rintro e w1 ⟨gf,gm,rfl,l,i⟩;have f:=η (⟨l,i⟩ :_/\_);clear l i
 go_wp2_with fail
 refine(GZ w1).mono ?_;rintro e w2 ⟨gw,rfl,b,a⟩;have h:=f.out.1.keeps a;have j:=cW.new (b0:=w.heap.size) lev h ⟨b.cell,Nat.le_trans f.out.2.size b.lo,b.own.more f.out.2.size,b.apart,b.bit⟩ (λe=>by have p:=(f.out.1.bH (.inl rfl)).2;have n:=b.lo;omega) (λe=>by have p:=(f.out.1.bH (.inr (.inl rfl))).2;have n:=b.lo;omega) 64;have d:=λo:Obj=>(f.out.2.trans (a.mono f.out.2.size)).alloc (Nat.le_trans f.out.2.size a.size) o
 have m:=η (⟨j,d⟩ :_/\_);clear h j b a d
 go_wp2_with fail
 go_ret
 exact⟨_,_,_,rfl,m.out.1,m.out.2 _⟩
theorem JF (w:World) (b0 g:Nat) (c:Nat->Nat) (M:EM) (d:eU) (done:Bool) (h:cW w b0 g c M d done):
  Calls Tryz.prog 20 #[.pointer (some ⟨g,0,none⟩)] w λe w'=>e= .returned (.slice M.Aw M.nw M.cw)/\ag .u8 w' b0 5 M.Aw M.nw M.cw (gK d.L)/\kv w' b0 M.gw none 0 0 (rest d.L)/\aq w w' (λk=>k=M.gw):=by
 obtain⟨c0,c1,c2,l,j,i⟩ :=h.cells;have n:=η (Eh w b0 M.gw M.nw M.cw M.Aw _ h.L8);clear h c0 c2 l j i;go_enter Tryz.func20,Tryz.ntmps20
 go_wp2_with fail
 refine n.out.mono ?_;rintro e w1 ⟨rfl,f,b,a⟩;have m:=η (⟨f,b,a⟩ :_/\_/\_);clear f b a
 go_wp2_with fail
 go_ret
 exact⟨rfl,m.out⟩
end Go.Proofs.YtddhegejmkgmjaaGreat
