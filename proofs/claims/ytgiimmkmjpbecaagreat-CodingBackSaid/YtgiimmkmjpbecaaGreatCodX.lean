/-
  part
-/
import Derived.Test.YtgiimmkmjpbecaaGreatPk35
import Derived.Deep.RegionLaw
namespace Go.Proofs.YtgiimmkmjpbecaaGreat
open Go.RowKit
set_option linter.unusedVariables false
set_option maxRecDepth 100000
set_option maxHeartbeats 4000000
theorem Ii (w:World) (b0 gd g n c B m d:Nat) (A C:ax) (l b:ag) (most:Int) (hd:Ar w gd 1 (λ_=> .iface 91 (.pointer (some ⟨g,0,none⟩)))) (h:oT w b0 g A n c l most false) (a:bT .u8 w B C m b) (i:b0<=w.heap.size) (f:n+m<=1000000000):
  Calls Tryz.prog 26 #[.pointer (some ⟨gd,0,none⟩), .slice C m d] w (a17 w b0 g A (l++b) most):=by
 have c0:=hd.az 0
 go_in
 go_wp2_with fail;refine(K3 w b0 g n c B m d A C l b most h a i f).mono ?_;rintro e w2 ⟨A',n',c',rfl,o,k,j⟩
 go_wp2_with fail
 first
  | go_end0
  | go_returns
 exact⟨A',n',c',rfl,o,k,j⟩
theorem LH (w:World) (b0 gd g n c:Nat) (A:ax) (l:ag) (most:Int) (ended:Bool) (hd:Ar w gd 1 (λ_=> .iface 91 (.pointer (some ⟨g,0,none⟩)))) (h:oT w b0 g A n c l most ended):
  Calls Tryz.prog 27 #[.pointer (some ⟨gd,0,none⟩)] w λe w'=>e= .returned (.tuple #[])/\oT w' b0 g A n c l most true/\bb w w' (λk=>k=g):=by
 have c0:=hd.az 0
 go_in
 go_wp2_with fail;refine(Nx w b0 g n c A l most ended h).mono ?_;rintro e w2 ⟨rfl,b,a⟩
 go_wp2_with fail
 first
  | go_end0
  | go_returns
 exact⟨rfl,b,a⟩
theorem Fg (w:World) (b0 a g n c B m d:Nat) (A C:ax) (l b:ag) (hd:Ar w a 1 (λ_=> .iface 55 (.pointer (some ⟨g,0,none⟩)))) (h:oQ w b0 g A n c l false) (f:bT .u8 w B C m b) (j:b0<=w.heap.size) (i:n+m<=1000000000):
  Calls Tryz.prog 8 #[.pointer (some ⟨a,0,none⟩), .slice C m d] w (TA w b0 g A (l++b)):=by
 have c0:=hd.az 0
 go_in
 go_wp2_with fail;refine(Gc w b0 g n c B m d A C l b h f j i).mono ?_;rintro e w2 ⟨A',n',c',rfl,p,o,k⟩
 go_wp2_with fail;go_ret;exact⟨A',n',c',rfl,p,o,k⟩
theorem Ff (w:World) (b0 a g n c:Nat) (A:ax) (l:ag) (hd:Ar w a 1 (λ_=> .iface 55 (.pointer (some ⟨g,0,none⟩)))) (h:oQ w b0 g A n c l false):
  Calls Tryz.prog 9 #[.pointer (some ⟨a,0,none⟩)] w λe w'=>e= .returned (.int .i64 0)/\oQ w' b0 g A n c l true/\bb w w' (λk=>k=g):=by
 have c0:=hd.az 0
 go_in
 go_wp2_with fail;refine(Gb w b0 g n c A l h).mono ?_;rintro e w2 ⟨rfl,d,b⟩
 go_wp2_with fail;go_ret;exact⟨rfl,d,b⟩
theorem Iw (w:World) (b0 a g n c:Nat) (A:ax) (l:ag) (done:Bool) (hd:Ar w a 1 (λ_=> .iface 55 (.pointer (some ⟨g,0,none⟩)))) (h:oQ w b0 g A n c l done):
  Calls Tryz.prog 10 #[.pointer (some ⟨a,0,none⟩)] w λe w'=>e= .returned (.slice A n c)/\aT .u8 w' b0 5 A n c l/\oQ w' b0 g none 0 0 [] done/\bb w w' (λk=>k=g):=by
 have c0:=hd.az 0
 go_in
 go_wp2_with fail;refine(JJ w b0 g n c A l done h).mono ?_;rintro e w2 ⟨rfl,f,d,b⟩
 go_wp2_with fail;go_ret;exact⟨rfl,f,d,b⟩
end Go.Proofs.YtgiimmkmjpbecaaGreat
