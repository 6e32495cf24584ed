/-
  part
-/
import Derived.Test.YtgiimmkmjpbecaaGreatPk1
import Derived.Test.YtgiimmkmjpbecaaGreatProg
import Derived.Deep.Slices
import Derived.Deep.Fields
import Derived.ProofKit
import Derived.OpenShut
import Derived.ChangeSame
import Derived.ChangeArms
import Derived.KernelRfl
set_option linter.unusedVariables false
set_option maxRecDepth 100000
set_option maxHeartbeats 4000000
namespace Go.Proofs.YtgiimmkmjpbecaaGreat
open Go.RowKit Go.ChangeShapes Go.WideShapes Go.Deep
def InC (k:IntKind) (w:World) (a:ax) (len cap:Nat) (l:ag):Prop:=
 bT k w w.heap.size a len l/\len<=maxLen/\(∀n∈l,(Lit.int k n).wf=true)/\len<=cap/\cap<=maxLen
theorem rdC_of {T E:TypeId} {k:IntKind} (m:Tryz.prog.underlying T=some (.slice E)) (hE:Tryz.prog.underlying E=some (.int k)) (j:Tryz.prog.cellsOf E=1) {H:Type} {enc:TypeId×Value->H} {w:World} {fuel:Nat} {a:ax} {len cap:Nat} {x:DataW H×List MemPlace}
  (h:DataW.trod enc Tryz.prog w 0 (λ_=>true) true fuel T [.slice a len cap]=some x):∃l:ag,InC k w a len cap l:=by
 rcases open_ints m hE j h with ⟨b,_⟩ | ⟨x,l,c,zs,b,_,g,f,hz,_,d,e⟩
 · simp at b;obtain⟨rfl,rfl,rfl⟩ :=b;exact⟨[], ⟨rfl,Rd.di⟩,aG _,λn i=>by simp at i,af _,aG _⟩
 simp at b;obtain⟨rfl,rfl,rfl⟩ :=b;obtain⟨q,p,o⟩ :=RR (k:=k) (w:=w) (a:=some x) (len:=len) (cap:=cap) (zs:=zs) (.inr ⟨_,rfl,g,f,by simpa using hz,d,e⟩);exact⟨_,q,p,o,g,f⟩
end Go.Proofs.YtgiimmkmjpbecaaGreat
