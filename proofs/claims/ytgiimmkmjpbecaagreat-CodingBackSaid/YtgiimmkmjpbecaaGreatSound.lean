/-
  part
-/
import Derived.Test.YtgiimmkmjpbecaaGreatRev
namespace Go.Proofs.YtgiimmkmjpbecaaGreat
open Go.RowKit
set_option linter.unusedVariables false
set_option maxRecDepth 100000
set_option maxHeartbeats 4000000
theorem Ej (L n d:Int) (w:World):Calls Tryz.prog 118 #[.agg #[.int .u8 L, .int .i64 n, .int .i64 d]] w λe w'=>e= .returned (.bool (qP L n d))/\Below w.heap.size w w':=by
 have b:∀o,Below w.heap.size w (w.alloc o):=λo=>(aw _ _).alloc (af _) o;by_cases c:n=0
 · rw[K7 c];by_cases hd:d=0
   · subst c hd
     go_in
     go_wp2;go_ret;exact⟨rfl,b _⟩
   have a:decide (d=0)=false:=by simpa using hd
   rw[a];subst c
   go_in
   go_wp2;go_ret;exact⟨rfl,b _⟩
 rw[Gx c];by_cases h:L=0/\3<=n/\n<=258/\1<=d/\d<=32768
 · have a:decide (L=0/\3<=n/\n<=258/\1<=d/\d<=32768)=true:=by simpa using h
   rw[a];obtain⟨rfl,f,g,j,h4⟩ :=h
   go_in
   go_wp2;go_ret;exact⟨rfl,b _⟩
 have a:decide (L=0/\3<=n/\n<=258/\1<=d/\d<=32768)=false:=by simpa using h
 rw[a];have i:¬L=0\/(L=0/\¬3<=n)\/((L=0/\3<=n)/\¬n<=258)\/((L=0/\3<=n/\n<=258)/\¬1<=d)\/((L=0/\3<=n/\n<=258/\1<=d)/\¬d<=32768):=ω;clear h;rcases i with h | ⟨rfl,h⟩ | ⟨⟨rfl,f⟩,h⟩ | ⟨⟨rfl,f,g⟩,h⟩ | ⟨⟨rfl,f,g,j⟩,h⟩
 all_goals
  go_in
  go_wp2;go_ret;exact⟨rfl,b _⟩
end Go.Proofs.YtgiimmkmjpbecaaGreat
