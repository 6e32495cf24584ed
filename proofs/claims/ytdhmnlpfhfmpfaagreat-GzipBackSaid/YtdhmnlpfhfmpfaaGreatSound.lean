/-
  part
-/
import Derived.Test.YtdhmnlpfhfmpfaaGreatRev
namespace Go.Proofs.YtdhmnlpfhfmpfaaGreat
open Go.RowKit
set_option linter.unusedVariables false
set_option maxRecDepth 100000
set_option maxHeartbeats 4000000
theorem E3 (L n d:Int) (w:World):Calls Tryz.prog 108 #[.agg #[.int .u8 L, .int .i64 n, .int .i64 d]] w λe w'=>e= .returned (.bool (rq L n d))/\Below w.heap.size w w':=by
 have b:∀o,Below w.heap.size w (w.alloc o):=λo=>(ax _ _).alloc (ai _) o;by_cases c:n=0
 · rw[JC c];by_cases hd:d=0
   · subst c hd;go_enter Tryz.func108,Tryz.ntmps108;go_wp2;go_ret;exact⟨rfl,b _⟩
   have a:decide (d=0)=false:=by simpa using hd
   rw[a];subst c;go_enter Tryz.func108,Tryz.ntmps108;go_wp2;go_ret;exact⟨rfl,b _⟩
 rw[G5 c];by_cases h:L=0/\3<=n/\n<=258/\1<=d/\d<=32768
 · have a:decide (L=0/\3<=n/\n<=258/\1<=d/\d<=32768)=true:=by simpa using h
   rw[a];obtain⟨rfl,f,g,j,h4⟩ :=h;go_enter Tryz.func108,Tryz.ntmps108;go_wp2;go_ret;exact⟨rfl,b _⟩
 have a:decide (L=0/\3<=n/\n<=258/\1<=d/\d<=32768)=false:=by simpa using h
 rw[a];have i:¬L=0\/(L=0/\¬3<=n)\/((L=0/\3<=n)/\¬n<=258)\/((L=0/\3<=n/\n<=258)/\¬1<=d)\/((L=0/\3<=n/\n<=258/\1<=d)/\¬d<=32768):=ω;clear h;rcases i with h | ⟨rfl,h⟩ | ⟨⟨rfl,f⟩,h⟩ | ⟨⟨rfl,f,g⟩,h⟩ | ⟨⟨rfl,f,g,j⟩,h⟩
 all_goals
  go_enter Tryz.func108,Tryz.ntmps108;go_wp2;go_ret;exact⟨rfl,b _⟩
end Go.Proofs.YtdhmnlpfhfmpfaaGreat
