/-
  part
-/
import Derived.Test.YtgiimmkmjpbecaaGreatIxb
import Derived.Test.YtgiimmkmjpbecaaGreatRev
import Derived.Test.YtgiimmkmjpbecaaGreatStep
import Derived.Lib.AppendStr
import Derived.Laws.Closers25b
set_option linter.unusedVariables false
set_option maxRecDepth 100000
set_option maxHeartbeats 4000000
namespace Go.Proofs.YtgiimmkmjpbecaaGreat
open Go.RowKit
def b2i (b:Bool) (v:Int):Int:=if b then v else 0
theorem Wo (w:World) (b:Bool) (f:Int):Calls Tryz.prog 42 #[.bool b, .int .u8 f] w λe w'=>e= .returned (.int .u8 (b2i b f))/\w=w':=by
 cases b
 all_goals
  go_in
  go_wp2;go_ret;exact⟨rfl,rfl⟩
def tW:Nat->Int->ag
 | 0,_=>[]
 | k+1,v=>v%256::tW k (v/256)
theorem jW (k:Nat) (v:Int):(tW k v).length=k:=by
 induction k generalizing v with
 | zero=>rfl
 | succ k a=>show(tW k (v/256)).length+1=_;rw[a]
theorem Wd (k:Nat) (v:Int):∀x∈tW k v,0<=x/\x<256:=by
 induction k generalizing v with
 | zero=>exact λx a=>by cases a
 | succ k b=>
   intro x a;rcases aZ.1 a with rfl | a
   · omega
   exact b _ x a
theorem We (k:Nat) (v:Int):tW (k+1) v=tW k v++[v/256 ^ k%256]:=by
 induction k generalizing v with
 | zero=>show [v%256]=[v/256 ^ 0%256];rw[Int.pow_zero,Int.ediv_one]
 | succ k a=>
   show v%256::tW (k+1) (v/256)=v%256::tW k (v/256)++[_];rw[a,dN,ed ω,ep,fD]
theorem Pd (k:Nat) {v:Int} (h:0<=v) (h':v<256 ^ k):rK (tW k v)=v:=by
 induction k generalizing v with
 | zero=>simp at h';show(0:Int)=v;omega
 | succ k a=>
   show v%256+256*rK (tW k (v/256))=v;rw[a ω (Int.ediv_lt_of_lt_mul ω (by rw[ep]at h';exact h'))];omega
theorem Bg (w:World) (v:Int) (N:Nat) (hv:0<=v/\v<4294967296) (hN:N<=4):
  Calls Tryz.prog 43 #[.int .u32 v, .int .i64 N] w λe w'=>∃A n c,e= .returned (.slice A n c)/\aT .u8 w' w.heap.size 5 A n c (tW N v)/\Below w.heap.size w w':=by
 obtain⟨r,hi,h,f,d⟩ :=aL qy;have Hi:=η hi;have K:=η h;have J:=η f;have I:=η d;clear hi h f d;have G:(N:Int)<=4:=ω
 go_in
 go_wp2
 go_loopw [0,5,7] (λx o i wr=>∃(k:Nat) (u:Int) (A:ax) (c:Nat),k<=N/\i= .int .i64 k/\x= .int .u32 u/\o= .slice A k c/\0<=u/\u<4294967296/\Hid (u=v/256 ^ k)/\aT .u8 wr w.heap.size 5 A k c (tW k v)/\Below w.heap.size w wr) (λ_ _ i _=>N-(intOf i).toNat)
 case atStart=>exact⟨0,v,none,0,ω,rfl,rfl,rfl,hv.1,hv.2,by show _=_;rw[Int.pow_zero,Int.ediv_one],aT.di,aw _ _⟩
 obtain⟨k,u,A,c,P,rfl,rfl,rfl,y,t,q,a,b⟩ :=hrel;by_cases C:k<N
 rotate_left
 · obtain rfl:N=k:=ω;go_wp2;go_ret;exact⟨A,_,c,rfl,a,b⟩
 have O:(0:Int)<=k/\(k:Int)<N:=ω;have z:=b.size;have p:=a.keeps (w':=wr.alloc (.cells #[.int .u8 (u%256)] 5)) ((aw _ _).alloc (af _) _);have l:Hid (tW (k+1) v=tW k v++[u%256]):=by show _=_;rw[We,q.out]
 have j:Hid (u/256=v/256 ^ (k+1)):=by show _=_;rw[q.out,ed (Int.le_of_lt (Int.pow_pos ω)),ep]
 have s:IntKind.u8.wrap u=u%256:=by rw[IntKind.wrap_u8]
 have B:u/2 ^ 8=u/256:=rfl
 go_wp2_with (at_builtin;go_must (refine bm .u8 w.heap.size 5 r 1 rfl (.tmp 9) (.tmp 12) _ rfl Tryz.underlying22 Hi.out K.out J.out I.out rfl p rfl (bT.lit .u8 wr [u%256] 5) ξ ω ξ ?_))
 intro L H M m D Q;have F:=I1 (b.alloc ω (.cells #[.int .u8 (u%256)] 5)) D ξ (λg E=>(p.2.lt E).1);rw[<-l.out]at m;go_wp2;go_roundw
 case rel=>exact⟨k+1,u/256,L,H,ω,by go_num,by first | rfl | go_num,rfl,ω,ω,j,m,F⟩
 case measure=>simp [intOf];omega
def Ur (l:ag) (has:Bool):Bool:=decide (l.length<=4096)&&(decide (¬nz l<l.length)&&(has||l.isEmpty))
theorem NJ (l:ag):(strOf l).size=l.length:=by
 have:=bf List.length (BQ l)
 simpa using this
theorem Ut (w:World) (l:ag) (has:Bool) (m:∀x∈l,0<=x/\x<256) (p:l.length<=100000000):
  Calls Tryz.prog 41 #[.string (strOf l), .bool has] w λe w'=>e= .returned (.bool (Ur l has))/\w=w':=by
 have i:=η (NJ l);have b:=η (a3r m);by_cases g:l.length<=4096
 rotate_left
 · have a:Hid (Ur l has=false):=by show _=_;unfold Ur;simp [g]
   have f:¬(l.length:Int)<=4096:=ω;have c:(strOf l).size=l.length:=i.out
   go_in
   go_wp2;go_ret;exact⟨by rw[a.out];rfl,rfl⟩
 have f:(l.length:Int)<=4096:=ω;have hd:decide (l.length<=4096)=true:=aX g;have c:(strOf l).size=l.length:=i.out;by_cases d:nz l<l.length
 · have a:Hid (Ur l has=false):=by show _=_;unfold Ur;simp [d]
   have j:((nz l:Int)<0)=False:=σ;rw[aa d]at b
   go_in
   go_wp2_with (go_at_call 55;refine(zb _ _ _).mono ?_;rintro h w1 ⟨rfl,rfl⟩;rw[b.out])
   go_ret;exact⟨by rw[a.out];rfl,rfl⟩
 rw[a8 d]at b;cases has with
 | true=>
   have a:Hid (Ur l true=true):=by show _=_;unfold Ur;simp [g];omega
   go_in
   go_wp2_with (go_at_call 55;refine(zb _ _ _).mono ?_;rintro h w1 ⟨rfl,rfl⟩;rw[b.out])
   go_ret;exact⟨by rw[a.out];rfl,rfl⟩
 | false=>
   cases l with
   | nil=>
     have a:Hid (Ur [] false=true):=by show _=_;decide
     have k:(strOf []).toList.isEmpty=true:=by rw[show(strOf []).toList=[] from(toList_nil_iff_emptyBytes _).2 rfl];rfl
     go_in
     go_wp2_with (go_at_call 55;refine(zb _ _ _).mono ?_;rintro h w1 ⟨rfl,rfl⟩;rw[b.out])
     go_ret;exact⟨by rw[a.out];rfl,rfl⟩
   | cons x l=>
     have a:Hid (Ur (x::l) false=false):=by show _=_;unfold Ur;simp
     have k:(strOf (x::l)).toList.isEmpty=false:=by
      cases n:(strOf (x::l)).toList with
      | nil=>
        have o:=(toList_nil_iff_emptyBytes _).1 n;have h7:=i.out;rw[o]at h7;simp at h7
      | cons=>rfl
     go_in
     go_wp2_with (go_at_call 55;refine(zb _ _ _).mono ?_;rintro h w1 ⟨rfl,rfl⟩;rw[b.out])
     go_ret;exact⟨by rw[a.out];rfl,rfl⟩
structure HP where
 tx:Bool
 sm:Bool
 tm:Int
 fl:Int
 sy:Int
 xl:ag
 hE:Bool
 nl:ag
 cl:ag
 hN:Bool
 hC:Bool
def HP.v (h:HP) (ex:Value):HV:= ⟨h.tx,h.sm,h.tm,h.fl,h.sy,ex,h.hE,strOf h.nl,strOf h.cl,h.hN,h.hC⟩
def HP.F (h:HP):Int:=b2i h.tx 1+b2i h.sm 2+b2i h.hE 4+b2i h.hN 8+b2i h.hC 16
def HP.p0 (h:HP):ag:=[31,139,8,h.F]++tW 4 h.tm++[h.fl,h.sy]
def HP.p1 (h:HP):ag:=h.p0++if h.hE then tW 2 h.xl.length++h.xl else []
def HP.p2 (h:HP):ag:=h.p1++if h.hN then h.nl++[0] else []
def HP.p3 (h:HP):ag:=h.p2++if h.hC then h.cl++[0] else []
def HP.p4 (h:HP):ag:=h.p3++if h.sm then tW 2 (nL (pD (nL 0) h.p3 h.p3.length))else []
theorem zB {a b:ag} (e:∀x∈a,0<=x/\x<256) (d:∀x∈b,0<=x/\x<256):∀x∈a++b,0<=x/\x<256:=λx c=>(aQ.1 c).elim (e x) (d x)
def vH:HP:= ⟨false,false,0,0,0,[],false,[],[],false,false⟩
theorem B5:vH.p4=[31,139,8,0,0,0,0,0,0,0]:=δ
end Go.Proofs.YtgiimmkmjpbecaaGreat
