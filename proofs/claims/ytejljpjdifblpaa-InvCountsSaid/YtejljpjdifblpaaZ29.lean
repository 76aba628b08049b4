/- Contracts of functions of the program, proved by the checker; and plain laws. -/
import Derived.Test.YtejljpjdifblpaaZ26
import Derived.Test.YtejljpjdifblpaaZ19
import Derived.Test.YtejljpjdifblpaaZ00
set_option linter.unusedVariables false
set_option linter.unusedSimpArgs false
namespace Go.Proofs.Ytejljpjdifblpaa
open Go Go.Sk
theorem cell_set {g:Gm} (hg:g.ok) {n c:Int} (n0:0≤n) (n1:n≤2 * g.nk) (c0:0≤c) (mod:Int):(zeroI g mod).men.set n.toNat ((nth (zeroI g mod).men n).set c.toNat 1)=(cellI g mod n c).men:=by
 rw [zeroI_men,tabL_set n0 (by omega) c0]
 exact tabL_congr fun m d _ _ _ _=>rfl
structure CanM (g:Gm) (col:List Int) (A B D E F:Int→List Iv) (C:Int→Int→List Iv):Prop where
 a0:A 0=[]
 a1:∀ n:Int,0≤n→A (n+1)=A n++[cntI g [n+1] []]
 b0:B 0=A (2 * g.nk)
 bs:∀ k:Int,0≤k→B (k+1)=B k++[cntI g [1+2 * k,2+2 * k] [k]]
 c0:C 0 0=B g.nk++[cntI g ((ints (2 * g.nk)).map (·+1)) (ints g.nk)]
 cs:∀ n c:Int,0≤n→0≤c→C n (c+1)=C n c++[cellI g 2 (n+1) c]
 cn:∀ n:Int,0≤n→C n g.b.cells=C (n+1) 0
 d0:D 0=C (2 * g.nk) 0
 ds:∀ r:Int,0≤r→D (r+1)=D r++[rightI g r]
 e0:E 0=D g.rights
 es:∀ n:Int,0≤n→E (n+1)=E n++[colI g col [n+1] 0,colI g col [n+1] 1]
 fin:cands g col=E (2 * g.nk)++[colI g col ((ints (2 * g.nk)).map (·+1)) 0,colI g col ((ints (2 * g.nk)).map (·+1)) 1]
 la:∀ n:Int,0≤n→n≤2 * g.nk→(A n).length≤1000
 lb:∀ n:Int,0≤n→n≤g.nk→(B n).length≤1000
 lc:∀ n c:Int,0≤n→n≤2 * g.nk→0≤c→c≤g.b.cells→(C n c).length≤1000
 ld:∀ n:Int,0≤n→n≤g.rights→(D n).length≤1000
 le:∀ n:Int,0≤n→n≤2 * g.nk→(E n).length≤1000
end Go.Proofs.Ytejljpjdifblpaa
