/- The data of the printer's statements: expressions, types, tables, as values and as cells. -/
import Derived.Test.YtekngilbecjkhaaGreatDoorGi
namespace Go.Proofs.YtekngilbecjkhaaGreatDoor
open Go.Sx Go.Proofs
structure Fac where
 name:Str
 exp:Int
deriving DecidableEq,Inhabited
def Fac.cells(f:Fac):List AV:=[sv f.name,iv f.exp]
structure Val where
 kind:Int
 n:Int
 s:Str
deriving DecidableEq,Inhabited
def Val.cells(v:Val):List AV:=[iv v.kind,iv v.n,sv v.s]
structure Win where
 kind:Int
 size:Int
deriving DecidableEq,Inhabited
def Win.cells(w:Win):List AV:=[iv w.kind,iv w.size]
structure Ty where
 kind:Int
 unit:List Fac
 of:Str
deriving DecidableEq,Inhabited
def Ty.cells(t:Ty):List AV:=[iv t.kind,.sl false 2 (t.unit.map Fac.cells),sv t.of]
inductive Ex where
 |mk (kind:Int) (op name table:Str) (val:Val) (unit:List Fac) (param:Int) (win:Win) (args:List Ex)
deriving Inhabited
def Ex.kind:Ex→Int| .mk k _ _ _ _ _ _ _ _=>k
def Ex.op:Ex→Str| .mk _ o _ _ _ _ _ _ _=>o
def Ex.name:Ex→Str| .mk _ _ n _ _ _ _ _ _=>n
def Ex.table:Ex→Str| .mk _ _ _ t _ _ _ _ _=>t
def Ex.val:Ex→Val| .mk _ _ _ _ v _ _ _ _=>v
def Ex.unit:Ex→List Fac| .mk _ _ _ _ _ u _ _ _=>u
def Ex.param:Ex→Int| .mk _ _ _ _ _ _ p _ _=>p
def Ex.win:Ex→Win| .mk _ _ _ _ _ _ _ w _=>w
def Ex.args:Ex→List Ex| .mk _ _ _ _ _ _ _ _ ks=>ks
mutual
def Ex.cells:Ex→List AV
 | .mk k o n t v u p w ks=>[iv k,sv o,sv n,sv t,iv v.kind,iv v.n,sv v.s,.sl false 2 (u.map Fac.cells),iv p,iv w.kind,iv w.size,.sl false 12 (Ex.cellsL ks)]
def Ex.cellsL:List Ex→List (List AV)
 |[]=>[]
 |x::l=>x.cells::Ex.cellsL l
end
theorem Ex.cellsL_eq:∀ l:List Ex,Ex.cellsL l=l.map Ex.cells
 |[]=>rfl
 |x::l=>by rw[Ex.cellsL,Ex.cellsL_eq l];rfl
def Ex.row(x:Ex):List AV:=[iv x.kind,sv x.op,sv x.name,sv x.table,iv x.val.kind,iv x.val.n,sv x.val.s,.sl false 2 (x.unit.map Fac.cells),iv x.param,iv x.win.kind,iv x.win.size,.sl false 12 (x.args.map Ex.cells)]
theorem Ex.cells_row:Ex.cells=Ex.row:=funext fun x=>by
 cases x
 simp only[Ex.cells,Ex.row,Ex.cellsL_eq,Ex.kind,Ex.op,Ex.name,Ex.table,Ex.val,Ex.unit,Ex.param,Ex.win,Ex.args]
theorem Ex.row_eq(x:Ex):x.row=[iv x.kind,sv x.op,sv x.name,sv x.table,iv x.val.kind,iv x.val.n,sv x.val.s,.sl false 2 (x.unit.map Fac.cells),iv x.param,iv x.win.kind,iv x.win.size,.sl false 12 (x.args.map Ex.row)]:=by
 rw[← Ex.cells_row]
 have:=congrFun Ex.cells_row x
 rw[this]
 rfl
mutual
def Ex.size:Ex→Nat
 | .mk _ _ _ _ _ _ _ _ ks=>1+Ex.sizeL ks
def Ex.sizeL:List Ex→Nat
 |[]=>0
 |x::l=>x.size+Ex.sizeL l
end
mutual
def Ex.depth:Ex→Nat
 | .mk _ _ _ _ _ _ _ _ ks=>Ex.depthL ks+1
def Ex.depthL:List Ex→Nat
 |[]=>0
 |x::l=>max x.depth (Ex.depthL l)
end
theorem Ex.size_args(x:Ex):x.size=1+Ex.sizeL x.args:=by cases x;rfl
theorem Ex.depth_args(x:Ex):x.depth=Ex.depthL x.args+1:=by cases x;rfl
theorem Ex.size_pos(x:Ex):0<x.size:=by rw[Ex.size_args];omega
theorem Ex.sizeL_mem{l:List Ex}{y:Ex}(h:y∈l):y.size≤Ex.sizeL l:=by
 induction l with
 |nil=>cases h
 |cons x l ih=>
  rw[Ex.sizeL]
  rcases List.mem_cons.1 h with rfl|h
  ·omega
  ·have:=ih h;omega
theorem Ex.size_lt{x y:Ex}(h:y∈x.args):y.size<x.size:=by
 have:=Ex.sizeL_mem h
 rw[Ex.size_args x];omega
theorem Ex.sizeL_take{l:List Ex}{i:Nat}(h:i<l.length):Ex.sizeL (l.take (i+1))=Ex.sizeL (l.take i)+(l.getD i default).size:=by
 induction l generalizing i with
 |nil=>simp at h
 |cons x l ih=>
  cases i with
  |zero=>simp[Ex.sizeL]
  |succ i=>
   have:=ih (i:=i) (by simpa using h)
   simp only[List.take_succ_cons,Ex.sizeL,List.getD_cons_succ,this]
   omega
theorem Ex.sizeL_take_le(l:List Ex)(i:Nat):Ex.sizeL (l.take i)≤Ex.sizeL l:=by
 induction l generalizing i with
 |nil=>simp
 |cons x l ih=>
  cases i with
  |zero=>simp[Ex.sizeL]
  |succ i=>simp only[List.take_succ_cons,Ex.sizeL];have:=ih i;omega
theorem Ex.depthL_take{l:List Ex}{i:Nat}(h:i<l.length):Ex.depthL (l.take (i+1))=max (Ex.depthL (l.take i)) (l.getD i default).depth:=by
 induction l generalizing i with
 |nil=>simp at h
 |cons x l ih=>
  cases i with
  |zero=>simp[Ex.depthL]
  |succ i=>
   have:=ih (i:=i) (by simpa using h)
   simp only[List.take_succ_cons,Ex.depthL,List.getD_cons_succ,this]
   omega
mutual
theorem Ex.depth_le:∀ x:Ex,x.depth≤x.size
 | .mk _ _ _ _ _ _ _ _ ks=>by rw[Ex.depth,Ex.size];have:=Ex.depthL_le ks;omega
theorem Ex.depthL_le:∀ l:List Ex,Ex.depthL l≤Ex.sizeL l
 |[]=>Nat.le_refl _
 |x::l=>by rw[Ex.depthL,Ex.sizeL];have:=Ex.depth_le x;have:=Ex.depthL_le l;omega
end
theorem Ex.ind{C:Ex→Prop}(h:∀ x,(∀ y∈x.args,C y)→C x)(x:Ex):C x:=by
 have:∀ n x,Ex.size x≤n→C x:=by
  intro n
  induction n with
  |zero=>intro x hx;have:=Ex.size_pos x;omega
  |succ n ih=>intro x hx;exact h x fun y hy=>ih y (by have:=Ex.size_lt hy;omega)
 exact this x.size x (Nat.le_refl _)
structure Fld where
 name:Str
 type:Ty
deriving DecidableEq,Inhabited
def Fld.cells(f:Fld):List AV:=[sv f.name,iv f.type.kind,.sl false 2 (f.type.unit.map Fac.cells),sv f.type.of]
structure Tab where
 name:Str
 entity:Str
 fields:List Fld
 keep:Int
deriving DecidableEq,Inhabited
def Tab.cells(t:Tab):List AV:=[sv t.name,sv t.entity,.sl false 4 (t.fields.map Fld.cells),iv t.keep]
structure Fea where
 name:Str
 entity:Str
 type:Ty
 body:Ex
 version:Int
deriving Inhabited
def Fea.cells(f:Fea):List AV:=[sv f.name,sv f.entity,iv f.type.kind,.sl false 2 (f.type.unit.map Fac.cells),sv f.type.of,iv f.body.kind,sv f.body.op,sv f.body.name,sv f.body.table,iv f.body.val.kind,iv f.body.val.n,sv f.body.val.s,.sl false 2 (f.body.unit.map Fac.cells),iv f.body.param,iv f.body.win.kind,iv f.body.win.size,.sl false 12 (f.body.args.map Ex.cells),iv f.version]
structure Mdl where
 tables:List Tab
 features:List Fea
deriving Inhabited
def Mdl.cells(m:Mdl):List AV:=[.sl false 4 (m.tables.map Tab.cells),.sl false 18 (m.features.map Fea.cells)]
end Go.Proofs.YtekngilbecjkhaaGreatDoor
