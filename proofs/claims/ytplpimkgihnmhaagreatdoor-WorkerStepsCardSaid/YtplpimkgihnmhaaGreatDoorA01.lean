/-
  Part of a proof: Pa. For all values.
-/
import Derived.Handy
import Derived.Lib.Hide
import Derived.Lib.SmallJoins
import Derived.Test.YtplpimkgihnmhaaGreatDoorProg
import Derived.WalkKit
set_option maxRecDepth 100000
set_option maxHeartbeats 400000
set_option linter.all false
namespace Go.Proofs.YtplpimkgihnmhaaGreatDoor
open Go.Proofs.Tryz Go.RowKit
section
instance:Coe Int Value:=⟨fun i=>.int .i64 i⟩
instance:Coe Nat Value:=⟨fun i=>.int .i64 (i:Int)⟩
instance:Coe Bool Value:=⟨fun i=>.bool i⟩
instance {x:Int}:CoeDep (List Int) [x] Value:=⟨.int .u64 x⟩
instance {x:Nat}:CoeDep (List Nat) [x] Value:=⟨.int .u64 (x:Int)⟩
instance {x y:Nat}:CoeDep (Nat×Nat) (x,y) Value:=⟨.pointer (some ⟨x,y,none⟩)⟩
instance {x y:Nat}:CoeDep (Nat×Nat) (x,y) Addr:=⟨⟨x,y,none⟩⟩
instance {x:Int}:CoeDep (List Int) [x] (Option Value):=⟨some (.int .u64 x)⟩
instance {x:Nat}:CoeDep (List Nat) [x] (Option Value):=⟨some (.int .u64 (x:Int))⟩
instance {x y:Nat}:CoeDep (Nat×Nat) (x,y) (Option Value):=⟨some (.pointer (some ⟨x,y,none⟩))⟩
instance:CoeTail Int (Option Value):=⟨fun i=>some (.int .i64 i)⟩
instance:CoeTail Nat (Option Value):=⟨fun i=>some (.int .i64 (i:Int))⟩
instance:CoeTail Bool (Option Value):=⟨fun i=>some (.bool i)⟩
instance:CoeDep Nat 2 (Array Value):=⟨#[.int .u64 0,.int .u64 0]⟩
instance:CoeDep Int 2 (Array Value):=⟨#[.int .i64 0,.int .i64 0]⟩
instance:CoeDep Nat 3 (Array Value):=⟨#[.int .u64 0,.int .u64 0,.int .u64 0]⟩
instance:CoeDep Int 3 (Array Value):=⟨#[.int .i64 0,.int .i64 0,.int .i64 0]⟩
instance:CoeDep Nat 4 (Array Value):=⟨#[.int .u64 0,.int .u64 0,.int .u64 0,.int .u64 0]⟩
instance:CoeDep Int 4 (Array Value):=⟨#[.int .i64 0,.int .i64 0,.int .i64 0,.int .i64 0]⟩
instance:CoeDep Nat 9 (Array Value):=⟨#[.int .u64 0,.int .u64 0,.int .u64 0,.int .u64 0,.int .u64 0,.int .u64 0,.int .u64 0,.int .u64 0,.int .u64 0]⟩
instance:CoeDep Int 9 (Array Value):=⟨#[.int .i64 0,.int .i64 0,.int .i64 0,.int .i64 0,.int .i64 0,.int .i64 0,.int .i64 0,.int .i64 0,.int .i64 0]⟩
instance:CoeDep Nat 16 (Array Value):=⟨#[.int .u64 0,.int .u64 0,.int .u64 0,.int .u64 0,.int .u64 0,.int .u64 0,.int .u64 0,.int .u64 0,.int .u64 0,.int .u64 0,.int .u64 0,.int .u64 0,.int .u64 0,.int .u64 0,.int .u64 0,.int .u64 0]⟩
instance:CoeDep Int 16 (Array Value):=⟨#[.int .i64 0,.int .i64 0,.int .i64 0,.int .i64 0,.int .i64 0,.int .i64 0,.int .i64 0,.int .i64 0,.int .i64 0,.int .i64 0,.int .i64 0,.int .i64 0,.int .i64 0,.int .i64 0,.int .i64 0,.int .i64 0]⟩
instance:CoeDep Nat 17 (Array Value):=⟨#[.int .u64 0,.int .u64 0,.int .u64 0,.int .u64 0,.int .u64 0,.int .u64 0,.int .u64 0,.int .u64 0,.int .u64 0,.int .u64 0,.int .u64 0,.int .u64 0,.int .u64 0,.int .u64 0,.int .u64 0,.int .u64 0,.int .u64 0]⟩
instance:CoeDep Int 17 (Array Value):=⟨#[.int .i64 0,.int .i64 0,.int .i64 0,.int .i64 0,.int .i64 0,.int .i64 0,.int .i64 0,.int .i64 0,.int .i64 0,.int .i64 0,.int .i64 0,.int .i64 0,.int .i64 0,.int .i64 0,.int .i64 0,.int .i64 0,.int .i64 0]⟩
instance:CoeDep Nat 18 (Array Value):=⟨#[.int .u64 0,.int .u64 0,.int .u64 0,.int .u64 0,.int .u64 0,.int .u64 0,.int .u64 0,.int .u64 0,.int .u64 0,.int .u64 0,.int .u64 0,.int .u64 0,.int .u64 0,.int .u64 0,.int .u64 0,.int .u64 0,.int .u64 0,.int .u64 0]⟩
instance:CoeDep Int 18 (Array Value):=⟨#[.int .i64 0,.int .i64 0,.int .i64 0,.int .i64 0,.int .i64 0,.int .i64 0,.int .i64 0,.int .i64 0,.int .i64 0,.int .i64 0,.int .i64 0,.int .i64 0,.int .i64 0,.int .i64 0,.int .i64 0,.int .i64 0,.int .i64 0,.int .i64 0]⟩
instance:CoeDep Nat 32 (Array Value):=⟨#[.int .u64 0,.int .u64 0,.int .u64 0,.int .u64 0,.int .u64 0,.int .u64 0,.int .u64 0,.int .u64 0,.int .u64 0,.int .u64 0,.int .u64 0,.int .u64 0,.int .u64 0,.int .u64 0,.int .u64 0,.int .u64 0,.int .u64 0,.int .u64 0,.int .u64 0,.int .u64 0,.int .u64 0,.int .u64 0,.int .u64 0,.int .u64 0,.int .u64 0,.int .u64 0,.int .u64 0,.int .u64 0,.int .u64 0,.int .u64 0,.int .u64 0,.int .u64 0]⟩
instance:CoeDep Int 32 (Array Value):=⟨#[.int .i64 0,.int .i64 0,.int .i64 0,.int .i64 0,.int .i64 0,.int .i64 0,.int .i64 0,.int .i64 0,.int .i64 0,.int .i64 0,.int .i64 0,.int .i64 0,.int .i64 0,.int .i64 0,.int .i64 0,.int .i64 0,.int .i64 0,.int .i64 0,.int .i64 0,.int .i64 0,.int .i64 0,.int .i64 0,.int .i64 0,.int .i64 0,.int .i64 0,.int .i64 0,.int .i64 0,.int .i64 0,.int .i64 0,.int .i64 0,.int .i64 0,.int .i64 0]⟩
instance:Coe World Nat:=⟨fun w=>w.heap.size⟩
theorem I{p:Prop}(h:p:=by omega):p:=h
theorem J{p:Prop}(h:p:=by kernel_rfl):p:=h
theorem aJ{p:Prop}(h:p:=by decide):p:=h
theorem aG{p:Prop}(h:p:=by go_num):p:=h
theorem aH{p:Prop}(h:p):Hid p:=Lib.hid h
instance {w:World} {k:Nat}:CoeDep (World×Nat) (w,k) Nat:=⟨w.heap.size+k⟩
instance {w:World} {k:Nat}:CoeDep (World×Nat) (w,k) Addr:=⟨⟨w.heap.size+k,0,none⟩⟩
instance {w:World} {k o:Nat}:CoeDep ((World×Nat)×Nat) ((w,k),o) Addr:=⟨⟨w.heap.size+k,o,none⟩⟩
instance {w:World} {k:Nat}:CoeDep (World×Nat) (w,k) Value:=⟨.pointer (some ⟨w.heap.size+k,0,none⟩)⟩
instance {w:World} {k o:Nat}:CoeDep ((World×Nat)×Nat) ((w,k),o) Value:=⟨.pointer (some ⟨w.heap.size+k,o,none⟩)⟩
instance {w:World} {k:Nat}:CoeDep (World×Nat) (w,k) (Option Value):=⟨some (.pointer (some ⟨w.heap.size+k,0,none⟩))⟩
instance {w:World} {k o:Nat}:CoeDep ((World×Nat)×Nat) ((w,k),o) (Option Value):=⟨some (.pointer (some ⟨w.heap.size+k,o,none⟩))⟩
instance:Coe World Addr:=⟨fun w=>⟨w.heap.size,0,none⟩⟩
instance:Coe World Value:=⟨fun w=>.pointer (some ⟨w.heap.size,0,none⟩)⟩
instance:CoeTail World (Option Value):=⟨fun w=>some (.pointer (some ⟨w.heap.size,0,none⟩))⟩
theorem aO{α:Sort _}(e:α):∃x,x=e:=⟨_,rfl⟩
theorem aP{α:Sort _}(e:α):∃x,e=x:=⟨_,rfl⟩
theorem iN{c:Prop}{h:Decidable c}(hc:¬c){α:Sort _}{t e:α}:ite c t e=e:=if_neg hc
theorem iP{c:Prop}{h:Decidable c}(hc:c){α:Sort _}{t e:α}:ite c t e=t:=if_pos hc
end
end Go.Proofs.YtplpimkgihnmhaaGreatDoor
