/- Boxes. -/
import Derived.Test.YtenfgknhongaaaaFn26
set_option linter.unusedVariables false
set_option linter.unusedSimpArgs false
namespace Go.Proofs.Ytenfgknhongaaaa.Fn
open Go Hl Sp Ty
set_option maxRecDepth 100000

def kindB (kind : Int) : Bool := decide (kind ≥ 1 ∧ kind ≤ 10)
/-- The bytes of a box. -/
def boxB (kind k : Int) (body : List UInt8) : List UInt8 := [66, u8 kind] ++ numB k 8 false ++ [u8 ((body.length : Int).fdiv (2 ^ 8)), u8 body.length] ++ body
def boxE (kind k : Int) (body : List UInt8) : Int := if kindB kind = false then 104 else if clsZ k = 0 then 10 else if (body.length : Int) > 1000 then 105 else 0
/-- What Make answers. -/
def boxM (kind k : Int) (body : List UInt8) : AV := .tup [.lst 1 ((if boxE kind k body = 0 then boxB kind k body else []).map byteA), .raw (.int .i64 (boxE kind k body))]
theorem Weak1.st {own own' : Own} {cs cs' : List AV} (h : Weak own cs own' cs') : Weak1 own (.st cs) own' (.st cs') := fun w F v hf ho hr => by
  simp only [Rep] at hr ⊢
  obtain ⟨xs, rfl, hx, h1⟩ := hr
  obtain ⟨F', h2, h3⟩ := h w F xs hf ho hx
  exact ⟨F', h2, xs, rfl, h3, h1⟩

/-- What Read of a box reads: kind, key, body, length, error. -/
def boxR (b : List UInt8) : Int × Int × List UInt8 × Int × Int :=
  let c1 : Int := ((b.getD 1 0).toNat : Int)
  let n : Nat := 256 * (b.getD 10 0).toNat + (b.getD 11 0).toNat
  let q := keyR ((b.drop 2).take 8)
  if (b.length : Int) < 12 then (0, 0, [], 0, 101)
  else if ((b.getD 0 0).toNat : Int) ≠ 66 ∨ kindB c1 = false ∨ q.2 = false ∨ (n : Int) > 1000 then (0, 0, [], 0, 100)
  else if (b.length : Int) < 12 + n then (0, 0, [], 0, 101)
  else (c1, q.1, (b.drop 12).take n, 12 + n, 0)
def boxA (r : Int × Int × List UInt8 × Int × Int) : AV :=
  if r.2.2.2.2 = 0 then .tup [.st [.raw (.int .i64 r.1), .raw (.int .u64 r.2.1), .lst 1 (r.2.2.1.map byteA)], .raw (.int .i64 r.2.2.2.1), .raw (.int .i64 0)]
  else .tup [.st [.raw (.int .i64 0), .raw (.int .u64 0), .raw (.slice none 0 0)], .raw (.int .i64 0), .raw (.int .i64 r.2.2.2.2)]
theorem Clone_pure (bs : List UInt8) (hn : bs.length ≤ 140737488355328) : PC Try.prog 120 [.lst 1 (bs.map byteA)] (.lst 1 (bs.map byteA)) :=
  PC.of_row (by omega) fun own K h => Clone_own bs hn own K h
/-- The body of a box of a kind with a key. -/
def openR (b : List UInt8) (kind k : Int) : Option (List UInt8) :=
  let r := boxR b
  if r.2.2.2.2 = 0 ∧ r.2.2.2.1 = b.length ∧ r.1 = kind ∧ r.2.1 = k then some r.2.2.1 else none
def openA : Option (List UInt8) → AV
  | none => .tup [.lst 1 [], .raw (.bool false)]
  | some x => .tup [.lst 1 (x.map byteA), .raw (.bool true)]
end Go.Proofs.Ytenfgknhongaaaa.Fn
