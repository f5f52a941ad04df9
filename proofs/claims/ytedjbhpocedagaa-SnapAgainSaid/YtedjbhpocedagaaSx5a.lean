/- A symbolic evaluator over the model's code, part 5a: values in passing style. -/
import Derived.Test.YtedjbhpocedagaaSx2
namespace Go.Proofs.Ytedjbhpocedagaa.Sx
open Go.RowKit
mutual
def concK (x : SV) (k : Value → Prop) : Prop := match x with
  | .v x => k x
  | .b x => k (.bool x)
  | .p _ b o => k (.pointer (some ⟨b, o, none⟩))
  | .sl _ b o n c => k (.slice (some ⟨b, o, none⟩) n c)
  | .row _ oa n cap => k (.slice oa n cap)
  | .re _ oa _ _ j => k (.pointer (oa.map (·.add j)))
  | .fn f a c => concLK a fun a' => concLK c fun c' => k (.func f ⟨a'⟩ ⟨c'⟩)
  | .yl _ l => k (.func (.yield l) #[] #[])
  | .agg l => concLK l fun l' => k (.agg ⟨l'⟩)
  | .tup l => concLK l fun l' => k (.tuple ⟨l'⟩)
def concLK (l : List SV) (k : List Value → Prop) : Prop := match l with
  | [] => k []
  | x :: r => concK x fun v => concLK r fun vs => k (v :: vs)
end
mutual
theorem concK_spec : ∀ (x : SV) {k : Value → Prop}, concK x k → k (conc x)
  | .v _, _, h => h
  | .b _, _, h => h
  | .p _ _ _, _, h => h
  | .sl _ _ _ _ _, _, h => h
  | .row _ _ _ _, _, h => h
  | .re _ _ _ _ _, _, h => h
  | .yl _ _, _, h => h
  | .fn f a c, k, h => by
    have h1 := concLK_spec a (k := fun a' => concLK c fun c' => k (.func f ⟨a'⟩ ⟨c'⟩)) (by simpa only [concK] using h)
    exact concLK_spec c h1
  | .agg l, k, h => concLK_spec l (k := fun l' => k (.agg ⟨l'⟩)) (by simpa only [concK] using h)
  | .tup l, k, h => concLK_spec l (k := fun l' => k (.tuple ⟨l'⟩)) (by simpa only [concK] using h)
theorem concLK_spec : ∀ (l : List SV) {k : List Value → Prop}, concLK l k → k (concL l)
  | [], _, h => by simpa only [concLK, concL] using h
  | x :: r, k, h => by
    have h1 := concK_spec x (k := fun v => concLK r fun vs => k (v :: vs)) (by simpa only [concLK] using h)
    exact concLK_spec r h1
end

end Go.Proofs.Ytedjbhpocedagaa.Sx
