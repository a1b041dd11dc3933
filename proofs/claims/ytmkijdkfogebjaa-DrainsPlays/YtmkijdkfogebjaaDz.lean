/-
  All contracts in one. Conditions: none.
-/
import Derived.Test.YtmkijdkfogebjaaDg
import Derived.Test.YtmkijdkfogebjaaPAx2
