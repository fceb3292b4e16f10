/-
  For seat F: the blocks of five cells lie in XCRoom. Conditions: none.
-/
import Derived.Test.YthaagngoefieaaaDoorCRoom
